/- For every byte n, of n modulo 30 and one limbs, all nine hundred million and more, one more goes through all of them; taken away it is back, and the square is as it should. -/
import Derived.Test.YtdjefkdebobpmaaPAllx14
import Derived.Test.YtdjefkdebobpmaaNatG
namespace Go.Proofs.Ytdjefkdebobpmaa.Pure
open Go.RowKit Go.Proofs.Ytdjefkdebobpmaa.PAll Go.Proofs.YtdjefkdebobpmaaW.PrintWords Go.Proofs.YtdjefkdebobpmaaW.PrintLast Go.Proofs.YtdjefkdebobpmaaW.PrintMore Go.Proofs.Ytdjefkdebobpmaa.NatA Go.Proofs.Ytdjefkdebobpmaa.NatB Go.Proofs.Ytdjefkdebobpmaa.NatC Go.Proofs.Ytdjefkdebobpmaa.NatD Go.Proofs.Ytdjefkdebobpmaa.NatE Go.Proofs.Ytdjefkdebobpmaa.NatF Go.Proofs.Ytdjefkdebobpmaa.NatG

theorem nines (k : Nat) : digs (P (k + 1) - 1) = List.replicate (k + 1) 999999999 := by
  have hv : ∀ m : Nat, val (List.replicate m 999999999) + 1 = P m := by
    intro m
    induction m with
    | zero => rfl
    | succ m ih =>
      rw [List.replicate_succ, val_cons, P_succ, ← ih]
      have : (999999999 : Int).toNat = 999999999 := rfl
      omega
  have hm : ∀ x ∈ List.replicate (k + 1) (999999999 : Int), 0 ≤ x ∧ x < 1000000000 := fun x hx => by
    rw [List.eq_of_mem_replicate hx]
    decide
  refine digs_eq hm ?_ ?_
  · rw [List.length_replicate]
    unfold limb
    rw [List.getD_eq_getElem?_getD, List.getElem?_replicate, if_pos (by omega)]
    decide
  · have := hv (k + 1)
    omega
theorem carries_end (k : Nat) (hk : k < 31) : Ev (fun n => mullionlaw1_NatCarries.l1 n ((k + 1 : Nat) : Int) (digs (P (k + 1) - 1)) (digs (P (k + 1))) ((k + 1 : Nat) : Int)) true := by
  have hp := P_pos (k + 1)
  have h1 : P (k + 1) - 1 < P (k + 1) := by omega
  have h2 : P (k + 1) < P (k + 2) := by rw [P_succ (k + 1)]; omega
  have h3 : P (k + 1) - 1 + P (k + 1) < P (k + 2) := by rw [P_succ (k + 1)]; omega
  have o1 := Of_ev 1 (by omega)
  have one : 1 < P 1 := by rw [P_one]; omega
  obtain ⟨p, Ep⟩ : ∃ p, P (k + 1) = p + 1 := ⟨P (k + 1) - 1, by omega⟩
  have sq : (P (k + 1) - 1) * (P (k + 1) - 1) + (P (k + 1) - 1 + P (k + 1)) = P (k + 1) * P (k + 1) := by
    rw [Ep, Nat.add_sub_cancel]
    grind
  have hsq := pprod (m := k + 2) (n := k + 2) h2 h2
  have hsm := pprod (m := k + 1) (n := k + 1) h1 h1
  refine Ev.step (fun n => by simp only [mullionlaw1_NatCarries.l1]; rfl) (Ev.congr (fun n => if_neg (by omega)) ?_)
  refine Ev.bind (pmul h1 h1 (by omega) (by omega)) (Ev.bind o1 (Ev.bind (psub h2 one (by omega) (by omega)) (Ev.bind (psame (m := k + 1) rfl h1 (by omega)) (Ev.congr (fun n => if_pos rfl) ?_))))
  refine Ev.bind (padd h1 h2 (by omega) (by omega)) (Ev.bind (padd hsm h3 (by omega) (by omega)) (Ev.bind (pmul h2 h2 (by omega) (by omega)) (Ev.bind (psame (m := k + 2 + (k + 2)) sq (by rw [sq]; exact hsq) (by omega)) (Ev.of_eq (fun _ => rfl)))))
theorem ones (k : Nat) : digs (P (k + 1)) = List.replicate (k + 1) 0 ++ [1] := by
  have := digs_one (c := 1) (q := k + 1) (by omega) (by omega)
  rw [Nat.one_mul] at this
  exact this
theorem carries_zeros (k : Nat) (hk : k < 31) (d : Nat) : ∀ i : Nat, i + d = k + 1 → Ev (fun n => mullionlaw1_NatCarries.l1 n ((k + 1 : Nat) : Int) (digs (P (k + 1) - 1)) (digs (P (k + 1))) (i : Int)) true := by
  induction d with
  | zero =>
    intro i hi
    obtain rfl : i = k + 1 := by omega
    exact carries_end k hk
  | succ d ih =>
    intro i hi
    have hl := ones k
    have hlen : (digs (P (k + 1))).length = k + 2 := by rw [hl]; simp
    have hrd : rd (digs (P (k + 1))) (i : Int) = 0 := by rw [hl]; exact rd_one_low (c := 1) (by omega)
    refine Ev.step (fun n => ?_) (ih (i + 1) (by omega))
    simp only [mullionlaw1_NatCarries.l1]
    rw [if_pos (by omega), if_pos (by omega), if_pos (by omega), if_pos hrd, w64 (by omega) (by omega)]
    rfl
theorem carries_loop (k : Nat) (hk : k < 31) (d : Nat) : ∀ i : Nat, i + d = k + 1 → Ev (fun n => mullionlaw1_NatCarries.l0 n ((k + 1 : Nat) : Int) (List.replicate i 999999999) (i : Int)) true := by
  induction d with
  | zero =>
    intro i hi
    obtain rfl : i = k + 1 := by omega
    have hp := P_pos (k + 1)
    have hl := ones k
    have hlen : (digs (P (k + 1))).length = k + 2 := by rw [hl]; simp
    have hrd : rd (digs (P (k + 1))) ((k + 1 : Nat) : Int) = 1 := by rw [hl]; exact rd_one_top (c := 1) (q := k + 1)
    have ad := padd (a := P (k + 1) - 1) (b := 1) (m := k + 1) (n := 1) (by omega) (by rw [P_one]; omega) (by omega) (by omega)
    rw [show P (k + 1) - 1 + 1 = P (k + 1) by omega] at ad
    rw [← nines k]
    refine Ev.step (fun n => by simp only [mullionlaw1_NatCarries.l0]; rfl) (Ev.congr (fun n => if_neg (by omega)) ?_)
    refine Ev.bind (Of_ev 1 (by omega)) (Ev.bind ad ?_)
    refine Ev.congr (fun n => if_pos (by rw [w64 (by omega) (by omega)]; omega)) (Ev.congr (fun n => if_pos (by omega)) (Ev.congr (fun n => if_pos (by omega)) ?_))
    refine Ev.step (f := fun n => mullionlaw1_NatCarries.l1 n ((k + 1 : Nat) : Int) (digs (P (k + 1) - 1)) (digs (P (k + 1))) ((0 : Nat) : Int)) (fun n => ?_) (carries_zeros k hk (k + 1) 0 (by omega))
    simp only [mullionlaw1_NatCarries.j1]
    rw [hrd]
    rfl
  | succ d ih =>
    intro i hi
    refine Ev.step (fun n => ?_) (ih (i + 1) (by omega))
    simp only [mullionlaw1_NatCarries.l0]
    rw [if_pos (by omega), if_pos (by simp; omega), w64 (by omega) (by omega), List.replicate_succ']
    rfl
theorem NatCarries : mullionlaw1_NatCarries.Pure := by
  intro a0 w0
  have h0 := wf_u8 w0
  obtain ⟨n, rfl⟩ : ∃ n : Nat, a0 = (n : Int) := ⟨a0.toNat, by omega⟩
  have e : wrap64 ((wrap64 (Int.tmod (n : Int) 30)) + 1) = ((n % 30 + 1 : Nat) : Int) := by
    have := tmod_nat n 30
    rw [show ((30 : Nat) : Int) = 30 by rfl] at this
    rw [this, w64 (x := ((n % 30 : Nat) : Int)) (by omega) (by omega)]
    exact w64 (by omega) (by omega)
  refine Ev.rounds (Ev.congr (fun k => by rw [mullionlaw1_NatCarries.f, e]) (Ev.bind known_ev (Ev.congr (fun k => if_pos rfl) ?_)))
  exact carries_loop (n % 30) (by omega) (n % 30 + 1) 0 (by omega)

end Go.Proofs.Ytdjefkdebobpmaa.Pure
