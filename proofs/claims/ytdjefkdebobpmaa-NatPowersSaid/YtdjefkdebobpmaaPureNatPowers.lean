/- For every byte n, ten to the power of n modulo 60, made by products, has one limb that isn't 0, at its place, and ten divides it as it should. -/
import Derived.Test.YtdjefkdebobpmaaPAllx12
import Derived.Test.YtdjefkdebobpmaaNatG
namespace Go.Proofs.Ytdjefkdebobpmaa.Pure
open Go.RowKit Go.Proofs.Ytdjefkdebobpmaa.PAll Go.Proofs.YtdjefkdebobpmaaW.PrintWords Go.Proofs.YtdjefkdebobpmaaW.PrintLast Go.Proofs.YtdjefkdebobpmaaW.PrintMore Go.Proofs.Ytdjefkdebobpmaa.NatA Go.Proofs.Ytdjefkdebobpmaa.NatB Go.Proofs.Ytdjefkdebobpmaa.NatC Go.Proofs.Ytdjefkdebobpmaa.NatD Go.Proofs.Ytdjefkdebobpmaa.NatE Go.Proofs.Ytdjefkdebobpmaa.NatF Go.Proofs.Ytdjefkdebobpmaa.NatG

theorem pow_split (k : Nat) : 10 ^ k = 10 ^ (k % 9) * P (k / 9) := by
  have h : P (k / 9) = 10 ^ (9 * (k / 9)) := by
    unfold P
    rw [show (1000000000 : Nat) = 10 ^ 9 by rfl, ← Nat.pow_mul]
  rw [h, ← Nat.pow_add]
  congr 1
  omega
theorem pow_small {j : Nat} (h : j ≤ 8) : 10 ^ j ≤ 100000000 := by
  have : 10 ^ j ≤ 10 ^ 8 := Nat.pow_le_pow_right (by omega) h
  exact this
theorem pow_lt {k : Nat} (h : k < 61) : 10 ^ k < P 7 := by
  have h1 := pow_split k
  have h2 := pow_small (j := k % 9) (by omega)
  have h3 : 10 ^ (k % 9) * P (k / 9) ≤ 100000000 * P (k / 9) := Nat.mul_le_mul_right _ h2
  have h4 : P (k / 9 + 1) ≤ P 7 := P_mono (by omega)
  rw [P_succ] at h4
  have h5 := P_pos (k / 9)
  omega
theorem powers_end (k : Nat) (hk : k < 60) : Ev (fun n => mullionlaw1_NatPowers.l2 n (k : Int) (digs (10 ^ k)) ((10 ^ (k % 9) : Nat) : Int) ((k / 9 : Nat) : Int)) true := by
  have hs := pow_split k
  have hp0 : 0 < 10 ^ (k % 9) := Nat.pow_pos (by omega)
  have hp1 := pow_small (j := k % 9) (by omega)
  have hl := digs_one (c := 10 ^ (k % 9)) (q := k / 9) hp0 (by omega)
  rw [← hs] at hl
  have hlen : (digs (10 ^ k)).length = k / 9 + 1 := by rw [hl]; simp
  have hlt := pow_lt (k := k) (by omega)
  have h10 : 10 < P 7 := by have := pow_lt (k := 1) (by omega); exact this
  have o10 := Of_ev 10 (by omega)
  have dv := pdiv hlt h10 (by omega) (by omega)
  have fin : 0 < k → Ev (fun n => if (k : Int) > 0 then (if ((digs (10 ^ k % 10)).length : Int) = 0 then ((nat_Of.f n 10).bind fun t => (nat_Mul.f n (digs (10 ^ k / 10)) t).bind fun u => (nat_Cmp.f n u (digs (10 ^ k))).bind fun v => some (v == 0)) else none) else none) true := by
    intro h
    obtain ⟨j, rfl⟩ : ∃ j, k = j + 1 := ⟨k - 1, by omega⟩
    have e1 : 10 ^ (j + 1) % 10 = 0 := by rw [Nat.pow_succ]; omega
    have e2 : 10 ^ (j + 1) / 10 * 10 = 10 ^ (j + 1) := by rw [Nat.pow_succ]; omega
    have hd : 10 ^ (j + 1) / 10 ≤ 10 ^ (j + 1) := Nat.div_le_self _ _
    refine Ev.congr (fun n => if_pos (by omega)) (Ev.congr (fun n => if_pos (by rw [e1, digs_zero]; rfl)) ?_)
    exact Ev.bind o10 (Ev.bind (pmul (m := 7) (n := 7) (by omega) h10 (by omega) (by omega)) (Ev.bind (psame (m := 7) e2 (by omega) (by omega)) (Ev.of_eq (fun _ => rfl))))
  refine Ev.step (fun n => by simp only [mullionlaw1_NatPowers.l2]; rfl) (Ev.congr (fun n => if_neg (by rw [hlen, w64 (by omega) (by omega)]; omega)) (Ev.bind o10 (Ev.bind dv ?_)))
  have hrd : rd (digs (10 ^ k)) (wrap64 (((digs (10 ^ k)).length : Int) - 1)) = ((10 ^ (k % 9) : Nat) : Int) := by
    rw [hlen, w64 (by omega) (by omega), show (((k / 9 + 1 : Nat) : Int) - 1) = ((k / 9 : Nat) : Int) by omega, hl, rd_one_top]
  refine Ev.congr (fun n => if_pos (by rw [hlen, w64 (by omega) (by omega)]; omega)) (Ev.congr (fun n => if_pos (by rw [hlen, w64 (by omega) (by omega)]; omega)) (Ev.congr (fun n => if_pos hrd) ?_))
  by_cases e : k = 0
  · subst e
    refine Ev.congr (fun n => if_pos rfl) (Ev.congr (fun n => if_pos (by rw [show 10 ^ 0 / 10 = 0 by rfl, digs_zero]; rfl)) ?_)
    exact Ev.bind (Of_ev 1 (by omega)) (Ev.bind (psame (m := 7) (show 10 ^ 0 % 10 = 1 by rfl) (by omega) (by omega)) (Ev.of_eq (fun _ => rfl)))
  · exact Ev.congr (fun n => if_neg (by omega)) (fin (by omega))
theorem powers_zeros (k : Nat) (hk : k < 60) (d : Nat) : ∀ i : Nat, i + d = k / 9 → Ev (fun n => mullionlaw1_NatPowers.l2 n (k : Int) (digs (10 ^ k)) ((10 ^ (k % 9) : Nat) : Int) (i : Int)) true := by
  induction d with
  | zero =>
    intro i hi
    obtain rfl : i = k / 9 := by omega
    exact powers_end k hk
  | succ d ih =>
    intro i hi
    have hs := pow_split k
    have hl := digs_one (c := 10 ^ (k % 9)) (q := k / 9) (Nat.pow_pos (by omega)) (by have := pow_small (j := k % 9) (by omega); omega)
    rw [← hs] at hl
    have hlen : (digs (10 ^ k)).length = k / 9 + 1 := by rw [hl]; simp
    refine Ev.step (fun n => ?_) (ih (i + 1) (by omega))
    simp only [mullionlaw1_NatPowers.l2]
    rw [hlen, w64 (x := ((k / 9 + 1 : Nat) : Int) - 1) (by omega) (by omega), if_pos (by omega), if_pos (by omega), if_pos (by omega), if_pos (by rw [hl, rd_one_low (by omega)]), w64 (by omega) (by omega)]
    rfl
theorem powers_last (k : Nat) (hk : k < 60) (d : Nat) : ∀ j : Nat, j + d = k % 9 → Ev (fun n => mullionlaw1_NatPowers.l1 n (k : Int) (digs (10 ^ k)) ((10 ^ j : Nat) : Int) (j : Int)) true := by
  have hm : Int.tmod (k : Int) 9 = ((k % 9 : Nat) : Int) := tmod_nat k 9
  induction d with
  | zero =>
    intro j hj
    obtain rfl : j = k % 9 := by omega
    refine Ev.step (fun n => ?_) (powers_zeros k hk (k / 9) 0 (by omega))
    simp only [mullionlaw1_NatPowers.l1]
    rw [hm, if_neg (by omega)]
    rfl
  | succ d ih =>
    intro j hj
    have hp := pow_small (j := j + 1) (by omega)
    refine Ev.step (fun n => ?_) (ih (j + 1) (by omega))
    simp only [mullionlaw1_NatPowers.l1]
    rw [hm, if_pos (by omega), w64 (by omega) (by omega), show (10 * ((10 ^ j : Nat) : Int)) % 4294967296 = ((10 ^ (j + 1) : Nat) : Int) by rw [Nat.pow_succ] at hp ⊢; omega]
    rfl
theorem powers_loop (k : Nat) (hk : k < 60) (d : Nat) : ∀ i : Nat, i + d = k → Ev (fun n => mullionlaw1_NatPowers.l0 n (k : Int) (digs (10 ^ i)) (i : Int)) true := by
  induction d with
  | zero =>
    intro i hi
    obtain rfl : i = k := by omega
    have hs := pow_split i
    have hl := digs_one (c := 10 ^ (i % 9)) (q := i / 9) (Nat.pow_pos (by omega)) (by have := pow_small (j := i % 9) (by omega); omega)
    rw [← hs] at hl
    have hlen : (digs (10 ^ i)).length = i / 9 + 1 := by rw [hl]; simp
    have hd : Int.tdiv (i : Int) 9 = ((i / 9 : Nat) : Int) := tdiv_nat i 9
    refine Ev.step (fun n => ?_) (powers_last i hk (i % 9) 0 (by omega))
    simp only [mullionlaw1_NatPowers.l0]
    rw [if_neg (by omega), hd, w64 (x := ((i / 9 : Nat) : Int)) (by omega) (by omega), w64 (by omega) (by omega), if_pos (by omega)]
    rfl
  | succ d ih =>
    intro i hi
    have h10 : 10 < P 7 := by have := pow_lt (k := 1) (by omega); exact this
    have hm := pmul (pow_lt (k := i) (by omega)) h10 (by omega) (by omega)
    rw [← Nat.pow_succ] at hm
    refine Ev.step (f := fun n => (nat_Of.f n 10).bind fun t => (nat_Mul.f n (digs (10 ^ i)) t).bind fun u => mullionlaw1_NatPowers.l0 n (k : Int) u ((i + 1 : Nat) : Int)) (fun n => ?_) (Ev.bind (Of_ev 10 (by omega)) (Ev.bind hm (ih (i + 1) (by omega))))
    simp only [mullionlaw1_NatPowers.l0]
    rw [if_pos (by omega), w64 (by omega) (by omega)]
    rfl
theorem NatPowers : mullionlaw1_NatPowers.Pure := by
  intro a0 w0
  have h0 := wf_u8 w0
  obtain ⟨n, rfl⟩ : ∃ n : Nat, a0 = (n : Int) := ⟨a0.toNat, by omega⟩
  have e : wrap64 (Int.tmod (n : Int) 60) = ((n % 60 : Nat) : Int) := by
    have := tmod_nat n 60
    rw [show ((60 : Nat) : Int) = 60 by rfl] at this
    rw [this]
    exact w64 (by omega) (by omega)
  refine Ev.rounds (Ev.congr (fun k => by rw [mullionlaw1_NatPowers.f, e]) (Ev.bind known_ev (Ev.congr (fun k => if_pos rfl) ?_)))
  exact Ev.bind (Of_ev 1 (by omega)) (powers_loop (n % 60) (by omega) (n % 60) 0 (by omega))

end Go.Proofs.Ytdjefkdebobpmaa.Pure
