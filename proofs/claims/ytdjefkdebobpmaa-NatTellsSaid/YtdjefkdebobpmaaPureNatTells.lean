/- For every two rows of limbs and every number of 64 bits, the program's naturals (what is one, comparison, sum, difference, product, quotient, what is left, even) are the reference's: no condition but the law's own guard of at most 8 limbs. -/
import Derived.Test.YtdjefkdebobpmaaPAllx11
import Derived.Test.YtdjefkdebobpmaaNatG
namespace Go.Proofs.Ytdjefkdebobpmaa.Pure
open Go.RowKit Go.Proofs.Ytdjefkdebobpmaa.PAll Go.Proofs.YtdjefkdebobpmaaW.PrintWords Go.Proofs.YtdjefkdebobpmaaW.PrintLast Go.Proofs.Ytdjefkdebobpmaa.NatA Go.Proofs.Ytdjefkdebobpmaa.NatB Go.Proofs.Ytdjefkdebobpmaa.NatC Go.Proofs.Ytdjefkdebobpmaa.NatD Go.Proofs.Ytdjefkdebobpmaa.NatE Go.Proofs.Ytdjefkdebobpmaa.NatF Go.Proofs.Ytdjefkdebobpmaa.NatG

theorem tells_main (l0 l1 : List Int) (a2 : Int) (h0 : NonNeg l0) (h1 : NonNeg l1) (ha0 : 0 ≤ a2) (ha1 : a2 < 18446744073709551616) (hl0 : l0.length ≤ 8) (hl1 : l1.length ≤ 8) : Ev (fun k => mullionlaw1_NatTells.j0 k l0 l1 a2 false) true := by
  have d1 := digs_V_len h0
  have d2 := digs_V_len h1
  have hlen : ∀ x, x < P 16 → (digs x).length < 100000 := fun x hx => by
    have := digs_short hx
    omega
  have P16 : P 8 * P 8 = P 16 := by rw [← P_add]
  have v0 : V l0 < P 8 := (digs_len_le _ _).1 (by omega)
  have v1 : V l1 < P 8 := (digs_len_le _ _).1 (by omega)
  have hp := P_pos 8
  have hmul : V l0 * V l1 < P 16 := by
    rw [← P16]
    have h2 : V l0 * V l1 ≤ V l0 * P 8 := Nat.mul_le_mul_left _ (by omega)
    have h3 : V l0 * P 8 < P 8 * P 8 := (Nat.mul_lt_mul_right hp).2 v0
    omega
  have hbig : 2 * P 8 ≤ P 16 := by
    rw [← P16]
    exact Nat.mul_le_mul_right _ (by rw [show P 8 = P (7 + 1) by rfl, P_succ]; have := P_pos 7; omega)
  have hdle : V l0 / V l1 ≤ V l0 := Nat.div_le_self _ _
  have hmle : V l0 % V l1 ≤ V l0 := Nat.mod_le _ _
  obtain ⟨n, rfl⟩ : ∃ n : Nat, a2 = (n : Int) := ⟨a2.toNat, by omega⟩
  have q1 := Div_ev l0 l1 h0 h1 (by omega) (by omega)
  have q2 := DivNat_ev l0 l1 h0 h1 (by omega) (by omega)
  have q3 := IsNat_ev l0 h0 (by omega)
  have q4 := Is_ev l0 h0 (by omega)
  have q5 := Of_ev n (by omega)
  have q6 := NatOf_ev n (by omega)
  have q7 := Cmp_ev l0 l1 h0 h1 (by omega) (by omega)
  have q8 := CmpNat_ev l0 l1 h0 h1 (by omega) (by omega)
  have q9 := Add_ev l0 l1 h0 h1 (by omega) (by omega)
  have q10 := AddNat_ev l0 l1 h0 h1 (by omega) (by omega)
  have q11 := Sub_ev l0 l1 h0 h1 (by omega) (by omega)
  have q12 := SubNat_ev l0 l1 h0 h1 (by omega) (by omega)
  have q13 := Mul_ev l0 l1 h0 h1 (by omega) (by omega)
  have q14 := MulNat_ev l0 l1 h0 h1 (by omega) (by omega)
  have q15 := Even_ev l0 h0 (by omega)
  have main : ∀ b : Bool, b = decide (V l0 % 2 = 0) → Ev (fun k => mullionlaw1_NatTells.j1 k l0 l1 (n : Int) (digs (V l0 / V l1)) (digs (V l0 % V l1)) (digs (V l0 / V l1)) (digs (V l0 % V l1)) b) true := by
    intro b hb
    refine Ev.step (fun k => by simp only [mullionlaw1_NatTells.j1]; rfl) (Ev.bind q4 (Ev.bind q3 ?_))
    refine Ev.congr (fun k => if_pos (by simp)) (Ev.bind q5 (Ev.bind q6 (Ev.bind (SameNat_ev _ (hlen n (by
      have : P 3 ≤ P 16 := P_mono (by omega)
      have h3 : P 3 = 1000000000000000000000000000 := by unfold P; rfl
      omega))) ?_)))
    refine Ev.congr (fun k => if_pos rfl) (Ev.bind q7 (Ev.bind q8 ?_))
    refine Ev.congr (fun k => if_pos rfl) (Ev.bind q9 (Ev.bind q10 (Ev.bind (SameNat_ev _ (hlen _ (by omega))) ?_)))
    refine Ev.congr (fun k => if_pos rfl) (Ev.bind q11 (Ev.bind q12 (Ev.bind (SameNat_ev _ (hlen _ (by omega))) ?_)))
    refine Ev.congr (fun k => if_pos rfl) (Ev.bind q13 (Ev.bind q14 (Ev.bind (SameNat_ev _ (hlen _ (by omega))) ?_)))
    refine Ev.congr (fun k => if_pos rfl) (Ev.bind (SameNat_ev _ (hlen _ (by omega))) ?_)
    refine Ev.congr (fun k => if_pos rfl) (Ev.bind (SameNat_ev _ (hlen _ (by omega))) ?_)
    refine Ev.congr (fun k => if_pos rfl) (Ev.bind q15 (Ev.of_eq (fun k => ?_)))
    rw [hb]
    simp
  refine Ev.step (fun k => by simp only [mullionlaw1_NatTells.j0]; rfl) ?_
  refine Ev.congr (fun k => if_neg (by simp)) (Ev.bind q1 (Ev.bind q2 (Ev.bind q3 ?_)))
  by_cases e : isNatB l0 = true
  · refine Ev.congr (fun k => if_pos e) ?_
    have hl := Is_nat e h0
    by_cases e2 : l0.length = 0
    · refine Ev.congr (fun k => if_pos (by omega)) (main true ?_)
      have : V l0 = 0 := by rw [← digs_len_zero, hl]; exact e2
      rw [this]
      rfl
    · refine Ev.congr (fun k => if_neg (by omega)) (Ev.congr (fun k => if_pos (by omega)) (main _ ?_))
      have hpos : 0 < V l0 := by
        rcases Nat.eq_zero_or_pos (V l0) with h | h
        · rw [h, digs_zero] at hl
          rw [← hl] at e2
          exact absurd rfl e2
        · exact h
      have h2 : rd l0 0 = ((V l0 % 1000000000 : Nat) : Int) := by
        conv => lhs; rw [← hl, digs_pos hpos]
        rfl
      have h3 : Int.tmod ((V l0 % 1000000000 : Nat) : Int) 2 = ((V l0 % 1000000000 % 2 : Nat) : Int) := tmod_nat _ 2
      rw [h2, h3, Bool.eq_iff_iff, beq_iff_eq, decide_eq_true_eq]
      omega
  · refine Ev.congr (fun k => if_neg e) (main true ?_)
    have : V l0 = 0 := by rw [V, if_neg e]
    rw [this]
    rfl
theorem NatTells : mullionlaw1_NatTells.Pure := by
  intro l0 l1 a2 _ _ w0 _ _ w1 w2
  have h0 := nonneg_of w0
  have h1 := nonneg_of w1
  have h2 := wf_u64 w2
  have triv : Ev (fun k => mullionlaw1_NatTells.j0 k l0 l1 a2 true) true := Ev.one (fun k => by simp only [mullionlaw1_NatTells.j0]; rw [if_pos trivial])
  refine Ev.rounds (Ev.congr (fun k => by rw [mullionlaw1_NatTells.f]) (Ev.bind known_ev (Ev.congr (fun k => if_pos rfl) ?_)))
  refine Ev.bind (Ev.of_eq (fun _ => few_eq l0)) ?_
  by_cases e0 : l0.length ≤ 8
  · refine Ev.congr (fun k => if_pos (decide_eq_true e0)) (Ev.bind (Ev.of_eq (fun _ => few_eq l1)) ?_)
    by_cases e1 : l1.length ≤ 8
    · exact Ev.congr (fun k => by rw [decide_eq_true e1]; rfl) (tells_main l0 l1 a2 h0 h1 h2.1 h2.2 e0 e1)
    · exact Ev.congr (fun k => by rw [decide_eq_false e1]; rfl) triv
  · exact Ev.congr (fun k => if_neg (by simp [e0])) triv

end Go.Proofs.Ytdjefkdebobpmaa.Pure
