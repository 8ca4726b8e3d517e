/- What sum, Add, Sub, Mul, by and the reference's own tell, in plain Lean. -/
import Derived.Test.YtdjefkdebobpmaaNatB
import Derived.Test.YtdjefkdebobpmaaPAllx9
namespace Go.Proofs.Ytdjefkdebobpmaa.NatC
open Go.RowKit Go.Proofs.Ytdjefkdebobpmaa.PAll Go.Proofs.YtdjefkdebobpmaaW.PrintWords Go.Proofs.Ytdjefkdebobpmaa.NatA Go.Proofs.Ytdjefkdebobpmaa.NatB Go.Proofs.YtdjefkdebobpmaaW.PrintMore

/-- One more limb of a row that is written from below. -/
theorem S_store {out : List Int} {i : Nat} {x : Nat} (h : i < out.length) : S (limb (out.set i (x : Int))) (i + 1) = S (limb out) i + x * P i := by
  rw [S_succ, S_set_ge (Nat.le_refl _), limb_set_eq h]
  simp
theorem val_full (l : List Int) : S (limb l) l.length = val l := rfl

/-! sum -/
theorem sum_len (a b : List Int) (hla : a.length < 100000) (hlb : b.length < 100000) (r : List Int)
    (h : Ev (fun k => nat_sum.l1 k [a, b] (List.replicate (max a.length b.length + 1) 0) 0 ((max a.length b.length + 1 : Nat) : Int) 0) r) :
    Ev (fun k => nat_sum.f k [a, b]) r := by
  refine Ev.congr (f := fun k => nat_sum.l0 k [a, b] 0 [a, b] 2 0) (fun k => by rw [nat_sum.f]; rfl) ?_
  refine Ev.step (f := fun k => nat_sum.l0 k [a, b] (a.length : Int) [a, b] 2 1) (fun k => ?_) ?_
  · simp only [nat_sum.l0]
    rw [if_pos (by omega), if_pos (by omega), if_pos (by simp), w64 (by omega) (by omega)]
    congr 1
    show mx 0 (a.length : Int) = _
    unfold mx
    split <;> omega
  refine Ev.step (f := fun k => nat_sum.l0 k [a, b] ((max a.length b.length : Nat) : Int) [a, b] 2 2) (fun k => ?_) ?_
  · simp only [nat_sum.l0]
    rw [if_pos (by omega), if_pos (by omega), if_pos (by simp), w64 (by omega) (by omega)]
    congr 1
    show mx (a.length : Int) (b.length : Int) = _
    unfold mx
    split <;> omega
  refine Ev.step (fun k => ?_) h
  simp only [nat_sum.l0]
  rw [if_neg (by omega), w64 (by omega) (by omega), if_pos (by omega), if_pos (by omega)]
  simp only [Option.bind_some]
  rw [show (((max a.length b.length : Nat) : Int) + 1).toNat = max a.length b.length + 1 by omega, List.length_replicate]
theorem sum_loop (a b : List Int) (hA : Limbs a) (hB : Limbs b) (n : Nat) (hn : n < 60000) (d : Nat) :
    ∀ (i c : Nat) (out : List Int), i + d = n → out.length = n → Limbs out → c < 1000000000 → S (limb out) i + c * P i = S (limb a) i + S (limb b) i → S (limb a) n + S (limb b) n < P n →
    Ev (fun k => nat_sum.l1 k [a, b] out (c : Int) (n : Int) (i : Int)) (digs (S (limb a) n + S (limb b) n)) := by
  induction d with
  | zero =>
    intro i c out hi ho hO hc hS hP
    obtain rfl : i = n := by omega
    have hz : c = 0 := by
      rcases Nat.eq_zero_or_pos c with h | h
      · exact h
      · have : 1 * P i ≤ c * P i := Nat.mul_le_mul_right _ h
        omega
    subst hz
    rw [Nat.zero_mul, Nat.add_zero] at hS
    have h1 := trim_ev i out hO ho (by omega)
    rw [show val out = S (limb out) i by rw [← ho]; rfl, hS] at h1
    refine Ev.step (f := fun k => (nat_trim.f k out).bind fun t => some t) (fun k => ?_) (Ev.bind h1 (Ev.of_eq (fun k => rfl)))
    simp only [nat_sum.l1]
    rw [if_neg (by omega)]
  | succ d ih =>
    intro i c out hi ho hO hc hS hP
    have ha := limb_lt hA i
    have hb := limb_lt hB i
    refine Ev.step (f := fun k => nat_sum.l2 k [a, b] out (c : Int) (i : Int) (n : Int) (i : Int) [a, b] 2 0) (fun k => ?_) ?_
    · simp only [nat_sum.l1]
      rw [if_pos (by omega)]
      rfl
    refine Ev.step (f := fun k => nat_sum.l2 k [a, b] out ((c + limb a i : Nat) : Int) (i : Int) (n : Int) (i : Int) [a, b] 2 1) (fun k => ?_) ?_
    · simp only [nat_sum.l2]
      rw [if_pos (by omega), if_pos (by omega), if_pos (by simp), w64 (x := 0 + 1) (by omega) (by omega)]
      show (if (i : Int) < (a.length : Int) then (if 0 ≤ (i : Int) then nat_sum.l2 k [a, b] out (IntKind.u64.wrap ((c : Int) + IntKind.u64.wrap (rd a i))) i n i [a, b] 2 (0 + 1) else none) else nat_sum.l2 k [a, b] out c i n i [a, b] 2 (0 + 1)) = _
      by_cases e : i < a.length
      · rw [if_pos (by omega), if_pos (by omega), rd_limb hA, u64w (x := (limb a i : Int)) (by omega) (by omega), u64w (by omega) (by omega)]
        rfl
      · rw [if_neg (by omega), limb_out (by omega)]
        rfl
    refine Ev.step (f := fun k => nat_sum.l2 k [a, b] out ((c + limb a i + limb b i : Nat) : Int) (i : Int) (n : Int) (i : Int) [a, b] 2 2) (fun k => ?_) ?_
    · simp only [nat_sum.l2]
      rw [if_pos (by omega), if_pos (by omega), if_pos (by simp), w64 (x := 1 + 1) (by omega) (by omega)]
      show (if (i : Int) < (b.length : Int) then (if 0 ≤ (i : Int) then nat_sum.l2 k [a, b] out (IntKind.u64.wrap (((c + limb a i : Nat) : Int) + IntKind.u64.wrap (rd b i))) i n i [a, b] 2 (1 + 1) else none) else nat_sum.l2 k [a, b] out ((c + limb a i : Nat) : Int) i n i [a, b] 2 (1 + 1)) = _
      by_cases e : i < b.length
      · rw [if_pos (by omega), if_pos (by omega), rd_limb hB, u64w (x := (limb b i : Int)) (by omega) (by omega), u64w (by omega) (by omega)]
        rfl
      · rw [if_neg (by omega), limb_out (l := b) (by omega)]
        rfl
    have hx := Nat.div_add_mod (c + limb a i + limb b i) 1000000000
    refine Ev.step (fun k => ?_) (ih (i + 1) ((c + limb a i + limb b i) / 1000000000) (out.set i (((c + limb a i + limb b i) % 1000000000 : Nat) : Int)) (by omega) (by simp [ho]) (hO.set i (by omega) (by omega)) (by omega) ?_ hP)
    · simp only [nat_sum.l2]
      rw [if_neg (by omega), if_pos (by omega), if_pos (by omega), tmod_B, tdiv_B, low, u64w (by omega) (by omega), w64 (by omega) (by omega)]
      rfl
    · rw [S_store (by omega), S_succ, S_succ, P_succ]
      generalize (c + limb a i + limb b i) / 1000000000 = q at *
      generalize (c + limb a i + limb b i) % 1000000000 = r at *
      grind
theorem S_ge_len {l : List Int} {n : Nat} (h : l.length ≤ n) : S (limb l) n = val l := val_ge h
theorem sum_ev (a b : List Int) (hA : Limbs a) (hB : Limbs b) (hla : a.length < 50000) (hlb : b.length < 50000) : Ev (fun k => nat_sum.f k [a, b]) (digs (val a + val b)) := by
  have h1 := sum_loop a b hA hB (max a.length b.length + 1) (by omega) (max a.length b.length + 1) 0 0 (List.replicate (max a.length b.length + 1) 0) (by omega) (by simp) (Limbs.zeros _) (by omega) (by simp [S]) (by
    rw [S_ge_len (by omega), S_ge_len (by omega), P_succ]
    have := val_lt hA
    have := val_lt hB
    have := P_mono (show a.length ≤ max a.length b.length by omega)
    have := P_mono (show b.length ≤ max a.length b.length by omega)
    omega)
  rw [S_ge_len (by omega), S_ge_len (by omega)] at h1
  exact sum_len a b (by omega) (by omega) _ h1
theorem Add_ev (a b : List Int) (ha : NonNeg a) (hb : NonNeg b) (hla : a.length < 50000) (hlb : b.length < 50000) : Ev (fun k => nat_Add.f k a b) (digs (V a + V b)) := by
  have h1 := sum_ev (digs (V a)) (digs (V b)) (Limbs_digs _) (Limbs_digs _) (by have := digs_V_len ha; omega) (by have := digs_V_len hb; omega)
  rw [val_digs, val_digs] at h1
  exact Ev.congr (fun k => by rw [nat_Add.f]) (Ev.bind (held_ev a ha (by omega)) (Ev.bind (held_ev b hb (by omega)) (Ev.bind h1 (Ev.of_eq (fun k => rfl)))))

/-! AddNat -/
theorem AddNat_loop (a b : List Int) (hA : Limbs a) (hB : Limbs b) (hla : a.length < 50000) (hlb : b.length < 50000) (d : Nat) :
    ∀ (i c : Nat) (out : List Int), i + d = max a.length b.length + 1 → out.length = i → Limbs out → c ≤ 1 → val out + c * P i = S (limb a) i + S (limb b) i →
    Ev (fun k => mullionref1_AddNat.l0 k a b out (c : Int) (i : Int)) (digs (val a + val b)) := by
  have hstop : ∀ (i : Nat) (out : List Int), max a.length b.length ≤ i → out.length = i → i < 60000 → Limbs out → val out = S (limb a) i + S (limb b) i → Ev (fun k => mullionref1_AddNat.l0 k a b out ((0 : Nat) : Int) (i : Int)) (digs (val a + val b)) := by
    intro i out hi ho hi2 hO hS
    rw [S_ge_len (by omega), S_ge_len (by omega)] at hS
    have h1 := rtrim_ev out hO (by omega)
    rw [hS] at h1
    refine Ev.step (f := fun k => mullionref1_AddNat.j1 k a b out 0 (i : Int) false) (fun k => ?_) (Ev.step (f := fun k => (mullionref1_trim.f k out).bind fun t => some t) (fun k => ?_) (Ev.bind h1 (Ev.of_eq (fun k => rfl))))
    · simp only [mullionref1_AddNat.l0]
      by_cases e : (a.length : Int) < (b.length : Int)
      · rw [if_pos e, if_neg (by omega)]
        rfl
      · rw [if_neg e, if_neg (by omega)]
        rfl
    · simp only [mullionref1_AddNat.j1]
      rfl
  induction d with
  | zero =>
    intro i c out hi ho hO hc hS
    have hP : val out + c * P i < P i := by
      rw [hS, S_ge_len (by omega), S_ge_len (by omega), show i = max a.length b.length + 1 by omega, P_succ]
      have := val_lt hA
      have := val_lt hB
      have := P_mono (show a.length ≤ max a.length b.length by omega)
      have := P_mono (show b.length ≤ max a.length b.length by omega)
      omega
    obtain rfl : c = 0 := by
      rcases Nat.eq_zero_or_pos c with h | h
      · exact h
      · have : 1 * P i ≤ c * P i := Nat.mul_le_mul_right _ h
        omega
    exact hstop i out (by omega) ho (by omega) hO (by rw [← hS]; omega)
  | succ d ih =>
    intro i c out hi ho hO hc hS
    by_cases hs : max a.length b.length ≤ i ∧ c = 0
    · obtain ⟨hs, rfl⟩ := hs
      exact hstop i out hs ho (by omega) hO (by rw [← hS]; omega)
    have ha := limb_lt hA i
    have hb := limb_lt hB i
    refine Ev.step (f := fun k => mullionref1_AddNat.j1 k a b out (c : Int) (i : Int) true) (fun k => ?_) ?_
    · simp only [mullionref1_AddNat.l0]
      by_cases e : (a.length : Int) < (b.length : Int)
      · rw [if_pos e]
        by_cases e2 : (i : Int) < (b.length : Int)
        · rw [if_pos e2]
        · rw [if_neg e2, decide_eq_true (by omega)]
      · rw [if_neg e]
        by_cases e2 : (i : Int) < (a.length : Int)
        · rw [if_pos e2]
        · rw [if_neg e2, decide_eq_true (by omega)]
    have hx := Nat.div_add_mod (c + limb a i + limb b i) 1000000000
    refine Ev.step (fun k => ?_) (ih (i + 1) ((c + limb a i + limb b i) / 1000000000) (out ++ [(((c + limb a i + limb b i) % 1000000000 : Nat) : Int)]) (by omega) (by simp [ho]) (Limbs.append hO (Limbs.one (by omega) (by omega))) (by omega) ?_)
    · simp only [mullionref1_AddNat.j1]
      rw [if_pos trivial, rd_limb hA, rd_limb hB, u64w (x := (limb a i : Int)) (by omega) (by omega), u64w (x := (limb b i : Int)) (by omega) (by omega), u64w (x := (c : Int) + (limb a i : Int)) (by omega) (by omega), u64w (x := (c : Int) + (limb a i : Int) + (limb b i : Int)) (by omega) (by omega), u64w (x := (c : Int) + (limb b i : Int)) (by omega) (by omega),
        show (c : Int) + (limb a i : Int) + (limb b i : Int) = ((c + limb a i + limb b i : Nat) : Int) by omega, show (c : Int) + (limb a i : Int) = ((c + limb a i : Nat) : Int) by omega, show (c : Int) + (limb b i : Int) = ((c + limb b i : Nat) : Int) by omega]
      simp only [tmod_B, tdiv_B, low]
      rw [u64w (x := (((c + limb a i + limb b i) / 1000000000 : Nat) : Int)) (by omega) (by omega), u64w (x := (((c + limb a i) / 1000000000 : Nat) : Int)) (by omega) (by omega), u64w (x := (((c + limb b i) / 1000000000 : Nat) : Int)) (by omega) (by omega), u64w (x := ((c / 1000000000 : Nat) : Int)) (by omega) (by omega), w64 (x := (i : Int) + 1) (by omega) (by omega), show ((i : Int) + 1) = ((i + 1 : Nat) : Int) by omega]
      simp only [if_pos (show out.length < 35184372088832 by omega)]
      by_cases e1 : i < a.length
      · rw [if_pos (show (i : Int) < (a.length : Int) by omega), if_pos (show 0 ≤ (i : Int) by omega)]
        by_cases e2 : i < b.length
        · rw [if_pos (by omega)]
        · rw [if_neg (by omega), limb_out (l := b) (by omega)]
          simp only [Nat.add_zero]
      · rw [if_neg (show ¬ (i : Int) < (a.length : Int) by omega)]
        by_cases e2 : i < b.length
        · rw [if_pos (show (i : Int) < (b.length : Int) by omega), if_pos (show 0 ≤ (i : Int) by omega), limb_out (l := a) (by omega)]
          simp only [Nat.add_zero]
        · rw [if_neg (show ¬ (i : Int) < (b.length : Int) by omega), limb_out (l := a) (by omega), limb_out (l := b) (by omega)]
          simp only [Nat.add_zero]
    · rw [val_append, val_one, ho, S_succ, S_succ, P_succ, Int.toNat_natCast]
      generalize (c + limb a i + limb b i) / 1000000000 = q at *
      generalize (c + limb a i + limb b i) % 1000000000 = r at *
      grind
theorem AddNat_ev (a b : List Int) (ha : NonNeg a) (hb : NonNeg b) (hla : a.length < 50000) (hlb : b.length < 50000) : Ev (fun k => mullionref1_AddNat.f k a b) (digs (V a + V b)) := by
  have h1 := AddNat_loop (digs (V a)) (digs (V b)) (Limbs_digs _) (Limbs_digs _) (by have := digs_V_len ha; omega) (by have := digs_V_len hb; omega) _ 0 0 [] (by rw [Nat.zero_add]) rfl Limbs.nil (by omega) (by simp [S, val_nil])
  rw [val_digs, val_digs] at h1
  exact Ev.congr (fun k => by rw [mullionref1_AddNat.f]) (Ev.bind (nat_ev a ha (by omega)) (Ev.bind (nat_ev b hb (by omega)) h1))
end Go.Proofs.Ytdjefkdebobpmaa.NatC
