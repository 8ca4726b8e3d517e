/- What by and the reference's small, MulNat, DivNat tell, in plain Lean. -/
import Derived.Test.YtdjefkdebobpmaaNatD
namespace Go.Proofs.Ytdjefkdebobpmaa.NatE
open Go.RowKit Go.Proofs.Ytdjefkdebobpmaa.PAll Go.Proofs.YtdjefkdebobpmaaW.PrintWords Go.Proofs.Ytdjefkdebobpmaa.NatA Go.Proofs.Ytdjefkdebobpmaa.NatB Go.Proofs.Ytdjefkdebobpmaa.NatC Go.Proofs.Ytdjefkdebobpmaa.NatD

/-- What a row is worth from a place on. -/
def D (l : List Int) (i : Nat) : Nat := val (l.drop i)
theorem D_zero (l : List Int) : D l 0 = val l := by rw [D, List.drop_zero]
theorem D_end {l : List Int} {i : Nat} (h : l.length ≤ i) : D l i = 0 := by rw [D, List.drop_eq_nil_of_le h, val_nil]
theorem D_step {l : List Int} {i : Nat} (h : i < l.length) : D l i = limb l i + 1000000000 * D l (i + 1) := by
  rw [D, List.drop_eq_getElem_cons h, val_cons]
  unfold limb
  rw [List.getD_eq_getElem?_getD, List.getElem?_eq_getElem h]
  rfl
theorem D_set {l : List Int} {p i : Nat} {x : Int} (h : p < i) : D (l.set p x) i = D l i := by
  unfold D
  rw [List.drop_set, if_pos h]

/-! by -/
theorem by_loop (a : List Int) (hA : Limbs a) (hla : a.length < 20000) (n : Nat) (hn0 : 0 < n) (hn : n < 1000000000) (d : Nat) :
    ∀ (c : Nat) (out : List Int), d ≤ a.length → out.length = a.length → Limbs out → c < n → D a d = n * D out d + c →
    Ev (fun k => nat_by.l0 k a n out (c : Int) ((d : Int) - 1)) (digs (val a / n), ((val a % n : Nat) : Int)) := by
  induction d with
  | zero =>
    intro c out hd ho hO hc hS
    rw [D_zero, D_zero] at hS
    have h1 := trim_ev out.length out hO rfl (by omega)
    have e1 : val a / n = val out := by
      rw [hS, Nat.mul_add_div hn0, Nat.div_eq_of_lt hc, Nat.add_zero]
    have e2 : val a % n = c := by
      rw [hS, Nat.mul_add_mod, Nat.mod_eq_of_lt hc]
    rw [e1, e2]
    refine Ev.step (f := fun k => (nat_trim.f k out).bind fun t => some (t, (c : Int))) (fun k => ?_) (Ev.bind h1 (Ev.of_eq (fun k => rfl)))
    simp only [nat_by.l0]
    rw [if_neg (by omega), show (c : Int) % 4294967296 = (c : Int) by omega]
  | succ d ih =>
    intro c out hd ho hO hc hS
    have ha := limb_lt hA d
    have hcB : c * 1000000000 + limb a d < n * 1000000000 := by
      have : (c + 1) * 1000000000 ≤ n * 1000000000 := Nat.mul_le_mul_right _ hc
      omega
    have hq : (c * 1000000000 + limb a d) / n < 1000000000 := (Nat.div_lt_iff_lt_mul hn0).2 (by omega)
    have hr : (c * 1000000000 + limb a d) % n < n := Nat.mod_lt _ hn0
    have hdm := Nat.div_add_mod (c * 1000000000 + limb a d) n
    obtain ⟨q, Eq⟩ : ∃ q, (c * 1000000000 + limb a d) / n = q := ⟨_, rfl⟩
    obtain ⟨r, Er⟩ : ∃ r, (c * 1000000000 + limb a d) % n = r := ⟨_, rfl⟩
    rw [Eq] at hq hdm
    rw [Er] at hr hdm
    refine Ev.step (fun k => ?_) (ih r (out.set d (q : Int)) (by omega) (by simp [ho]) (hO.set _ (by omega) (by omega)) hr ?_)
    · simp only [nat_by.l0]
      rw [show (((d + 1 : Nat) : Int) - 1) = (d : Int) by omega, if_pos (by omega), if_pos (by omega), if_pos (by omega), u64w (x := (n : Int)) (by omega) (by omega), if_neg (by omega), if_pos (by omega), rd_limb hA, u64w (x := (limb a d : Int)) (by omega) (by omega), u64w (x := (c : Int) * 1000000000) (by omega) (by omega), u64w (x := (c : Int) * 1000000000 + (limb a d : Int)) (by omega) (by omega),
        show (c : Int) * 1000000000 + (limb a d : Int) = ((c * 1000000000 + limb a d : Nat) : Int) by omega, tdiv_nat, tmod_nat, Eq, Er, u64w (x := (q : Int)) (by omega) (by omega), show (q : Int) % 4294967296 = (q : Int) by omega, w64 (by omega) (by omega)]
      rfl
    · rw [D_step (l := a) (i := d) (by omega), hS, D_step (l := out.set d _) (i := d) (by simp; omega), D_set (by omega), limb_set_eq (by omega), Int.toNat_natCast]
      clear ih hO hA Eq Er
      grind
theorem by_ev (a : List Int) (hA : Limbs a) (hla : a.length < 20000) (n : Nat) (hn0 : 0 < n) (hn : n < 1000000000) : Ev (fun k => nat_by.f k a n) (digs (val a / n), ((val a % n : Nat) : Int)) := by
  have h1 := by_loop a hA hla n hn0 hn a.length 0 (List.replicate a.length 0) (Nat.le_refl _) (by simp) (Limbs.zeros _) hn0 (by rw [D_end (Nat.le_refl _), D_end (by simp), Nat.mul_zero])
  refine Ev.congr (fun k => ?_) h1
  rw [nat_by.f, if_pos (by omega), if_pos (by omega), w64 (by omega) (by omega)]
  rfl

/-! small -/
theorem small_loop (a : List Int) (hA : Limbs a) (hla : a.length < 20000) (m : Nat) (hm : m < 1000000000) (d : Nat) :
    ∀ (i c : Nat) (out : List Int), i + d = a.length + 1 → out.length = i → Limbs out → c ≤ m → val out + c * P i = S (limb a) i * m →
    Ev (fun k => mullionref1_small.l0 k a m out (c : Int) (i : Int)) (digs (val a * m)) := by
  have hstop : ∀ (i : Nat) (out : List Int), a.length ≤ i → out.length = i → i < 60000 → Limbs out → val out = S (limb a) i * m → Ev (fun k => mullionref1_small.l0 k a m out ((0 : Nat) : Int) (i : Int)) (digs (val a * m)) := by
    intro i out hi ho hi2 hO hS
    rw [S_ge_len hi] at hS
    have h1 := rtrim_ev out hO (by omega)
    rw [hS] at h1
    refine Ev.step (f := fun k => mullionref1_small.j1 k a m out 0 (i : Int) false) (fun k => ?_) (Ev.step (f := fun k => (mullionref1_trim.f k out).bind fun t => some t) (fun k => ?_) (Ev.bind h1 (Ev.of_eq (fun k => rfl))))
    · simp only [mullionref1_small.l0]
      rw [if_neg (by omega)]
      rfl
    · simp only [mullionref1_small.j1]
      rfl
  induction d with
  | zero =>
    intro i c out hi ho hO hc hS
    have hP : val out + c * P i < P i := by
      rw [hS, S_ge_len (by omega), show i = a.length + 1 by omega, P_succ]
      have h1 := val_lt hA
      have h2 : val a * m ≤ val a * 999999999 := Nat.mul_le_mul_left _ (by omega)
      omega
    obtain rfl : c = 0 := by
      rcases Nat.eq_zero_or_pos c with h | h
      · exact h
      · have : 1 * P i ≤ c * P i := Nat.mul_le_mul_right _ h
        omega
    exact hstop i out (by omega) ho (by omega) hO (by rw [← hS]; omega)
  | succ d ih =>
    intro i c out hi ho hO hc hS
    by_cases hs : a.length ≤ i ∧ c = 0
    · obtain ⟨hs, rfl⟩ := hs
      exact hstop i out hs ho (by omega) hO (by rw [← hS]; omega)
    have ha := limb_lt hA i
    have hp := prod_lt ha hm
    have hx := Nat.div_add_mod (c + limb a i * m) 1000000000
    have hq : (c + limb a i * m) / 1000000000 ≤ m := by
      have : limb a i * m ≤ 999999999 * m := Nat.mul_le_mul_right _ (by omega)
      omega
    refine Ev.step (f := fun k => mullionref1_small.j1 k a m out (c : Int) (i : Int) true) (fun k => ?_) ?_
    · simp only [mullionref1_small.l0]
      by_cases e2 : (i : Int) < (a.length : Int)
      · rw [if_pos e2]
      · rw [if_neg e2, decide_eq_true (by omega)]
    refine Ev.step (fun k => ?_) (ih (i + 1) ((c + limb a i * m) / 1000000000) (out ++ [(((c + limb a i * m) % 1000000000 : Nat) : Int)]) (by omega) (by simp [ho]) (Limbs.append hO (Limbs.one (by omega) (by omega))) hq ?_)
    · simp only [mullionref1_small.j1]
      rw [if_pos trivial, rd_limb hA, u64w (x := (limb a i : Int)) (by omega) (by omega), show (limb a i : Int) * (m : Int) = ((limb a i * m : Nat) : Int) by simp, u64w (x := ((limb a i * m : Nat) : Int)) (by omega) (by omega), u64w (x := (c : Int) + ((limb a i * m : Nat) : Int)) (by omega) (by omega), show (c : Int) + ((limb a i * m : Nat) : Int) = ((c + limb a i * m : Nat) : Int) by omega]
      simp only [tmod_B, tdiv_B, low]
      rw [u64w (x := (((c + limb a i * m) / 1000000000 : Nat) : Int)) (by omega) (by omega), u64w (x := ((c / 1000000000 : Nat) : Int)) (by omega) (by omega), w64 (x := (i : Int) + 1) (by omega) (by omega), show ((i : Int) + 1) = ((i + 1 : Nat) : Int) by omega]
      simp only [if_pos (show out.length < 35184372088832 by omega)]
      by_cases e1 : i < a.length
      · rw [if_pos (show (i : Int) < (a.length : Int) by omega), if_pos (show 0 ≤ (i : Int) by omega)]
      · rw [if_neg (show ¬ (i : Int) < (a.length : Int) by omega), limb_out (l := a) (by omega), Nat.zero_mul]
        simp only [Nat.add_zero]
    · rw [val_append, val_one, ho, S_succ, P_succ, Int.toNat_natCast]
      generalize (c + limb a i * m) / 1000000000 = q at *
      generalize (c + limb a i * m) % 1000000000 = r at *
      clear ih hO hA hstop
      grind
theorem small_ev (a : List Int) (hA : Limbs a) (hla : a.length < 20000) (m : Nat) (hm : m < 1000000000) : Ev (fun k => mullionref1_small.f k a m) (digs (val a * m)) :=
  Ev.congr (fun k => by rw [mullionref1_small.f]; rfl) (small_loop a hA hla m hm (a.length + 1) 0 0 [] (by omega) rfl Limbs.nil (by omega) (by simp [S, val_nil]))

/-! MulNat -/
theorem MulNat_loop (a b : List Int) (hA : Limbs a) (hB : Limbs b) (hla : a.length < 10000) (hlb : b.length < 10000) (d : Nat) : d ≤ b.length →
    Ev (fun k => mullionref1_MulNat.l0 k a b (digs (val a * D b d)) ((d : Int) - 1)) (digs (val a * val b)) := by
  induction d with
  | zero =>
    intro _
    refine Ev.one (fun k => ?_)
    simp only [mullionref1_MulNat.l0]
    rw [if_neg (by omega), D_zero]
  | succ d ih =>
    intro hd
    have hb := limb_lt hB d
    have hlen : ∀ x, x ≤ val a * val b → (digs x).length ≤ a.length + b.length := by
      intro x hx
      rw [digs_len_le, P_add]
      have h1 := val_lt hA
      have h2 := val_lt hB
      have h3 : val a * val b ≤ val a * P b.length := Nat.mul_le_mul_left _ (by omega)
      have h4 : val a * P b.length < P a.length * P b.length := (Nat.mul_lt_mul_right (P_pos _)).2 h1
      omega
    have hDle : ∀ i, i ≤ b.length → D b i ≤ val b := by
      intro i hi
      have := val_take_drop b i hi
      have h2 : 1 * D b i ≤ P i * D b i := Nat.mul_le_mul_right _ (P_pos i)
      unfold D at *
      omega
    have h0 := hlen (val a * D b (d + 1)) (Nat.mul_le_mul_left _ (hDle _ hd))
    have h1 := shift_ev (digs (val a * D b (d + 1))) 0 (Limbs_digs _) (by omega) (by omega)
    rw [val_digs, Nat.zero_add] at h1
    have h2 := small_ev a hA (by omega) (limb b d) hb
    have hstep : 1000000000 * (val a * D b (d + 1)) + val a * limb b d = val a * D b d := by
      rw [D_step (l := b) (i := d) (by omega), Nat.mul_add]
      have : val a * (1000000000 * D b (d + 1)) = 1000000000 * (val a * D b (d + 1)) := by rw [Nat.mul_left_comm]
      omega
    have hle := Nat.mul_le_mul_left (val a) (hDle d (by omega))
    have h3 := AddNat_ev (digs (1000000000 * (val a * D b (d + 1)))) (digs (val a * limb b d)) (NonNeg_digs _) (NonNeg_digs _) (by have := hlen _ (show 1000000000 * (val a * D b (d + 1)) ≤ val a * val b by omega); omega) (by have := hlen _ (show val a * limb b d ≤ val a * val b by omega); omega)
    rw [V_digs, V_digs, hstep] at h3
    refine Ev.step (f := fun k => (mullionref1_shift.f k (digs (val a * D b (d + 1))) ((0 : Nat) : Int)).bind fun t => (mullionref1_small.f k a ((limb b d : Nat) : Int)).bind fun u => (mullionref1_AddNat.f k t u).bind fun v => mullionref1_MulNat.l0 k a b v ((d : Int) - 1)) (fun k => ?_) (Ev.bind h1 (Ev.bind h2 (Ev.bind h3 (ih (by omega)))))
    simp only [mullionref1_MulNat.l0]
    rw [show (((d + 1 : Nat) : Int) - 1) = (d : Int) by omega, if_pos (by omega)]
    simp only [if_pos (show 0 ≤ (d : Int) by omega), if_pos (show (d : Int) < (b.length : Int) by omega)]
    rw [rd_limb hB, u64w (by omega) (by omega), w64 (by omega) (by omega)]
    rfl
theorem MulNat_ev (a b : List Int) (ha : NonNeg a) (hb : NonNeg b) (hla : a.length < 10000) (hlb : b.length < 10000) : Ev (fun k => mullionref1_MulNat.f k a b) (digs (V a * V b)) := by
  have hl1 := digs_V_len ha
  have hl2 := digs_V_len hb
  have h1 := MulNat_loop (digs (V a)) (digs (V b)) (Limbs_digs _) (Limbs_digs _) (by omega) (by omega) (digs (V b)).length (Nat.le_refl _)
  rw [val_digs, val_digs, D_end (Nat.le_refl _), Nat.mul_zero, digs_zero] at h1
  refine Ev.congr (fun k => by rw [mullionref1_MulNat.f]) (Ev.bind (nat_ev a ha (by omega)) (Ev.bind (nat_ev b hb (by omega)) (Ev.congr (fun k => ?_) h1)))
  rw [w64 (by omega) (by omega)]

/-! DivNat -/
theorem half (lo hi : Nat) (h : hi < 1000000000) (h2 : lo < hi) : IntKind.u64.wrap (Int.tdiv (IntKind.u64.wrap ((IntKind.u64.wrap ((lo : Int) + (hi : Int))) + 1)) 2) = (((lo + hi + 1) / 2 : Nat) : Int) := by
  rw [u64w (x := (lo : Int) + (hi : Int)) (by omega) (by omega), u64w (x := (lo : Int) + (hi : Int) + 1) (by omega) (by omega), show (lo : Int) + (hi : Int) + 1 = ((lo + hi + 1 : Nat) : Int) by omega]
  have := tdiv_nat (lo + hi + 1) 2
  rw [show ((2 : Nat) : Int) = 2 by rfl] at this
  rw [this, u64w (by omega) (by omega)]
theorem search (a b q : List Int) (hB : Limbs b) (hlb : b.length < 10000) (x vb : Nat) (hvb : val b = vb) (hx : (digs x).length < 20000) (i : Int) (r : List Int × List Int) (Q : Nat) (hQ : Q < 1000000000) (hQ1 : vb * Q ≤ x) (hQ2 : x < vb * (Q + 1))
    (hend : Ev (fun k => mullionref1_DivNat.l1 k a b q (digs x) i (Q : Int) (Q : Int)) r) (d : Nat) :
    ∀ lo hi : Nat, lo ≤ Q → Q ≤ hi → hi < 1000000000 → hi - lo ≤ d → Ev (fun k => mullionref1_DivNat.l1 k a b q (digs x) i (lo : Int) (hi : Int)) r := by
  induction d with
  | zero =>
    intro lo hi h1 h2 h3 h4
    obtain rfl : lo = Q := by omega
    obtain rfl : hi = lo := by omega
    exact hend
  | succ d ih =>
    intro lo hi h1 h2 h3 h4
    by_cases e : lo < hi
    · have hm := half lo hi h3 e
      have round : ∀ k, mullionref1_DivNat.l1 (k + 1) a b q (digs x) i (lo : Int) (hi : Int) = (mullionref1_small.f k b (((lo + hi + 1) / 2 : Nat) : Int)).bind fun t => (mullionref1_CmpNat.f k t (digs x)).bind fun c => if c ≤ 0 then mullionref1_DivNat.l1 k a b q (digs x) i (((lo + hi + 1) / 2 : Nat) : Int) (hi : Int) else mullionref1_DivNat.l1 k a b q (digs x) i (lo : Int) (((lo + hi + 1) / 2 - 1 : Nat) : Int) := by
        intro k
        simp only [mullionref1_DivNat.l1]
        rw [if_pos (by omega), hm, u64w (x := (((lo + hi + 1) / 2 : Nat) : Int) - 1) (by omega) (by omega), show (((lo + hi + 1) / 2 : Nat) : Int) - 1 = (((lo + hi + 1) / 2 - 1 : Nat) : Int) by omega]
      have h5 := small_ev b hB (by omega) ((lo + hi + 1) / 2) (by omega)
      have h6 := CmpNat_ev (digs (val b * ((lo + hi + 1) / 2))) (digs x) (NonNeg_digs _) (NonNeg_digs _) (by
        have : (digs (val b * ((lo + hi + 1) / 2))).length ≤ b.length + 1 := by
          rw [digs_len_le, P_succ]
          have h7 := val_lt hB
          have h8 : val b * ((lo + hi + 1) / 2) ≤ val b * 1000000000 := Nat.mul_le_mul_left _ (by omega)
          omega
        omega) (by omega)
      rw [V_digs, V_digs] at h6
      by_cases e2 : val b * ((lo + hi + 1) / 2) ≤ x
      · have hmQ : (lo + hi + 1) / 2 ≤ Q := by
          rcases Nat.lt_or_ge Q ((lo + hi + 1) / 2) with h | h
          · have : vb * (Q + 1) ≤ vb * ((lo + hi + 1) / 2) := Nat.mul_le_mul_left _ h
            rw [hvb] at e2
            omega
          · exact h
        refine Ev.step (f := fun k => (mullionref1_small.f k b (((lo + hi + 1) / 2 : Nat) : Int)).bind fun t => (mullionref1_CmpNat.f k t (digs x)).bind fun c => if c ≤ 0 then mullionref1_DivNat.l1 k a b q (digs x) i (((lo + hi + 1) / 2 : Nat) : Int) (hi : Int) else mullionref1_DivNat.l1 k a b q (digs x) i (lo : Int) (((lo + hi + 1) / 2 - 1 : Nat) : Int)) (fun k => ?_) (Ev.bind h5 (Ev.bind h6 (Ev.congr (fun k => by rw [if_pos (cmpZ_le.2 e2)]) (ih ((lo + hi + 1) / 2) hi hmQ h2 h3 (by omega)))))
        exact round k
      · have hmQ : Q < (lo + hi + 1) / 2 := by
          rcases Nat.lt_or_ge Q ((lo + hi + 1) / 2) with h | h
          · exact h
          · have : vb * ((lo + hi + 1) / 2) ≤ vb * Q := Nat.mul_le_mul_left _ h
            rw [hvb] at e2
            omega
        refine Ev.step (f := fun k => (mullionref1_small.f k b (((lo + hi + 1) / 2 : Nat) : Int)).bind fun t => (mullionref1_CmpNat.f k t (digs x)).bind fun c => if c ≤ 0 then mullionref1_DivNat.l1 k a b q (digs x) i (((lo + hi + 1) / 2 : Nat) : Int) (hi : Int) else mullionref1_DivNat.l1 k a b q (digs x) i (lo : Int) (((lo + hi + 1) / 2 - 1 : Nat) : Int)) (fun k => ?_) (Ev.bind h5 (Ev.bind h6 (Ev.congr (fun k => by rw [if_neg (fun h => e2 (cmpZ_le.1 h))]) (ih lo ((lo + hi + 1) / 2 - 1) h1 (by omega) (by omega) (by omega)))))
        exact round k
    · obtain rfl : lo = Q := by omega
      obtain rfl : hi = lo := by omega
      exact hend
theorem DivNat_loop (a b : List Int) (hA : Limbs a) (hB : Limbs b) (hla : a.length < 10000) (hlb : b.length < 10000) (hb0 : 0 < val b) (d : Nat) :
    ∀ (x : Nat) (q : List Int), d ≤ a.length → q.length = a.length → Limbs q → x < val b → D a d = val b * D q d + x →
    Ev (fun k => mullionref1_DivNat.l0 k a b q (digs x) ((d : Int) - 1)) (digs (val a / val b), digs (val a % val b)) := by
  induction d with
  | zero =>
    intro x q hd hq hQ hx hS
    rw [D_zero, D_zero] at hS
    have h1 := rtrim_ev q hQ (by omega)
    have e1 : val a / val b = val q := by rw [hS, Nat.mul_add_div hb0, Nat.div_eq_of_lt hx, Nat.add_zero]
    have e2 : val a % val b = x := by rw [hS, Nat.mul_add_mod, Nat.mod_eq_of_lt hx]
    rw [e1, e2]
    refine Ev.step (f := fun k => (mullionref1_trim.f k q).bind fun t => some (t, digs x)) (fun k => ?_) (Ev.bind h1 (Ev.of_eq (fun k => rfl)))
    simp only [mullionref1_DivNat.l0]
    rw [if_neg (by omega)]
  | succ d ih =>
    intro x q hd hq hQ hx hS
    have ha := limb_lt hA d
    have hlx : (digs x).length ≤ b.length := by
      rw [digs_len_le]
      have := val_lt hB
      omega
    have h1 := shift_ev (digs x) (limb a d) (Limbs_digs _) ha (by omega)
    rw [val_digs] at h1
    have hy : limb a d + 1000000000 * x < val b * 1000000000 := by omega
    have hly : (digs (limb a d + 1000000000 * x)).length ≤ b.length + 1 := by
      rw [digs_len_le, P_succ]
      have := val_lt hB
      omega
    obtain ⟨y, Ey⟩ : ∃ y, limb a d + 1000000000 * x = y := ⟨_, rfl⟩
    rw [Ey] at h1 hy hly
    obtain ⟨Q, EQ⟩ : ∃ Q, y / val b = Q := ⟨_, rfl⟩
    have hdm := Nat.div_add_mod y (val b)
    have hr := Nat.mod_lt y hb0
    have hQ1 : Q < 1000000000 := by
      rw [← EQ]
      exact (Nat.div_lt_iff_lt_mul hb0).2 (by rw [Nat.mul_comm]; exact hy)
    rw [EQ] at hdm
    obtain ⟨z, Ez⟩ : ∃ z, y % val b = z := ⟨_, rfl⟩
    rw [Ez] at hdm hr
    have h2 := small_ev b hB (by omega) Q hQ1
    have hls : (digs (val b * Q)).length ≤ b.length + 1 := by
      rw [digs_len_le, P_succ]
      have := val_lt hB
      omega
    have h3 := SubNat_ev (digs y) (digs (val b * Q)) (NonNeg_digs _) (NonNeg_digs _) (by omega) (by omega)
    rw [V_digs, V_digs, show y - val b * Q = z by omega] at h3
    have h4 := ih z (q.set d (Q : Int)) (by omega) (by simp [hq]) (hQ.set _ (by omega) (by omega)) hr (by
      rw [D_step (l := a) (i := d) (by omega), hS, D_step (l := q.set d _) (i := d) (by simp; omega), D_set (by omega), limb_set_eq (by omega), Int.toNat_natCast]
      clear ih h1 h2 h3 hQ hA hB
      grind)
    have h5 := search a b q hB hlb y (val b) rfl (by omega) (d : Int) _ Q hQ1 (by omega) (by rw [Nat.mul_add]; omega) (Ev.step (f := fun k => (mullionref1_small.f k b (Q : Int)).bind fun t => (mullionref1_SubNat.f k (digs y) t).bind fun u => mullionref1_DivNat.l0 k a b (q.set d (Q : Int)) u ((d : Int) - 1)) (fun k => by
      simp only [mullionref1_DivNat.l1]
      rw [if_neg (by omega), if_pos (by omega), if_pos (by omega), show (Q : Int) % 4294967296 = (Q : Int) by omega, w64 (by omega) (by omega)]
      rfl) (Ev.bind h2 (Ev.bind h3 h4))) 999999999 0 999999999 (by omega) (by omega) (by omega) (by omega)
    refine Ev.step (f := fun k => (mullionref1_shift.f k (digs x) (limb a d : Int)).bind fun t => mullionref1_DivNat.l1 k a b q t (d : Int) ((0 : Nat) : Int) ((999999999 : Nat) : Int)) (fun k => ?_) (Ev.bind h1 h5)
    simp only [mullionref1_DivNat.l0]
    rw [show (((d + 1 : Nat) : Int) - 1) = (d : Int) by omega, if_pos (by omega), if_pos (by omega), if_pos (by omega), rd_limb hA]
    rfl
theorem DivNat_ev (a b : List Int) (ha : NonNeg a) (hb : NonNeg b) (hla : a.length < 10000) (hlb : b.length < 10000) : Ev (fun k => mullionref1_DivNat.f k a b) (digs (V a / V b), digs (V a % V b)) := by
  have hl1 := digs_V_len ha
  have hl2 := digs_V_len hb
  refine Ev.congr (fun k => by rw [mullionref1_DivNat.f]) (Ev.bind (nat_ev a ha (by omega)) (Ev.bind (nat_ev b hb (by omega)) ?_))
  by_cases e : V b = 0
  · refine Ev.of_eq (fun k => ?_)
    rw [e, digs_zero, if_pos (by simp), Nat.div_zero, Nat.mod_zero, digs_zero]
  · have h0 := digs_len_pos (n := V b) (by omega)
    have h1 := DivNat_loop (digs (V a)) (digs (V b)) (Limbs_digs _) (Limbs_digs _) (by omega) (by omega) (by rw [val_digs]; omega) (digs (V a)).length 0 (List.replicate (digs (V a)).length 0) (Nat.le_refl _) (by simp) (Limbs.zeros _) (by rw [val_digs]; omega) (by rw [D_end (Nat.le_refl _), D_end (by simp), Nat.mul_zero])
    rw [val_digs, val_digs, digs_zero] at h1
    refine Ev.congr (fun k => ?_) h1
    rw [if_neg (by omega), if_pos (by omega), if_pos (by omega), w64 (by omega) (by omega), Int.toNat_natCast]
end Go.Proofs.Ytdjefkdebobpmaa.NatE
