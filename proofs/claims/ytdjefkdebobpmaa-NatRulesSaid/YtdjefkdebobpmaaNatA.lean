/- Numbers of nine digits a limb, in plain Lean: sums of limbs, digits, what is canonical. -/
import Derived.Test.YtdjefkdebobpmaaPAllx1
namespace Go.Proofs.Ytdjefkdebobpmaa.NatA
open Go.RowKit Go.Proofs.YtdjefkdebobpmaaW.PrintWords

theorem u64w {x : Int} (h0 : 0 ≤ x) (h1 : x < 18446744073709551616) : IntKind.u64.wrap x = x := by
  unfold IntKind.wrap
  simp [IntKind.signed, IntKind.bits]
  omega
theorem w64 {x : Int} (h0 : -9223372036854775808 ≤ x) (h1 : x ≤ 9223372036854775807) : wrap64 x = x := by
  unfold wrap64
  omega

def P (n : Nat) : Nat := 1000000000 ^ n
theorem P_zero : P 0 = 1 := rfl
theorem P_succ (n : Nat) : P (n + 1) = 1000000000 * P n := by
  unfold P
  rw [Nat.pow_succ, Nat.mul_comm]
theorem P_pos (n : Nat) : 0 < P n := Nat.pos_pow_of_pos_ n
where
  Nat.pos_pow_of_pos_ (n : Nat) : 0 < P n := by
    unfold P
    exact Nat.pow_pos (by decide)
theorem P_add (m n : Nat) : P (m + n) = P m * P n := by
  unfold P
  rw [Nat.pow_add]
theorem P_mono {m n : Nat} (h : m ≤ n) : P m ≤ P n := by
  unfold P
  exact Nat.pow_le_pow_right (by decide) h
theorem P_one : P 1 = 1000000000 := rfl

/-- The sum of the first n limbs that f tells. -/
def S (f : Nat → Nat) : Nat → Nat
  | 0 => 0
  | n + 1 => S f n + f n * P n
theorem S_succ (f : Nat → Nat) (n : Nat) : S f (n + 1) = S f n + f n * P n := rfl
theorem S_congr {f g : Nat → Nat} (n : Nat) (h : ∀ i, i < n → f i = g i) : S f n = S g n := by
  induction n with
  | zero => rfl
  | succ n ih => rw [S_succ, S_succ, ih (fun i hi => h i (by omega)), h n (by omega)]
theorem S_lt {f : Nat → Nat} (n : Nat) (h : ∀ i, i < n → f i < 1000000000) : S f n < P n := by
  induction n with
  | zero => exact P_pos 0
  | succ n ih =>
    have h1 := ih (fun i hi => h i (by omega))
    have h2 := h n (by omega)
    rw [S_succ, P_succ]
    have h3 : f n * P n ≤ 999999999 * P n := Nat.mul_le_mul_right _ (by omega)
    omega
theorem S_tail {f : Nat → Nat} (n m : Nat) (hm : n ≤ m) (h : ∀ i, n ≤ i → i < m → f i = 0) : S f m = S f n := by
  induction m with
  | zero =>
    obtain rfl : n = 0 := by omega
    rfl
  | succ m ih =>
    by_cases e : n = m + 1
    · rw [e]
    · rw [S_succ, h m (by omega) (by omega), Nat.zero_mul, Nat.add_zero]
      exact ih (by omega) (fun i h1 h2 => h i h1 (by omega))
theorem S_shift (f : Nat → Nat) (n : Nat) : S f (n + 1) = f 0 + 1000000000 * S (fun i => f (i + 1)) n := by
  induction n with
  | zero => simp [S, P_zero]
  | succ n ih =>
    rw [S_succ, ih, S_succ, P_succ]
    grind
theorem S_zero (n : Nat) : S (fun _ => 0) n = 0 := by
  have := S_tail (f := fun _ => 0) 0 n (by omega) (fun _ _ _ => rfl)
  simpa [S] using this

/-! lists of limbs -/
def limb (l : List Int) (i : Nat) : Nat := (l.getD i 0).toNat
def Limbs (l : List Int) : Prop := ∀ x ∈ l, 0 ≤ x ∧ x < 1000000000
def val (l : List Int) : Nat := S (limb l) l.length
theorem limb_out {l : List Int} {i : Nat} (h : l.length ≤ i) : limb l i = 0 := by
  unfold limb
  rw [List.getD_eq_getElem?_getD, List.getElem?_eq_none h]
  rfl
theorem limb_lt {l : List Int} (h : Limbs l) (i : Nat) : limb l i < 1000000000 := by
  by_cases hi : i < l.length
  · unfold limb
    rw [List.getD_eq_getElem?_getD, List.getElem?_eq_getElem hi]
    have := h l[i] (List.getElem_mem hi)
    simp only [Option.getD_some]
    omega
  · rw [limb_out (by omega)]
    decide
theorem rd_nat (l : List Int) (i : Nat) : rd l (i : Int) = l.getD i 0 := by simp [rd]
theorem rd_limb {l : List Int} (h : Limbs l) (i : Nat) : rd l (i : Int) = (limb l i : Int) := by
  rw [rd_nat]
  unfold limb
  by_cases hi : i < l.length
  · rw [List.getD_eq_getElem?_getD, List.getElem?_eq_getElem hi]
    have := h l[i] (List.getElem_mem hi)
    simp only [Option.getD_some]
    omega
  · rw [List.getD_eq_getElem?_getD, List.getElem?_eq_none (by omega)]
    rfl
theorem val_ge {l : List Int} {n : Nat} (h : l.length ≤ n) : S (limb l) n = val l := S_tail _ _ h (fun _ h1 _ => limb_out h1)
theorem val_lt {l : List Int} (h : Limbs l) : val l < P l.length := S_lt _ (fun i _ => limb_lt h i)
theorem val_nil : val [] = 0 := rfl
theorem limb_cons (x : Int) (l : List Int) (i : Nat) : limb (x :: l) (i + 1) = limb l i := rfl
theorem val_cons (x : Int) (l : List Int) : val (x :: l) = x.toNat + 1000000000 * val l := by
  unfold val
  rw [List.length_cons, S_shift]
  rfl
theorem Limbs.nil : Limbs [] := fun _ h => by cases h
theorem Limbs.cons {x : Int} {l : List Int} (h0 : 0 ≤ x) (h1 : x < 1000000000) (h : Limbs l) : Limbs (x :: l) := by
  intro y hy
  rcases List.mem_cons.1 hy with rfl | hy
  · exact ⟨h0, h1⟩
  · exact h y hy
theorem Limbs.tail {x : Int} {l : List Int} (h : Limbs (x :: l)) : Limbs l := fun y hy => h y (List.mem_cons_of_mem _ hy)
theorem Limbs.append {a b : List Int} (ha : Limbs a) (hb : Limbs b) : Limbs (a ++ b) := by
  intro y hy
  rcases List.mem_append.1 hy with hy | hy
  · exact ha y hy
  · exact hb y hy
theorem Limbs.one {x : Int} (h0 : 0 ≤ x) (h1 : x < 1000000000) : Limbs [x] := Limbs.cons h0 h1 Limbs.nil
theorem Limbs.take {a : List Int} (ha : Limbs a) (n : Nat) : Limbs (a.take n) := fun y hy => ha y (List.mem_of_mem_take hy)
theorem Limbs.drop {a : List Int} (ha : Limbs a) (n : Nat) : Limbs (a.drop n) := fun y hy => ha y (List.mem_of_mem_drop hy)
theorem Limbs.set {a : List Int} (ha : Limbs a) (n : Nat) {x : Int} (h0 : 0 ≤ x) (h1 : x < 1000000000) : Limbs (a.set n x) := by
  intro y hy
  rcases List.mem_or_eq_of_mem_set hy with hy | rfl
  · exact ha y hy
  · exact ⟨h0, h1⟩
theorem Limbs.zeros (n : Nat) : Limbs (List.replicate n 0) := by
  intro y hy
  rw [List.eq_of_mem_replicate hy]
  decide
theorem val_zeros (n : Nat) : val (List.replicate n 0) = 0 := by
  induction n with
  | zero => rfl
  | succ n ih =>
    rw [List.replicate_succ, val_cons, ih]
    rfl
theorem val_append (a b : List Int) : val (a ++ b) = val a + P a.length * val b := by
  induction a with
  | nil => simp [val_nil, P_zero]
  | cons x a ih =>
    rw [List.cons_append, val_cons, val_cons, ih, List.length_cons, P_succ]
    grind
theorem val_one (x : Int) : val [x] = x.toNat := by
  rw [val_cons, val_nil]
  omega
theorem limb_append_left {a b : List Int} {i : Nat} (h : i < a.length) : limb (a ++ b) i = limb a i := by
  unfold limb
  rw [List.getD_eq_getElem?_getD, List.getElem?_append_left h, ← List.getD_eq_getElem?_getD]
theorem val_take {l : List Int} {n : Nat} (h : n ≤ l.length) : val (l.take n) = S (limb l) n := by
  unfold val
  rw [List.length_take, Nat.min_eq_left h]
  refine S_congr n (fun i hi => ?_)
  unfold limb
  rw [List.getD_eq_getElem?_getD, List.getD_eq_getElem?_getD, List.getElem?_take_of_lt hi]
theorem limb_set_ne {l : List Int} {n i : Nat} {x : Int} (h : n ≠ i) : limb (l.set n x) i = limb l i := by
  unfold limb
  rw [List.getD_eq_getElem?_getD, List.getD_eq_getElem?_getD, List.getElem?_set_ne h]
theorem limb_set_eq {l : List Int} {n : Nat} {x : Int} (h : n < l.length) : limb (l.set n x) n = x.toNat := by
  unfold limb
  rw [List.getD_eq_getElem?_getD, List.getElem?_set_self h]
  rfl
theorem S_set_ge {l : List Int} {n m : Nat} {x : Int} (h : m ≤ n) : S (limb (l.set n x)) m = S (limb l) m := S_congr m (fun i hi => limb_set_ne (by omega))
theorem val_take_drop (l : List Int) (n : Nat) (h : n ≤ l.length) : val l = val (l.take n) + P n * val (l.drop n) := by
  have := val_append (l.take n) (l.drop n)
  rw [List.take_append_drop, List.length_take, Nat.min_eq_left h] at this
  exact this

/-! a number's digits -/
def digs (n : Nat) : List Int := if n = 0 then [] else ((n % 1000000000 : Nat) : Int) :: digs (n / 1000000000)
termination_by n
decreasing_by omega
theorem digs_zero : digs 0 = [] := by rw [digs]; rfl
theorem digs_pos {n : Nat} (h : 0 < n) : digs n = ((n % 1000000000 : Nat) : Int) :: digs (n / 1000000000) := by
  rw [digs, if_neg (by omega)]
theorem digs_ind {p : Nat → Prop} (h0 : p 0) (h1 : ∀ n, 0 < n → p (n / 1000000000) → p n) (n : Nat) : p n := by
  induction n using Nat.strongRecOn with
  | _ n ih =>
    by_cases h : n = 0
    · rw [h]
      exact h0
    · exact h1 n (by omega) (ih _ (by omega))
theorem Limbs_digs (n : Nat) : Limbs (digs n) := by
  refine digs_ind (p := fun n => Limbs (digs n)) ?_ ?_ n
  · rw [digs_zero]
    exact Limbs.nil
  · intro n h ih
    rw [digs_pos h]
    exact Limbs.cons (by omega) (by omega) ih
theorem val_digs (n : Nat) : val (digs n) = n := by
  refine digs_ind (p := fun n => val (digs n) = n) ?_ ?_ n
  · rw [digs_zero]
    rfl
  · intro n h ih
    rw [digs_pos h, val_cons, ih]
    omega
theorem digs_len_le (n m : Nat) : (digs n).length ≤ m ↔ n < P m := by
  induction m generalizing n with
  | zero =>
    by_cases h : n = 0
    · subst h
      rw [digs_zero, P_zero]
      simp
    · rw [digs_pos (by omega), P_zero, List.length_cons]
      omega
  | succ m ih =>
    by_cases h : n = 0
    · subst h
      rw [digs_zero]
      have := P_pos (m + 1)
      simp [this]
    · rw [digs_pos (by omega), List.length_cons, P_succ, Nat.add_le_add_iff_right, ih]
      omega
theorem digs_inj {m n : Nat} (h : digs m = digs n) : m = n := by rw [← val_digs m, h, val_digs]
theorem digs_nil {n : Nat} : digs n = [] ↔ n = 0 := ⟨fun h => by rw [← val_digs n, h]; rfl, fun h => by rw [h, digs_zero]⟩
theorem digs_len_pos {n : Nat} (h : 0 < n) : 0 < (digs n).length := by
  rw [digs_pos h]
  simp
theorem digs_len_zero {n : Nat} : (digs n).length = 0 ↔ n = 0 := by rw [List.length_eq_zero_iff, digs_nil]
theorem P_le_digs {n : Nat} (h : 0 < n) : P ((digs n).length - 1) ≤ n := by
  have h1 := digs_len_pos h
  have := digs_len_le n ((digs n).length - 1)
  omega
/-- A list of limbs whose last one isn't 0 is its value's digits. -/
theorem digs_val {l : List Int} (h : Limbs l) (hl : l = [] ∨ limb l (l.length - 1) ≠ 0) : digs (val l) = l := by
  induction l with
  | nil => rw [val_nil, digs_zero]
  | cons x l ih =>
    have hx := h x List.mem_cons_self
    rw [val_cons]
    have hne : 0 < x.toNat + 1000000000 * val l := by
      rcases l with _ | ⟨y, l⟩
      · rcases hl with hl | hl
        · cases hl
        · simp [limb] at hl
          simp [val_nil]
          omega
      · have : digs (val (y :: l)) = y :: l := ih h.tail (.inr (by
          rcases hl with hl | hl
          · cases hl
          · simpa [limb_cons] using hl))
        have h2 : val (y :: l) ≠ 0 := fun e => by
          rw [e, digs_zero] at this
          cases this
        omega
    rw [digs_pos hne]
    have e1 : (x.toNat + 1000000000 * val l) % 1000000000 = x.toNat := by omega
    have e2 : (x.toNat + 1000000000 * val l) / 1000000000 = val l := by omega
    rw [e1, e2]
    have e3 : digs (val l) = l := by
      rcases l with _ | ⟨y, l⟩
      · rw [val_nil, digs_zero]
      · exact ih h.tail (.inr (by
          rcases hl with hl | hl
          · cases hl
          · simpa [limb_cons] using hl))
    rw [e3]
    congr 1
    omega
theorem limb_digs_last {n : Nat} (h : 0 < n) : limb (digs n) ((digs n).length - 1) ≠ 0 := by
  refine digs_ind (p := fun n => 0 < n → limb (digs n) ((digs n).length - 1) ≠ 0) (fun h => absurd h (by omega)) ?_ n h
  intro n h ih _
  rw [digs_pos h, List.length_cons, Nat.add_sub_cancel]
  by_cases e : n / 1000000000 = 0
  · rw [e, digs_zero]
    simp [limb]
    omega
  · have h1 := digs_len_pos (n := n / 1000000000) (by omega)
    have := ih (by omega)
    obtain ⟨m, hm⟩ : ∃ m, (digs (n / 1000000000)).length = m + 1 := ⟨(digs (n / 1000000000)).length - 1, by omega⟩
    rw [hm, limb_cons]
    rw [hm, Nat.add_sub_cancel] at this
    exact this
theorem limb_digs (n i : Nat) : limb (digs n) i = n / P i % 1000000000 := by
  induction i generalizing n with
  | zero =>
    rw [P_zero, Nat.div_one]
    by_cases h : n = 0
    · subst h
      rw [digs_zero]
      rfl
    · rw [digs_pos (by omega)]
      simp only [limb, List.getD_cons_zero]
      omega
  | succ i ih =>
    by_cases h : n = 0
    · subst h
      rw [digs_zero, limb_out (by simp)]
      simp
    · rw [digs_pos (by omega), limb_cons, ih, P_succ, Nat.div_div_eq_div_mul]

/-! what is a natural -/
def isNatB (l : List Int) : Bool := decide (∀ x ∈ l, x < 1000000000) && (decide (l.length = 0) || limb l (l.length - 1) != 0)
/-- What a row is worth: nothing, if it is no natural. -/
def V (l : List Int) : Nat := if isNatB l = true then val l else 0
def NonNeg (l : List Int) : Prop := ∀ x ∈ l, 0 ≤ x
theorem isNatB_limbs {l : List Int} (h0 : NonNeg l) (h : isNatB l = true) : Limbs l := by
  unfold isNatB at h
  simp only [Bool.and_eq_true, decide_eq_true_eq] at h
  exact fun x hx => ⟨h0 x hx, h.1 x hx⟩
theorem isNatB_digs (n : Nat) : isNatB (digs n) = true := by
  unfold isNatB
  simp only [Bool.and_eq_true, decide_eq_true_eq, Bool.or_eq_true, bne_iff_ne]
  refine ⟨fun x hx => (Limbs_digs n x hx).2, ?_⟩
  by_cases h : n = 0
  · exact .inl (digs_len_zero.2 h)
  · exact .inr (limb_digs_last (by omega))
theorem V_digs (n : Nat) : V (digs n) = n := by rw [V, if_pos (isNatB_digs n), val_digs]
theorem digs_V {l : List Int} (h0 : NonNeg l) : digs (V l) = if isNatB l = true then l else [] := by
  unfold V
  by_cases h : isNatB l = true
  · rw [if_pos h, if_pos h]
    refine digs_val (isNatB_limbs h0 h) ?_
    unfold isNatB at h
    simp only [Bool.and_eq_true, decide_eq_true_eq, Bool.or_eq_true, bne_iff_ne] at h
    rcases h.2 with h | h
    · exact .inl (List.length_eq_zero_iff.1 h)
    · exact .inr h
  · rw [if_neg h, if_neg h, digs_zero]
theorem NonNeg_digs (n : Nat) : NonNeg (digs n) := fun x hx => (Limbs_digs n x hx).1
theorem V_lt {l : List Int} (h0 : NonNeg l) : V l < P l.length := by
  unfold V
  split
  · rename_i h
    exact val_lt (isNatB_limbs h0 h)
  · exact P_pos _
theorem digs_V_len {l : List Int} (h0 : NonNeg l) : (digs (V l)).length ≤ l.length := (digs_len_le _ _).2 (V_lt h0)
/-- The sign of a comparison. -/
def cmpZ (x y : Nat) : Int := if x < y then -1 else if y < x then 1 else 0
end Go.Proofs.Ytdjefkdebobpmaa.NatA
