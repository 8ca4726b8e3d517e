/- The clauses of a node hold just where its variable is what its operator makes of its kids' variables. -/
import Derived.Test.YtkmenlgddncmaaaCnfA
namespace Go.Proofs.Ytkmenlgddncmaaa.Pure
open Go.RowKit Go.Proofs.Ytkmenlgddncmaaa.PAll Go.Proofs.YtkmenlgddncmaaaW.PrintWords Go.Proofs.YtkmenlgddncmaaaW.PrintLast
set_option linter.unusedVariables false
/-- What a literal tells. -/
def lit (a : Int) (y : List Bool) : Bool :=
  if a = 0 then false else if a = -9223372036854775808 then false
  else if a < 0 then (if -a > (y.length : Int) then true else !(rdOf false y (-a - 1)))
  else if a ≤ (y.length : Int) then rdOf false y (a - 1) else false
def yv (y : List Bool) (a : Int) : Bool := rdOf false y (a - 1)
theorem lit_pos {y : List Bool} {a : Int} (h : 1 ≤ a) (h2 : a ≤ (y.length : Int)) : lit a y = yv y a := by
  unfold lit yv
  rw [if_neg (by omega), if_neg (by omega), if_neg (by omega), if_pos h2]
theorem lit_neg {y : List Bool} {a : Int} (h : 1 ≤ a) (h2 : a ≤ (y.length : Int)) (h3 : y.length ≤ 1000000) : lit (-a) y = !(yv y a) := by
  unfold lit yv
  rw [if_neg (by omega), if_neg (by omega), if_pos (by omega), if_neg (by omega), show - -a - 1 = a - 1 by omega]
def holds (l : List (List Int)) (y : List Bool) : Bool := l.all (fun c => c.any (fun a => lit a y))
theorem lit_eq (k : Nat) (a : Int) (x : List Bool) (h1 : -9223372036854775808 ≤ a) (h2 : a ≤ 9223372036854775807) (hx : x.length ≤ 1000000) : cnf_holds.f (k + 1) a x = some (lit a x) := by
  unfold cnf_holds.f lit
  by_cases h0 : a = 0
  · rw [if_pos h0, if_pos h0]; simp [cnf_holds.j0]
  rw [if_neg h0, if_neg h0]
  by_cases hm : a = -9223372036854775808
  · rw [if_pos hm]
    have e : (a == -9223372036854775808) = true := beq_iff_eq.mpr hm
    rw [e]; simp [cnf_holds.j0]
  rw [if_neg hm]
  have e : (a == -9223372036854775808) = false := beq_eq_false_iff_ne.mpr hm
  rw [e]
  simp only [cnf_holds.j0, Bool.false_eq_true, if_false]
  by_cases hn : a < 0
  · rw [if_pos hn, if_pos hn]
    have w1 : wrap64 (-a) = -a := by unfold wrap64; omega
    rw [w1]
    by_cases hg : -a > (x.length : Int)
    · rw [if_pos hg, if_pos hg]
    · have w2 : wrap64 (-a - 1) = -a - 1 := by unfold wrap64; omega
      rw [if_neg hg, if_neg hg, w2, if_pos (by omega), if_pos (by omega)]
  · rw [if_neg hn, if_neg hn]
    by_cases hg : a ≤ (x.length : Int)
    · have w2 : wrap64 (a - 1) = a - 1 := by unfold wrap64; omega
      rw [if_pos hg, if_pos hg, w2, if_pos (by omega), if_pos (by omega)]
    · rw [if_neg hg, if_neg hg]
def In64 (l : List (List Int)) : Prop := ∀ c ∈ l, ∀ a ∈ c, -9223372036854775808 ≤ a ∧ a ≤ 9223372036854775807
theorem anyF_lit (k : Nat) (x : List Bool) (hx : x.length ≤ 1000000) : ∀ l : List Int, (∀ a ∈ l, -9223372036854775808 ≤ a ∧ a ≤ 9223372036854775807) → anyF (k + 1) x l = some (l.any (fun a => lit a x)) := by
  intro l
  induction l with
  | nil => intro _; rfl
  | cons a tl ih =>
    intro h
    have h1 := h a (by simp)
    rw [anyF, lit_eq k a x h1.1 h1.2 hx, Option.bind_some, ih (fun b hb => h b (by simp [hb]))]
    cases hc : lit a x <;> simp [hc]
theorem Holds_ev (x : List Bool) (hx : x.length ≤ 1000000) (l : List (List Int)) (h : In64 l) : Ev (fun k => cnf_Holds.f k l x) (holds l x) := by
  refine Ev.one (fun k => ?_)
  unfold cnf_Holds.f holds
  revert h
  induction l with
  | nil => intro _; rfl
  | cons c tl ih =>
    intro h
    rw [allF, anyF_lit k x hx c (h c (by simp)), Option.bind_some, ih (fun b hb => h b (by simp [hb]))]
    cases hc : c.any (fun a => lit a x) <;> simp [hc]
/-- What an operator makes of its kids. -/
def opv (o : Int) (b : List Bool) : Bool :=
  if o = 1 then true else if o = 4 then !(rdOf false b 0) else if o = 5 then b.all (fun z => z) else if o = 6 then b.any (fun z => z)
  else if o = 7 then rdOf false b 0 == rdOf false b 1 else if o = 8 then (if rdOf false b 0 = true then rdOf false b 1 else rdOf false b 2) else false
theorem rd_map (y : List Bool) (ks : List Int) (i : Int) (h0 : 0 ≤ i) (h : i < (ks.length : Int)) : rdOf false (ks.map (yv y)) i = yv y (rd ks i) := by
  obtain ⟨j, rfl⟩ := Int.eq_ofNat_of_zero_le h0
  have hj : j < ks.length := by omega
  simp [rdOf, rd, hj]
theorem rd_mem (ks : List Int) (i : Int) (h0 : 0 ≤ i) (h : i < (ks.length : Int)) : rd ks i ∈ ks := by
  obtain ⟨j, rfl⟩ := Int.eq_ofNat_of_zero_le h0
  have hj : j < ks.length := by omega
  simp [rd, hj]
theorem many_and (v : Int) (ks : List Int) (y : List Bool) (hy : y.length ≤ 1000000) (hv : 1 ≤ v ∧ v ≤ (y.length : Int)) (hk : ∀ a ∈ ks, 1 ≤ a ∧ a ≤ (y.length : Int)) :
    holds (manyC v 1 ks ++ [manyLast v 1 ks]) y = (yv y v == (ks.map (yv y)).all (fun z => z)) := by
  have e1 : ∀ a ∈ ks, wrap64 (1 * a) = a ∧ wrap64 (wrap64 (-1) * a) = -a := by
    intro a ha
    have := hk a ha
    constructor <;> (unfold wrap64; omega)
  have e2 : wrap64 (wrap64 (-1) * v) = -v ∧ wrap64 (1 * v) = v := by constructor <;> (unfold wrap64; omega)
  have c1 : manyC v 1 ks = ks.map fun a => [-v, a] := by
    unfold manyC
    exact List.map_congr_left (fun a ha => by rw [e2.1, (e1 a ha).1])
  have c2 : manyLast v 1 ks = v :: ks.map fun a => -a := by
    unfold manyLast
    rw [e2.2]
    congr 1
    exact List.map_congr_left (fun a ha => by rw [(e1 a ha).2])
  rw [c1, c2]
  unfold holds
  rw [List.all_append, List.all_map]
  simp only [List.all_cons, List.all_nil, Bool.and_true, List.any_cons, List.any_map]
  rw [lit_pos hv.1 hv.2]
  have f1 : (ks.all ((fun c => c.any fun a => lit a y) ∘ fun a => [-v, a])) = ks.all (fun a => !(yv y v) || yv y a) := by
    apply Bool.eq_iff_iff.mpr
    simp only [List.all_eq_true, Function.comp]
    constructor <;> intro h a ha <;> have h3 := h a ha <;> have h4 := hk a ha <;> simp [lit_neg hv.1 hv.2 hy, lit_pos h4.1 h4.2] at h3 ⊢ <;> exact h3
  have f2 : (ks.any ((fun a => lit a y) ∘ fun a => -a)) = ks.any (fun a => !(yv y a)) := by
    apply Bool.eq_iff_iff.mpr
    simp only [List.any_eq_true, Function.comp]
    constructor <;> rintro ⟨a, ha, h⟩ <;> have h4 := hk a ha <;> refine ⟨a, ha, ?_⟩ <;> simpa [lit_neg h4.1 h4.2 hy] using h
  rw [f1, f2, List.all_map]
  have g : ((fun z : Bool => z) ∘ yv y) = yv y := rfl
  rw [g]
  cases hv0 : yv y v
  · have q1 : (ks.all fun a => !false || yv y a) = true := by simp
    rw [q1]
    cases hA : ks.all (yv y)
    · have : ∃ a ∈ ks, yv y a = false := by simpa using hA
      obtain ⟨a, ha, h⟩ := this
      have : ks.any (fun a => !(yv y a)) = true := List.any_eq_true.mpr ⟨a, ha, by simp [h]⟩
      simp [this]
    · have : ks.any (fun a => !(yv y a)) = false := by
        rw [List.any_eq_false]
        intro a ha
        have := List.all_eq_true.mp hA a ha
        simp [this]
      simp [this]
  · have q1 : (ks.all fun a => !true || yv y a) = ks.all (yv y) := by simp
    rw [q1]
    cases ks.all (yv y) <;> simp
theorem many_or (v : Int) (ks : List Int) (y : List Bool) (hy : y.length ≤ 1000000) (hv : 1 ≤ v ∧ v ≤ (y.length : Int)) (hk : ∀ a ∈ ks, 1 ≤ a ∧ a ≤ (y.length : Int)) :
    holds (manyC v (-1) ks ++ [manyLast v (-1) ks]) y = (yv y v == (ks.map (yv y)).any (fun z => z)) := by
  have e0 : wrap64 (- -1) = 1 := by unfold wrap64; omega
  have e1 : ∀ a ∈ ks, wrap64 (-1 * a) = -a ∧ wrap64 (wrap64 (- -1) * a) = a := by
    intro a ha
    have := hk a ha
    rw [e0]
    constructor <;> (unfold wrap64; omega)
  have e2 : wrap64 (wrap64 (- -1) * v) = v ∧ wrap64 (-1 * v) = -v := by rw [e0]; constructor <;> (unfold wrap64; omega)
  have c1 : manyC v (-1) ks = ks.map fun a => [v, -a] := by
    unfold manyC
    exact List.map_congr_left (fun a ha => by rw [e2.1, (e1 a ha).1])
  have c2 : manyLast v (-1) ks = -v :: ks.map fun a => a := by
    unfold manyLast
    rw [e2.2]
    congr 1
    exact List.map_congr_left (fun a ha => by rw [(e1 a ha).2])
  rw [c1, c2]
  unfold holds
  rw [List.all_append, List.all_map]
  simp only [List.all_cons, List.all_nil, Bool.and_true, List.any_cons, List.any_map]
  rw [lit_neg hv.1 hv.2 hy]
  have f1 : (ks.all ((fun c => c.any fun a => lit a y) ∘ fun a => [v, -a])) = ks.all (fun a => yv y v || !(yv y a)) := by
    apply Bool.eq_iff_iff.mpr
    simp only [List.all_eq_true, Function.comp]
    constructor <;> intro h a ha <;> have h3 := h a ha <;> have h4 := hk a ha <;> simp [lit_pos hv.1 hv.2, lit_neg h4.1 h4.2 hy] at h3 ⊢ <;> exact h3
  have f2 : (ks.any ((fun a => lit a y) ∘ fun a => a)) = ks.any (yv y) := by
    apply Bool.eq_iff_iff.mpr
    simp only [List.any_eq_true, Function.comp]
    constructor <;> rintro ⟨a, ha, h⟩ <;> have h4 := hk a ha <;> refine ⟨a, ha, ?_⟩ <;> simpa [lit_pos h4.1 h4.2] using h
  rw [f1, f2]
  have g : ((fun z : Bool => z) ∘ yv y) = yv y := rfl
  rw [g]
  cases hv0 : yv y v
  · have q1 : (ks.all fun a => false || !(yv y a)) = !(ks.any (yv y)) := by
      rw [List.not_any_eq_all_not]; simp
    rw [q1]
    cases ks.any (yv y) <;> simp
  · have q1 : (ks.all fun a => true || !(yv y a)) = true := by simp
    rw [q1]
    cases ks.any (yv y) <;> simp
/-- The clauses of a node, in one law. -/
theorem clsC_sem (o v : Int) (ks : List Int) (y : List Bool) (hy : y.length ≤ 1000000) (hv : 1 ≤ v ∧ v ≤ (y.length : Int)) (hk : ∀ a ∈ ks, 1 ≤ a ∧ a ≤ (y.length : Int)) (h4 : o = 4 → 1 ≤ ks.length) (h7 : o = 7 → 2 ≤ ks.length) (h8 : o = 8 → 3 ≤ ks.length) :
    holds (clsC o v ks) y = (yv y v == opv o (ks.map (yv y))) := by
  have wv : wrap64 (-v) = -v := by unfold wrap64; omega
  have wa : ∀ a, 1 ≤ a ∧ a ≤ (y.length : Int) → wrap64 (-a) = -a := by intro a ha; unfold wrap64; omega
  unfold clsC opv
  by_cases d1 : o = 1
  · rw [if_pos d1, if_pos d1]
    simp [holds, lit_pos hv.1 hv.2]
  rw [if_neg d1, if_neg d1]
  by_cases d4 : o = 4
  · have a0 := hk _ (rd_mem ks 0 (by omega) (by have := h4 d4; omega))
    rw [if_pos d4, if_pos d4, rd_map y ks 0 (by omega) (by have := h4 d4; omega), wv, wa _ a0]
    simp [holds, lit_pos hv.1 hv.2, lit_neg hv.1 hv.2 hy, lit_pos a0.1 a0.2, lit_neg a0.1 a0.2 hy]
    cases yv y v <;> cases yv y (rd ks 0) <;> rfl
  rw [if_neg d4, if_neg d4]
  by_cases d5 : o = 5
  · rw [if_pos d5, if_pos d5]
    exact many_and v ks y hy hv hk
  rw [if_neg d5, if_neg d5]
  by_cases d6 : o = 6
  · rw [if_pos d6, if_pos d6]
    exact many_or v ks y hy hv hk
  rw [if_neg d6, if_neg d6]
  by_cases d7 : o = 7
  · have a0 := hk _ (rd_mem ks 0 (by omega) (by have := h7 d7; omega))
    have a1 := hk _ (rd_mem ks 1 (by omega) (by have := h7 d7; omega))
    rw [if_pos d7, if_pos d7, rd_map y ks 0 (by omega) (by have := h7 d7; omega), rd_map y ks 1 (by omega) (by have := h7 d7; omega), wv, wa _ a0, wa _ a1]
    simp [holds, lit_pos hv.1 hv.2, lit_neg hv.1 hv.2 hy, lit_pos a0.1 a0.2, lit_neg a0.1 a0.2 hy, lit_pos a1.1 a1.2, lit_neg a1.1 a1.2 hy]
    cases yv y v <;> cases yv y (rd ks 0) <;> cases yv y (rd ks 1) <;> rfl
  rw [if_neg d7, if_neg d7]
  by_cases d8 : o = 8
  · have a0 := hk _ (rd_mem ks 0 (by omega) (by have := h8 d8; omega))
    have a1 := hk _ (rd_mem ks 1 (by omega) (by have := h8 d8; omega))
    have a2 := hk _ (rd_mem ks 2 (by omega) (by have := h8 d8; omega))
    rw [if_pos d8, if_pos d8, rd_map y ks 0 (by omega) (by have := h8 d8; omega), rd_map y ks 1 (by omega) (by have := h8 d8; omega), rd_map y ks 2 (by omega) (by have := h8 d8; omega), wv, wa _ a0, wa _ a1, wa _ a2]
    simp [holds, lit_pos hv.1 hv.2, lit_neg hv.1 hv.2 hy, lit_pos a0.1 a0.2, lit_neg a0.1 a0.2 hy, lit_pos a1.1 a1.2, lit_neg a1.1 a1.2 hy, lit_pos a2.1 a2.2, lit_neg a2.1 a2.2 hy]
    cases yv y v <;> cases yv y (rd ks 0) <;> cases yv y (rd ks 1) <;> cases yv y (rd ks 2) <;> rfl
  rw [if_neg d8, if_neg d8, wv]
  simp [holds, lit_neg hv.1 hv.2 hy]
end Go.Proofs.Ytkmenlgddncmaaa.Pure
