/- A node's operator, and what it makes of its kids' values: what the code's functions answer. -/
import Derived.Test.YtkmenlgddncmaaaCnfB
namespace Go.Proofs.Ytkmenlgddncmaaa.Pure
open Go.RowKit Go.Proofs.Ytkmenlgddncmaaa.PAll Go.Proofs.YtkmenlgddncmaaaW.PrintWords Go.Proofs.YtkmenlgddncmaaaW.PrintLast
set_option linter.unusedVariables false
def opP (A : Int) (p : S24) : Int :=
  if p.f0 = 4 then (if p.f2.length < 1 then 2 else 4) else if p.f0 = 7 then (if p.f2.length < 2 then 2 else 7)
  else if p.f0 = 8 then (if p.f2.length < 3 then 2 else 8) else if p.f0 = 3 then (if p.f1 < 0 then 2 else if p.f1 ≥ A then 2 else 3)
  else if p.f0 = 1 then 1 else if p.f0 = 5 then 5 else if p.f0 = 6 then 6 else 2
theorem op_eq (k : Nat) (A : Int) (p : S24) : cnf_op.f (k + 1) p.f0 p.f1 p.f2 A = some (opP A p) := by
  unfold cnf_op.f opP
  by_cases h4 : p.f0 = 4
  · rw [if_pos h4, if_pos h4]
    by_cases hl : p.f2.length < 1
    · rw [if_pos (by omega), if_pos hl]
    · rw [if_neg (by omega), if_neg hl, h4]
  rw [if_neg h4, if_neg h4]
  by_cases h7 : p.f0 = 7
  · rw [if_pos h7, if_pos h7]
    by_cases hl : p.f2.length < 2
    · rw [if_pos (by omega), if_pos hl]
    · rw [if_neg (by omega), if_neg hl, h7]
  rw [if_neg h7, if_neg h7]
  by_cases h8 : p.f0 = 8
  · rw [if_pos h8, if_pos h8]
    by_cases hl : p.f2.length < 3
    · rw [if_pos (by omega), if_pos hl]
    · rw [if_neg (by omega), if_neg hl, h8]
  rw [if_neg h8, if_neg h8]
  by_cases h3 : p.f0 = 3
  · rw [if_pos h3, if_pos h3]
    by_cases hn : p.f1 < 0
    · rw [if_pos hn, if_pos hn]; simp [cnf_op.j0]
    · rw [if_neg hn, if_neg hn]
      by_cases hg : p.f1 ≥ A
      · rw [if_pos hg]; simp [cnf_op.j0, hg]
      · rw [if_neg hg]
        have e : decide (p.f1 ≥ A) = false := decide_eq_false hg
        rw [e]
        simp only [cnf_op.j0, Bool.false_eq_true, if_false]
        rw [if_neg (by omega), h3]
  rw [if_neg h3, if_neg h3]
  by_cases h1 : p.f0 = 1
  · rw [if_pos h1, if_pos h1]
    simp only [cnf_op.j1, h1]
    simp
  rw [if_neg h1, if_neg h1]
  by_cases h5 : p.f0 = 5
  · rw [if_pos h5, if_pos h5]
    simp only [cnf_op.j1, h5]
    simp
  rw [if_neg h5, if_neg h5]
  by_cases h6 : p.f0 = 6
  · rw [if_pos h6]
    simp only [cnf_op.j1, h6]
    simp
  rw [if_neg h6]
  have e : (p.f0 == 6) = false := beq_eq_false_iff_ne.mpr h6
  rw [e]
  simp [cnf_op.j1]
theorem Index_loop (l : List Bool) (b : Bool) (hl : l.length ≤ 1000000) (d : Nat) : ∀ i : Nat, i + d = l.length → ∃ r : Int, Ev (fun k => slices_Index_bool_bool.l0 k l b (l.length : Int) (i : Int)) r ∧ decide (r ≥ 0) = (l.drop i).contains b := by
  induction d with
  | zero =>
    intro i hi
    refine ⟨-1, Ev.one (fun k => ?_), ?_⟩
    · simp only [slices_Index_bool_bool.l0]; rw [if_neg (by omega)]
    · rw [List.drop_of_length_le (by omega)]; rfl
  | succ d ih =>
    intro i hi
    have hil : i < l.length := by omega
    have hrd : rdOf false l (i : Int) = l[i] := by simp [rdOf, hil]
    rw [List.drop_eq_getElem_cons hil]
    by_cases hb : (b == l[i]) = true
    · refine ⟨(i : Int), Ev.one (fun k => ?_), ?_⟩
      · simp only [slices_Index_bool_bool.l0]; rw [if_pos (by omega), if_pos (by omega), if_pos (by omega), hrd, if_pos hb]
      · rw [List.contains_cons, hb]; simp
    · obtain ⟨r, hr, h2⟩ := ih (i + 1) (by omega)
      have w : wrap64 ((i : Int) + 1) = ((i + 1 : Nat) : Int) := by unfold wrap64; omega
      refine ⟨r, Ev.step (fun k => ?_) hr, ?_⟩
      · simp only [slices_Index_bool_bool.l0]; rw [if_pos (by omega), if_pos (by omega), if_pos (by omega), hrd, if_neg hb, w]
      · rw [h2, List.contains_cons]
        have : (b == l[i]) = false := by simpa using hb
        rw [this]; simp
theorem Contains_ev (l : List Bool) (b : Bool) (hl : l.length ≤ 1000000) : Ev (fun k => slices_Contains_bool_bool.f k l b) (l.contains b) := by
  obtain ⟨r, hr, h⟩ := Index_loop l b hl l.length 0 (by omega)
  refine Ev.congr (f := fun k => (slices_Index_bool_bool.f k l b).bind fun t => some (decide (t ≥ 0))) (fun k => rfl) (Ev.bind (a := r) hr ?_)
  rw [List.drop_zero] at h
  rw [h]
  exact Ev.now _
theorem Ev.map {α β : Type} {g : Nat → Option α} {a : α} (f : α → β) (h : Ev g a) : Ev (fun k => (g k).map f) (f a) := by
  obtain ⟨K, hK⟩ := h
  exact ⟨K, fun k hk => by simp only [hK k hk, Option.map_some]⟩
theorem valO_ev (o : Int) (ks : List Bool) (hl : ks.length ≤ 1000000) (h4 : o = 4 → 1 ≤ ks.length) (h7 : o = 7 → 2 ≤ ks.length) (h8 : o = 8 → 3 ≤ ks.length) : Ev (fun k => valO k o ks) (opv o ks) := by
  unfold valO opv
  by_cases d1 : o = 1
  · simp only [if_pos d1]; exact Ev.now _
  simp only [if_neg d1]
  by_cases d4 : o = 4
  · have := h4 d4
    simp only [if_pos d4, if_pos (show 0 < ks.length by omega)]; exact Ev.now _
  simp only [if_neg d4]
  by_cases d5 : o = 5
  · simp only [if_pos d5]
    have h := Ev.map (fun b => !b) (Contains_ev ks false hl)
    have e : (!(ks.contains false)) = ks.all (fun z => z) := by
      apply Bool.eq_iff_iff.mpr
      simp [List.all_eq_true]
    rw [← e]; exact h
  simp only [if_neg d5]
  by_cases d6 : o = 6
  · simp only [if_pos d6]
    have e : ks.contains true = ks.any (fun z => z) := by
      apply Bool.eq_iff_iff.mpr
      simp [List.any_eq_true]
    rw [← e]; exact Contains_ev ks true hl
  simp only [if_neg d6]
  by_cases d7 : o = 7
  · have := h7 d7
    simp only [if_pos d7, if_pos (show 1 < ks.length by omega)]; exact Ev.now _
  simp only [if_neg d7]
  by_cases d8 : o = 8
  · have := h8 d8
    simp only [if_pos d8, if_pos (show 2 < ks.length by omega)]
    split <;> exact Ev.now _
  simp only [if_neg d8]
  exact Ev.now _
end Go.Proofs.Ytkmenlgddncmaaa.Pure
