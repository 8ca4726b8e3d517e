/- The truth of a proposition, by its operators: what the document's function answers. -/
import Derived.Test.YtkmenlgddncmaaaCnfC
import Derived.Test.YtkmenlgddncmaaaPAllx8
namespace Go.Proofs.Ytkmenlgddncmaaa.Pure
open Go.RowKit Go.Proofs.Ytkmenlgddncmaaa.PAll Go.Proofs.YtkmenlgddncmaaaW.PrintWords Go.Proofs.YtkmenlgddncmaaaW.PrintLast
set_option linter.unusedVariables false
/-- The truth, down to level k. -/
def tru : Nat → List Bool → S24 → Bool
  | 0, _, _ => false
  | k + 1, x, p => if opP (x.length : Int) p = 3 then rdOf false x p.f1 else opv (opP (x.length : Int) p) (p.f2.map (tru k x))
theorem tru_succ : ∀ k x p, okT k p → tru (k + 1) x p = tru k x p
  | 0, _, _, h => h.elim
  | k + 1, x, p, h => by
    rw [tru, tru]
    rw [show p.f2.map (tru (k + 1) x) = p.f2.map (tru k x) from List.map_congr_left (fun q hq => tru_succ k x q (h q hq))]
theorem rdT_mem (l : List S24) (i : Int) (h0 : 0 ≤ i) (h : i < (l.length : Int)) : rd_T24 l i ∈ l := by
  obtain ⟨j, rfl⟩ := Int.eq_ofNat_of_zero_le h0
  have hj : j < l.length := by omega
  simp [rd_T24, hj]
theorem rdB_map (f : S24 → Bool) (l : List S24) (i : Int) (h0 : 0 ≤ i) (h : i < (l.length : Int)) : rdOf false (l.map f) i = f (rd_T24 l i) := by
  obtain ⟨j, rfl⟩ := Int.eq_ofNat_of_zero_le h0
  have hj : j < l.length := by omega
  simp [rdOf, rd_T24, hj]
theorem Truth_loop (x : List Bool) (p : S24) (g : S24 → Bool) (hp : p.f0 = 5 ∨ p.f0 = 6) (hl : p.f2.length ≤ 1000000) (hg : ∀ q ∈ p.f2, Ev (fun k => mullionref16_Truth.f k q.f0 q.f1 q.f2 x) (g q)) (d : Nat) : ∀ i : Nat, i + d = p.f2.length →
    Ev (fun k => mullionref16_Truth.l0 k x (i : Int) p.f0 p.f1 p.f2) (if p.f0 = 5 then (p.f2.drop i).all g else (p.f2.drop i).any g) := by
  induction d with
  | zero =>
    intro i hi
    refine Ev.one (fun k => ?_)
    simp only [mullionref16_Truth.l0]
    rw [if_neg (by omega), List.drop_of_length_le (by omega)]
    rcases hp with h | h <;> simp [h]
  | succ d ih =>
    intro i hi
    have hil : i < p.f2.length := by omega
    have hrd : rd_T24 p.f2 (i : Int) = p.f2[i] := by simp [rd_T24, hil]
    have hq := hg p.f2[i] (List.getElem_mem hil)
    have w : wrap64 ((i : Int) + 1) = ((i + 1 : Nat) : Int) := by unfold wrap64; omega
    refine Ev.step (f := fun k => (mullionref16_Truth.f k p.f2[i].f0 p.f2[i].f1 p.f2[i].f2 x).bind fun t => if (t == (p.f0 == 6)) = true then some (p.f0 == 6) else mullionref16_Truth.l0 k x (wrap64 ((i : Int) + 1)) p.f0 p.f1 p.f2) (fun k => ?_) (Ev.bind hq ?_)
    · simp only [mullionref16_Truth.l0]
      rw [if_pos (by omega), if_pos (by omega), hrd]
    · rw [List.drop_eq_getElem_cons hil, List.all_cons, List.any_cons, w]
      have h2 := ih (i + 1) (by omega)
      rcases hp with h | h
      · simp only [h] at h2 ⊢
        cases hgv : g p.f2[i]
        · simp; exact Ev.now _
        · simpa using h2
      · simp only [h] at h2 ⊢
        cases hgv : g p.f2[i]
        · simpa using h2
        · simp; exact Ev.now _
theorem sum_le (l : List S24) (f : S24 → Nat) (q : S24) (hq : q ∈ l) : f q ≤ (l.map f).sum := by
  induction l with
  | nil => simp at hq
  | cons a tl ih =>
    rw [List.map_cons, List.sum_cons]
    rcases List.mem_cons.1 hq with h | h
    · rw [h]; omega
    · have := ih h; omega
theorem len_le (k : Nat) (p : S24) (h : okT (k + 1) p) : p.f2.length + 1 ≤ cnt (k + 1) p := by
  rw [cnt]
  have h2 : ∀ q ∈ p.f2, 1 ≤ cnt k q := fun q hq => cnt_pos (h q hq)
  have : ∀ l : List S24, (∀ q ∈ l, 1 ≤ cnt k q) → l.length ≤ (l.map (cnt k)).sum := by
    intro l
    induction l with
    | nil => simp
    | cons a tl ih =>
      intro h
      rw [List.map_cons, List.sum_cons, List.length_cons]
      have := h a (by simp)
      have := ih (fun q hq => h q (by simp [hq]))
      omega
  have := this p.f2 h2
  omega
theorem cnt_kid (k : Nat) (p q : S24) (hq : q ∈ p.f2) : cnt k q ≤ cnt (k + 1) p := by
  rw [cnt]
  have := sum_le p.f2 (cnt k) q hq
  omega
theorem Truth_ev (x : List Bool) (k : Nat) : ∀ p : S24, okT k p → cnt k p ≤ 1000000 → Ev (fun K => mullionref16_Truth.f K p.f0 p.f1 p.f2 x) (tru k x p) := by
  induction k with
  | zero => intro p h; exact h.elim
  | succ k ih =>
    intro p h hc
    have hlen := len_le k p h
    have hkid : ∀ q ∈ p.f2, Ev (fun K => mullionref16_Truth.f K q.f0 q.f1 q.f2 x) (tru k x q) := fun q hq => ih q (h q hq) (Nat.le_trans (cnt_kid k p q hq) hc)
    have kid : ∀ i : Int, 0 ≤ i → i < (p.f2.length : Int) → Ev (fun K => mullionref16_Truth.f K (rd_T24 p.f2 i).f0 (rd_T24 p.f2 i).f1 (rd_T24 p.f2 i).f2 x) (tru k x (rd_T24 p.f2 i)) := fun i h0 h1 => hkid _ (rdT_mem _ _ h0 h1)
    rw [tru]
    by_cases h4 : p.f0 = 4
    · by_cases hl : p.f2.length < 1
      · have e : opP (x.length : Int) p = 2 := by unfold opP; rw [if_pos h4, if_pos hl]
        rw [e]
        refine Ev.one (fun K => ?_)
        simp only [mullionref16_Truth.f, mullionref16_needs.f]
        rw [if_pos h4, Option.bind_some, if_pos (by omega)]
        rfl
      · have e : opP (x.length : Int) p = 4 := by unfold opP; rw [if_pos h4, if_neg hl]
        rw [e]
        refine Ev.step (f := fun K => (mullionref16_Truth.f K (rd_T24 p.f2 0).f0 (rd_T24 p.f2 0).f1 (rd_T24 p.f2 0).f2 x).bind fun t => some (!t)) (fun K => ?_) (Ev.bind (kid 0 (by omega) (by omega)) ?_)
        · simp only [mullionref16_Truth.f, mullionref16_needs.f]
          rw [if_pos h4, Option.bind_some, if_neg (by omega), if_neg (by omega), if_neg (by omega), if_pos h4, if_pos (by omega)]
        · rw [← rdB_map (tru k x) p.f2 0 (by omega) (by omega)]
          exact Ev.now _
    by_cases h7 : p.f0 = 7
    · by_cases hl : p.f2.length < 2
      · have e : opP (x.length : Int) p = 2 := by unfold opP; rw [if_neg h4, if_pos h7, if_pos hl]
        rw [e]
        refine Ev.one (fun K => ?_)
        simp only [mullionref16_Truth.f, mullionref16_needs.f]
        rw [if_neg h4, if_pos h7, Option.bind_some, if_pos (by omega)]
        rfl
      · have e : opP (x.length : Int) p = 7 := by unfold opP; rw [if_neg h4, if_pos h7, if_neg hl]
        rw [e]
        refine Ev.step (f := fun K => (mullionref16_Truth.f K (rd_T24 p.f2 0).f0 (rd_T24 p.f2 0).f1 (rd_T24 p.f2 0).f2 x).bind fun t => (mullionref16_Truth.f K (rd_T24 p.f2 1).f0 (rd_T24 p.f2 1).f1 (rd_T24 p.f2 1).f2 x).bind fun t1 => some (t == t1)) (fun K => ?_) (Ev.bind (kid 0 (by omega) (by omega)) (Ev.bind (kid 1 (by omega) (by omega)) ?_))
        · simp only [mullionref16_Truth.f, mullionref16_needs.f]
          rw [if_neg h4, if_pos h7, Option.bind_some, if_neg (by omega), if_neg (by omega), if_neg (by omega), if_neg h4, if_pos h7, if_pos (by omega)]
          congr 1
          funext t
          rw [if_pos (by omega)]
        · rw [← rdB_map (tru k x) p.f2 0 (by omega) (by omega), ← rdB_map (tru k x) p.f2 1 (by omega) (by omega)]
          exact Ev.now _
    by_cases h8 : p.f0 = 8
    · by_cases hl : p.f2.length < 3
      · have e : opP (x.length : Int) p = 2 := by unfold opP; rw [if_neg h4, if_neg h7, if_pos h8, if_pos hl]
        rw [e]
        refine Ev.one (fun K => ?_)
        simp only [mullionref16_Truth.f, mullionref16_needs.f]
        rw [if_neg h4, if_neg h7, if_pos h8, Option.bind_some, if_pos (by omega)]
        rfl
      · have e : opP (x.length : Int) p = 8 := by unfold opP; rw [if_neg h4, if_neg h7, if_pos h8, if_neg hl]
        rw [e]
        refine Ev.step (f := fun K => (mullionref16_Truth.f K (rd_T24 p.f2 0).f0 (rd_T24 p.f2 0).f1 (rd_T24 p.f2 0).f2 x).bind fun t => if t = true then (mullionref16_Truth.f K (rd_T24 p.f2 1).f0 (rd_T24 p.f2 1).f1 (rd_T24 p.f2 1).f2 x).bind (fun t1 => some t1) else (mullionref16_Truth.f K (rd_T24 p.f2 2).f0 (rd_T24 p.f2 2).f1 (rd_T24 p.f2 2).f2 x).bind (fun t1 => some t1)) (fun K => ?_) (Ev.bind (kid 0 (by omega) (by omega)) ?_)
        · simp only [mullionref16_Truth.f, mullionref16_needs.f]
          rw [if_neg h4, if_neg h7, if_pos h8, Option.bind_some, if_neg (by omega), if_neg (by omega), if_neg (by omega), if_neg h4, if_neg h7, if_pos h8, if_pos (by omega)]
          congr 1
          funext t
          rw [if_pos (show (1 : Int) < (p.f2.length : Int) by omega), if_pos (show (2 : Int) < (p.f2.length : Int) by omega)]
        · have r0 := rdB_map (tru k x) p.f2 0 (by omega) (by omega)
          have r1 := rdB_map (tru k x) p.f2 1 (by omega) (by omega)
          have r2 := rdB_map (tru k x) p.f2 2 (by omega) (by omega)
          have e2 : (if (8 : Int) = 3 then rdOf false x p.f1 else opv 8 (p.f2.map (tru k x))) = if tru k x (rd_T24 p.f2 0) = true then tru k x (rd_T24 p.f2 1) else tru k x (rd_T24 p.f2 2) := by
            rw [if_neg (by decide)]
            unfold opv
            rw [if_neg (by decide), if_neg (by decide), if_neg (by decide), if_neg (by decide), if_neg (by decide), if_pos rfl, r0, r1, r2]
          rw [e2]
          cases hz : tru k x (rd_T24 p.f2 0)
          · simp only [Bool.false_eq_true, if_false]
            exact Ev.bind (kid 2 (by omega) (by omega)) (Ev.now _)
          · simp only [if_true]
            exact Ev.bind (kid 1 (by omega) (by omega)) (Ev.now _)
    by_cases h3 : p.f0 = 3
    · refine Ev.one (fun K => ?_)
      simp only [mullionref16_Truth.f, mullionref16_needs.f]
      rw [if_neg h4, if_neg h7, if_neg h8, Option.bind_some, if_neg (by omega), if_neg (by omega), if_pos h3]
      unfold opP
      rw [if_neg h4, if_neg h7, if_neg h8, if_pos h3]
      by_cases hn : p.f1 < 0
      · rw [if_neg (by omega), if_pos hn]; rfl
      · rw [if_pos (by omega), if_neg hn]
        by_cases hg : p.f1 ≥ (x.length : Int)
        · rw [if_neg (by omega), if_pos hg]; rfl
        · rw [if_pos (by omega), if_pos (by omega), if_neg hg]; rfl
    by_cases h1 : p.f0 = 1
    · refine Ev.one (fun K => ?_)
      simp only [mullionref16_Truth.f, mullionref16_needs.f]
      rw [if_neg h4, if_neg h7, if_neg h8, Option.bind_some, if_neg (by omega), if_pos h1]
      unfold opP
      rw [if_neg h4, if_neg h7, if_neg h8, if_neg h3, if_pos h1]
      rfl
    by_cases h56 : p.f0 = 5 ∨ p.f0 = 6
    · have hlp := Truth_loop x p (tru k x) h56 (by omega) hkid p.f2.length 0 (by omega)
      have e : (if opP (x.length : Int) p = 3 then rdOf false x p.f1 else opv (opP (x.length : Int) p) (p.f2.map (tru k x))) = (if p.f0 = 5 then (p.f2.drop 0).all (tru k x) else (p.f2.drop 0).any (tru k x)) := by
        unfold opP
        rcases h56 with h5 | h6
        · rw [if_neg h4, if_neg h7, if_neg h8, if_neg h3, if_neg h1, if_pos h5, if_neg (by decide), if_pos h5]
          simp [opv, List.all_map]
          rfl
        · have h5 : ¬ p.f0 = 5 := by omega
          rw [if_neg h4, if_neg h7, if_neg h8, if_neg h3, if_neg h1, if_neg h5, if_pos h6, if_neg (by decide), if_neg h5]
          simp [opv, List.any_map]
          rfl
      rw [e]
      refine Ev.step (f := fun K => mullionref16_Truth.j0 K x true p.f0 p.f1 p.f2) (fun K => ?_) (Ev.step (fun K => ?_) hlp)
      · simp only [mullionref16_Truth.f, mullionref16_needs.f]
        rw [if_neg h4, if_neg h7, if_neg h8, Option.bind_some, if_neg (by omega), if_neg h1, if_neg h3, if_neg h4, if_neg h7, if_neg h8]
        rcases h56 with h5 | h6
        · rw [if_pos h5, h5]; rfl
        · rw [if_neg (by omega), h6]; rfl
      · simp only [mullionref16_Truth.j0]
        rfl
    · have h5 : ¬ p.f0 = 5 := fun h => h56 (.inl h)
      have h6 : ¬ p.f0 = 6 := fun h => h56 (.inr h)
      have e : opP (x.length : Int) p = 2 := by
        unfold opP
        rw [if_neg h4, if_neg h7, if_neg h8, if_neg h3, if_neg h1, if_neg h5, if_neg h6]
      rw [e]
      refine Ev.step (f := fun K => mullionref16_Truth.j0 K x false p.f0 p.f1 p.f2) (fun K => ?_) (Ev.one (fun K => ?_))
      · simp only [mullionref16_Truth.f, mullionref16_needs.f]
        rw [if_neg h4, if_neg h7, if_neg h8, Option.bind_some, if_neg (by omega), if_neg h1, if_neg h3, if_neg h4, if_neg h7, if_neg h8, if_neg h5]
        have e6 : (p.f0 == 6) = false := beq_eq_false_iff_ne.mpr h6
        rw [e6]
      · simp only [mullionref16_Truth.j0]
        rfl
end Go.Proofs.Ytkmenlgddncmaaa.Pure
