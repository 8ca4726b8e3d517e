/- Of every two trees whether they are any, how many, how deep, their words, whether they are the same: the plain law. Condition: the first tree has at most two million nodes. -/
import Derived.Test.YtegeleijdobmeaaPAllx19
import Derived.Test.YtegeleijdobmeaaTreeD
namespace Go.Proofs.Ytegeleijdobmeaa.Pure
open Go.RowKit Go.Proofs.Ytegeleijdobmeaa.PAll Go.Proofs.YtegeleijdobmeaaW.PrintWords Go.Proofs.YtegeleijdobmeaaW.PrintLast
set_option linter.unusedVariables false
theorem known_ev9 : Ev (fun k => mullionlaw9_known.f k) true := Ev.of (g := fun k => mullionlaw9_known.f k) (fun k => mullionlaw9_known.mono k) (k := 200) (by decide +kernel)
open Classical in
theorem forms_j0 (t u : S29) (ht : thin t) (hs : sml t) (hz : siz t ≤ 2000000) : Ev (fun k => mullionlaw9_TreeForms.j0 k false t.f0 t.f1.f0 t.f1.f1 t.f2 u.f0 u.f1.f0 u.f1.f1 u.f2) true := by
  have hfl := flat_len t
  have eS : Ev (fun k => tree_Same.f k t.f0 t.f1.f0 t.f1.f1 t.f2 u.f0 u.f1.f0 u.f1.f1 u.f2) (decide (t = u)) := by
    refine Ev.congr (fun k => ?_) (same_ev t u)
    unfold tree_Same.f
    have he : (⟨t.f0, ⟨t.f1.f0, t.f1.f1⟩, t.f2⟩ : S29) = t := by cases t; rfl
    have he2 : (⟨u.f0, ⟨u.f1.f0, u.f1.f1⟩, u.f2⟩ : S29) = u := by cases u; rfl
    rw [he, he2]
  have e1 := Ev.bind (f := fun k t429 => some (decide (t = u) == t429)) (rsame_ev t ht u) (Ev.now _)
  have e2 := Ev.bind (f := fun k t428 => (mullionref8_SameTree.f k t.f0 t.f1.f0 t.f1.f1 t.f2 u.f0 u.f1.f0 u.f1.f1 u.f2).bind fun t429 => some (t428 == t429)) eS e1
  rw [beq_self_eq_true] at e2
  have e3 := Ev.bind (f := fun k t427 => if t427 = true then ((tree_Same.f k t.f0 t.f1.f0 t.f1.f1 t.f2 u.f0 u.f1.f0 u.f1.f1 u.f2).bind fun t428 => ((mullionref8_SameTree.f k t.f0 t.f1.f0 t.f1.f1 t.f2 u.f0 u.f1.f0 u.f1.f1 u.f2).bind fun t429 => some (t428 == t429))) else none) (refSame_self (flat t) (by omega)) (Ev.congr (fun k => by rw [if_pos rfl]) e2)
  have e4 := Ev.bind (f := fun k t424 => (mullionref8_Same.f k (flat t) t424).bind fun t427 => if t427 = true then ((tree_Same.f k t.f0 t.f1.f0 t.f1.f1 t.f2 u.f0 u.f1.f0 u.f1.f1 u.f2).bind fun t428 => ((mullionref8_SameTree.f k t.f0 t.f1.f0 t.f1.f1 t.f2 u.f0 u.f1.f0 u.f1.f1 u.f2).bind fun t429 => some (t428 == t429))) else none) (rOf_ev t ht (by omega)) e3
  have e5 := Ev.bind (f := fun k t421 => (mullionref8_Of.f k t.f0 t.f1.f0 t.f1.f1 t.f2).bind fun t424 => (mullionref8_Same.f k t421 t424).bind fun t427 => if t427 = true then ((tree_Same.f k t.f0 t.f1.f0 t.f1.f1 t.f2 u.f0 u.f1.f0 u.f1.f1 u.f2).bind fun t428 => ((mullionref8_SameTree.f k t.f0 t.f1.f0 t.f1.f1 t.f2 u.f0 u.f1.f0 u.f1.f1 u.f2).bind fun t429 => some (t428 == t429))) else none) (Words_ev t (by omega)) e4
  refine Ev.step (f := fun k => (tree_Is.f k t.f0 t.f1.f0 t.f1.f1 t.f2).bind fun t415 => ((mullionref8_Is.f k t.f0 t.f1.f0 t.f1.f1 t.f2).bind fun t416 => (if (t415 == t416) = true then ((tree_Count.f k t.f0 t.f1.f0 t.f1.f1 t.f2).bind fun t417 => ((mullionref8_Count.f k t.f0 t.f1.f0 t.f1.f1 t.f2).bind fun t418 => (if t417 = t418 then ((tree_Deep.f k t.f0 t.f1.f0 t.f1.f1 t.f2).bind fun t419 => ((mullionref8_Deep.f k t.f0 t.f1.f0 t.f1.f1 t.f2).bind fun t420 => (if t419 = t420 then ((tree_Words.f k t.f0 t.f1.f0 t.f1.f1 t.f2).bind fun t421 => ((mullionref8_Of.f k t.f0 t.f1.f0 t.f1.f1 t.f2).bind fun t424 => ((mullionref8_Same.f k t421 t424).bind fun t427 => (if t427 = true then ((tree_Same.f k t.f0 t.f1.f0 t.f1.f1 t.f2 u.f0 u.f1.f0 u.f1.f1 u.f2).bind fun t428 => ((mullionref8_SameTree.f k t.f0 t.f1.f0 t.f1.f1 t.f2 u.f0 u.f1.f0 u.f1.f1 u.f2).bind fun t429 => (some (t428 == t429)))) else (none))))) else (none)))) else (none)))) else (none)))) (fun k => ?_) ?_
  · simp only [mullionlaw9_TreeForms.j0]
    rw [if_neg Bool.false_ne_true]
  refine Ev.bind (f := fun k t415 => _) (Is_ev t ht hs) ?_
  refine Ev.bind (f := fun k t416 => _) (rIs_ev t ht hs) ?_
  refine Ev.congr (fun k => by rw [if_pos (beq_self_eq_true _)]) ?_
  refine Ev.bind (f := fun k t417 => _) (Count_ev t) ?_
  refine Ev.bind (f := fun k t418 => _) (rCount_ev t) ?_
  refine Ev.congr (fun k => by rw [if_pos rfl]) ?_
  refine Ev.bind (f := fun k t419 => _) (Deep_ev t ht) ?_
  refine Ev.bind (f := fun k t420 => _) (rDeep_ev t ht) ?_
  exact Ev.congr (fun k => by rw [if_pos rfl]) e5
theorem TreeForms (t u : S29) (hz : siz t ≤ 2000000) : ∃ k, mullionlaw9_TreeForms.f k t.f0 t.f1.f0 t.f1.f1 t.f2 u.f0 u.f1.f0 u.f1.f1 u.f2 = some true := by
  have ejt : Ev (fun k => mullionlaw9_TreeForms.j0 k true t.f0 t.f1.f0 t.f1.f1 t.f2 u.f0 u.f1.f0 u.f1.f1 u.f2) true := Ev.once (fun k => by simp only [mullionlaw9_TreeForms.j0, if_true])
  refine Ev.rounds ?_
  refine Ev.bind (f := fun k t412 => if t412 = true then ((mullionlaw9_fewTree.f k t.f0 t.f1.f0 t.f1.f1 t.f2 70).bind fun t413 => (if t413 = true then ((mullionlaw9_fewTree.f k u.f0 u.f1.f0 u.f1.f1 u.f2 70).bind fun t414 => (mullionlaw9_TreeForms.j0 k (!t414) t.f0 t.f1.f0 t.f1.f1 t.f2 u.f0 u.f1.f0 u.f1.f1 u.f2)) else (mullionlaw9_TreeForms.j0 k true t.f0 t.f1.f0 t.f1.f1 t.f2 u.f0 u.f1.f0 u.f1.f1 u.f2))) else (none)) known_ev9 ?_
  refine Ev.congr (fun k => by rw [if_pos rfl]) ?_
  refine Ev.bind (f := fun k t413 => if t413 = true then ((mullionlaw9_fewTree.f k u.f0 u.f1.f0 u.f1.f1 u.f2 70).bind fun t414 => (mullionlaw9_TreeForms.j0 k (!t414) t.f0 t.f1.f0 t.f1.f1 t.f2 u.f0 u.f1.f0 u.f1.f1 u.f2)) else (mullionlaw9_TreeForms.j0 k true t.f0 t.f1.f0 t.f1.f1 t.f2 u.f0 u.f1.f0 u.f1.f1 u.f2)) (fewTree_ev 70 (by omega) t) ?_
  by_cases h1 : fewT 70 t = true
  · obtain ⟨ht, hs, hd⟩ := few_thin 70 t h1
    refine Ev.congr (fun k => by rw [if_pos h1]) ?_
    refine Ev.bind (f := fun k t414 => mullionlaw9_TreeForms.j0 k (!t414) t.f0 t.f1.f0 t.f1.f1 t.f2 u.f0 u.f1.f0 u.f1.f1 u.f2) (fewTree_ev 70 (by omega) u) ?_
    by_cases h2 : fewT 70 u = true
    · exact Ev.congr (fun k => by rw [h2]; rfl) (forms_j0 t u ht hs hz)
    · exact Ev.congr (fun k => by rw [Bool.eq_false_iff.mpr h2]; rfl) ejt
  · exact Ev.congr (fun k => by rw [if_neg h1]) ejt
end Go.Proofs.Ytegeleijdobmeaa.Pure
