/- A tree's words are read as it, one behind the other as well; without the last one a parenthesis lacks: the plain law. Conditions: none beyond the statement's own. -/
import Derived.Test.YtegeleijdobmeaaPAllx20
import Derived.Test.YtegeleijdobmeaaTreeC
namespace Go.Proofs.Ytegeleijdobmeaa.Pure
open Go.RowKit Go.Proofs.Ytegeleijdobmeaa.PAll Go.Proofs.YtegeleijdobmeaaW.PrintWords Go.Proofs.YtegeleijdobmeaaW.PrintLast
set_option linter.unusedVariables false
theorem known_ev9 : Ev (fun k => mullionlaw9_known.f k) true := Ev.of (g := fun k => mullionlaw9_known.f k) (fun k => mullionlaw9_known.mono k) (k := 200) (by decide +kernel)
theorem same_self (u : S29) : Ev (fun k => tree_Same.f k u.f0 u.f1.f0 u.f1.f1 u.f2 u.f0 u.f1.f0 u.f1.f1 u.f2) true := by
  refine Ev.congr (fun k => ?_) (same_eq u)
  unfold tree_Same.f
  have he : (⟨u.f0, ⟨u.f1.f0, u.f1.f1⟩, u.f2⟩ : S29) = u := by cases u; rfl
  rw [he]
theorem back_j1 (t : S29) (h : good t) : Ev (fun k => mullionlaw9_TreeBack.j1 k (flat t) false t.f0 t.f1.f0 t.f1.f1 t.f2) true := by
  obtain ⟨b, s, l⟩ := t
  have hlen := flat_len ⟨b, s, l⟩
  have hsz := h.2.1
  refine Ev.once (fun k => ?_)
  simp only [mullionlaw9_TreeBack.j1]
  rw [if_neg Bool.false_ne_true]
  cases b with
  | false =>
    rw [if_neg Bool.false_ne_true, flat, if_neg Bool.false_ne_true]
    rfl
  | true =>
    have hf : flat ⟨true, s, l⟩ = (lft :: flats l) ++ [rgt] := by rw [flat, if_pos rfl]; rfl
    have hfl : (flat ⟨true, s, l⟩).length = (lft :: flats l).length + 1 := by rw [hf, List.length_append]; rfl
    have hw : wrap64 (((flat ⟨true, s, l⟩).length : Int) - 1) = (((lft :: flats l).length : Nat) : Int) := by rw [hfl]; unfold wrap64; omega
    rw [if_pos rfl, hw, if_pos (by omega), if_pos (by omega), hf, Int.toNat_natCast, List.take_left, Read_short s l h]
    simp only [Option.bind_some]
    rw [if_pos trivial]
    simp
theorem back_j0 (t u : S29) (ht : good t) (hu : good u) : Ev (fun k => mullionlaw9_TreeBack.j0 k false t.f0 t.f1.f0 t.f1.f1 t.f2 u.f0 u.f1.f0 u.f1.f1 u.f2) true := by
  have h1 := flat_len t
  have h2 := flat_len u
  have h3 := ht.2.1
  have h4 := hu.2.1
  have er := Read_trees [t, u] (fun x hx => by
    rcases List.mem_cons.1 hx with rfl | hx
    · exact ht
    · simp at hx; rw [hx]; exact hu) (by simp)
  rw [flats, flats, flats, List.append_nil] at er
  have hne : (((flat t).length : Int) == 0) = false := by
    have : (flat t).length ≠ 0 := by
      cases t
      rw [flat]
      split <;> simp
    rw [beq_eq_false_iff_ne]
    omega
  have e1 := back_j1 t ht
  have e2 := Ev.bind (f := fun k t457 => if t457 = true then (mullionlaw9_TreeBack.j1 k (flat t) (((flat t).length : Int) == 0) t.f0 t.f1.f0 t.f1.f1 t.f2) else (mullionlaw9_TreeBack.j1 k (flat t) true t.f0 t.f1.f0 t.f1.f1 t.f2)) (same_self u) (Ev.congr (fun k => by rw [if_pos rfl, hne]) e1)
  have e3 := Ev.bind (f := fun k t455 => if t455 = true then ((tree_Same.f k u.f0 u.f1.f0 u.f1.f1 u.f2 u.f0 u.f1.f0 u.f1.f1 u.f2).bind fun t457 => if t457 = true then (mullionlaw9_TreeBack.j1 k (flat t) (((flat t).length : Int) == 0) t.f0 t.f1.f0 t.f1.f1 t.f2) else (mullionlaw9_TreeBack.j1 k (flat t) true t.f0 t.f1.f0 t.f1.f1 t.f2)) else (mullionlaw9_TreeBack.j1 k (flat t) true t.f0 t.f1.f0 t.f1.f1 t.f2)) (same_self t) (Ev.congr (fun k => by rw [if_pos rfl]) e2)
  refine Ev.step (f := fun k => (tree_Words.f k t.f0 t.f1.f0 t.f1.f1 t.f2).bind fun t437 => (if ([] : List (S27)).length + t437.length < 5864062014805 then ((some (([] : List (S27)) ++ t437 : List (S27))).bind fun y440 => ((tree_Words.f k u.f0 u.f1.f0 u.f1.f1 u.f2).bind fun t443 => (if y440.length + t443.length < 5864062014805 then ((some (y440 ++ t443 : List (S27))).bind fun y446 => ((tree_Read.f y446).bind fun bt449 => (if bt449.2.2 = 0 then (if bt449.2.1 = (y446.length : Int) then (if (bt449.1.length : Int) = 2 then (if 0 < (bt449.1.length : Int) then ((tree_Same.f k ((rd_T29 bt449.1 0).f0) ((rd_T29 bt449.1 0).f1.f0) ((rd_T29 bt449.1 0).f1.f1) ((rd_T29 bt449.1 0).f2) t.f0 t.f1.f0 t.f1.f1 t.f2).bind fun t455 => (if t455 = true then (if 1 < (bt449.1.length : Int) then ((tree_Same.f k ((rd_T29 bt449.1 1).f0) ((rd_T29 bt449.1 1).f1.f0) ((rd_T29 bt449.1 1).f1.f1) ((rd_T29 bt449.1 1).f2) u.f0 u.f1.f0 u.f1.f1 u.f2).bind fun t457 => (if t457 = true then (mullionlaw9_TreeBack.j1 k t437 ((t437.length : Int) == 0) t.f0 t.f1.f0 t.f1.f1 t.f2) else (mullionlaw9_TreeBack.j1 k t437 true t.f0 t.f1.f0 t.f1.f1 t.f2))) else (none)) else (mullionlaw9_TreeBack.j1 k t437 true t.f0 t.f1.f0 t.f1.f1 t.f2))) else (none)) else (mullionlaw9_TreeBack.j1 k t437 true t.f0 t.f1.f0 t.f1.f1 t.f2)) else (mullionlaw9_TreeBack.j1 k t437 true t.f0 t.f1.f0 t.f1.f1 t.f2)) else (mullionlaw9_TreeBack.j1 k t437 true t.f0 t.f1.f0 t.f1.f1 t.f2)))) else (none)))) else (none))) (fun k => ?_) ?_
  · simp only [mullionlaw9_TreeBack.j0]
    rw [if_neg Bool.false_ne_true]
  refine Ev.bind (f := fun k t437 => _) (Words_ev t (by omega)) ?_
  refine Ev.congr (f := fun k => (tree_Words.f k u.f0 u.f1.f0 u.f1.f1 u.f2).bind fun t443 => (if (flat t).length + t443.length < 5864062014805 then ((some (flat t ++ t443 : List (S27))).bind fun y446 => ((tree_Read.f y446).bind fun bt449 => (if bt449.2.2 = 0 then (if bt449.2.1 = (y446.length : Int) then (if (bt449.1.length : Int) = 2 then (if 0 < (bt449.1.length : Int) then ((tree_Same.f k ((rd_T29 bt449.1 0).f0) ((rd_T29 bt449.1 0).f1.f0) ((rd_T29 bt449.1 0).f1.f1) ((rd_T29 bt449.1 0).f2) t.f0 t.f1.f0 t.f1.f1 t.f2).bind fun t455 => (if t455 = true then (if 1 < (bt449.1.length : Int) then ((tree_Same.f k ((rd_T29 bt449.1 1).f0) ((rd_T29 bt449.1 1).f1.f0) ((rd_T29 bt449.1 1).f1.f1) ((rd_T29 bt449.1 1).f2) u.f0 u.f1.f0 u.f1.f1 u.f2).bind fun t457 => (if t457 = true then (mullionlaw9_TreeBack.j1 k (flat t) (((flat t).length : Int) == 0) t.f0 t.f1.f0 t.f1.f1 t.f2) else (mullionlaw9_TreeBack.j1 k (flat t) true t.f0 t.f1.f0 t.f1.f1 t.f2))) else (none)) else (mullionlaw9_TreeBack.j1 k (flat t) true t.f0 t.f1.f0 t.f1.f1 t.f2))) else (none)) else (mullionlaw9_TreeBack.j1 k (flat t) true t.f0 t.f1.f0 t.f1.f1 t.f2)) else (mullionlaw9_TreeBack.j1 k (flat t) true t.f0 t.f1.f0 t.f1.f1 t.f2)) else (mullionlaw9_TreeBack.j1 k (flat t) true t.f0 t.f1.f0 t.f1.f1 t.f2)))) else (none))) (fun k => ?_) ?_
  · try dsimp only
    rw [if_pos (by simp; omega), Option.bind_some, List.nil_append]
  refine Ev.bind (f := fun k t443 => _) (Words_ev u (by omega)) ?_
  refine Ev.congr (fun k => ?_) e3
  try dsimp only
  rw [if_pos (by omega), Option.bind_some, er, Option.bind_some, if_pos rfl, if_pos rfl, if_pos (by rfl), if_pos (by simp)]
  rfl
theorem TreeBack (t u : S29) : ∃ k, mullionlaw9_TreeBack.f k t.f0 t.f1.f0 t.f1.f1 t.f2 u.f0 u.f1.f0 u.f1.f1 u.f2 = some true := by
  have ejt : Ev (fun k => mullionlaw9_TreeBack.j0 k true t.f0 t.f1.f0 t.f1.f1 t.f2 u.f0 u.f1.f0 u.f1.f1 u.f2) true := Ev.once (fun k => by simp only [mullionlaw9_TreeBack.j0, if_true])
  refine Ev.rounds ?_
  refine Ev.bind (f := fun k t432 => if t432 = true then ((mullionlaw9_fewTree.f k t.f0 t.f1.f0 t.f1.f1 t.f2 70).bind fun t433 => (if t433 = true then ((mullionlaw9_fewTree.f k u.f0 u.f1.f0 u.f1.f1 u.f2 70).bind fun t434 => (if t434 = true then ((tree_Is.f k t.f0 t.f1.f0 t.f1.f1 t.f2).bind fun t435 => (if t435 = true then ((tree_Is.f k u.f0 u.f1.f0 u.f1.f1 u.f2).bind fun t436 => (mullionlaw9_TreeBack.j0 k (!t436) t.f0 t.f1.f0 t.f1.f1 t.f2 u.f0 u.f1.f0 u.f1.f1 u.f2)) else (mullionlaw9_TreeBack.j0 k true t.f0 t.f1.f0 t.f1.f1 t.f2 u.f0 u.f1.f0 u.f1.f1 u.f2))) else (mullionlaw9_TreeBack.j0 k true t.f0 t.f1.f0 t.f1.f1 t.f2 u.f0 u.f1.f0 u.f1.f1 u.f2))) else (mullionlaw9_TreeBack.j0 k true t.f0 t.f1.f0 t.f1.f1 t.f2 u.f0 u.f1.f0 u.f1.f1 u.f2))) else (none)) known_ev9 ?_
  refine Ev.congr (fun k => by rw [if_pos rfl]) ?_
  refine Ev.bind (f := fun k t433 => if t433 = true then ((mullionlaw9_fewTree.f k u.f0 u.f1.f0 u.f1.f1 u.f2 70).bind fun t434 => (if t434 = true then ((tree_Is.f k t.f0 t.f1.f0 t.f1.f1 t.f2).bind fun t435 => (if t435 = true then ((tree_Is.f k u.f0 u.f1.f0 u.f1.f1 u.f2).bind fun t436 => (mullionlaw9_TreeBack.j0 k (!t436) t.f0 t.f1.f0 t.f1.f1 t.f2 u.f0 u.f1.f0 u.f1.f1 u.f2)) else (mullionlaw9_TreeBack.j0 k true t.f0 t.f1.f0 t.f1.f1 t.f2 u.f0 u.f1.f0 u.f1.f1 u.f2))) else (mullionlaw9_TreeBack.j0 k true t.f0 t.f1.f0 t.f1.f1 t.f2 u.f0 u.f1.f0 u.f1.f1 u.f2))) else (mullionlaw9_TreeBack.j0 k true t.f0 t.f1.f0 t.f1.f1 t.f2 u.f0 u.f1.f0 u.f1.f1 u.f2)) (fewTree_ev 70 (by omega) t) ?_
  by_cases h1 : fewT 70 t = true
  · obtain ⟨ht, hs, hd⟩ := few_thin 70 t h1
    refine Ev.congr (fun k => by rw [if_pos h1]) ?_
    refine Ev.bind (f := fun k t434 => if t434 = true then ((tree_Is.f k t.f0 t.f1.f0 t.f1.f1 t.f2).bind fun t435 => (if t435 = true then ((tree_Is.f k u.f0 u.f1.f0 u.f1.f1 u.f2).bind fun t436 => (mullionlaw9_TreeBack.j0 k (!t436) t.f0 t.f1.f0 t.f1.f1 t.f2 u.f0 u.f1.f0 u.f1.f1 u.f2)) else (mullionlaw9_TreeBack.j0 k true t.f0 t.f1.f0 t.f1.f1 t.f2 u.f0 u.f1.f0 u.f1.f1 u.f2))) else (mullionlaw9_TreeBack.j0 k true t.f0 t.f1.f0 t.f1.f1 t.f2 u.f0 u.f1.f0 u.f1.f1 u.f2)) (fewTree_ev 70 (by omega) u) ?_
    by_cases h2 : fewT 70 u = true
    · obtain ⟨ht', hs', hd'⟩ := few_thin 70 u h2
      refine Ev.congr (fun k => by rw [if_pos h2]) ?_
      refine Ev.bind (f := fun k t435 => if t435 = true then ((tree_Is.f k u.f0 u.f1.f0 u.f1.f1 u.f2).bind fun t436 => (mullionlaw9_TreeBack.j0 k (!t436) t.f0 t.f1.f0 t.f1.f1 t.f2 u.f0 u.f1.f0 u.f1.f1 u.f2)) else (mullionlaw9_TreeBack.j0 k true t.f0 t.f1.f0 t.f1.f1 t.f2 u.f0 u.f1.f0 u.f1.f1 u.f2)) (Is_ev t ht hs) ?_
      by_cases h3 : isB t = true
      · refine Ev.congr (fun k => by rw [if_pos h3]) ?_
        refine Ev.bind (f := fun k t436 => mullionlaw9_TreeBack.j0 k (!t436) t.f0 t.f1.f0 t.f1.f1 t.f2 u.f0 u.f1.f0 u.f1.f1 u.f2) (Is_ev u ht' hs') ?_
        by_cases h4 : isB u = true
        · exact Ev.congr (fun k => by rw [h4]; rfl) (back_j0 t u (good_of_is h3) (good_of_is h4))
        · exact Ev.congr (fun k => by rw [Bool.eq_false_iff.mpr h4]; rfl) ejt
      · exact Ev.congr (fun k => by rw [if_neg h3]) ejt
    · exact Ev.congr (fun k => by rw [if_neg h2]) ejt
  · exact Ev.congr (fun k => by rw [if_neg h1]) ejt
end Go.Proofs.Ytegeleijdobmeaa.Pure
