/- The clauses hold with the values of all nodes just where the proposition does: the plain law. Conditions: none beyond the statement's own. -/
import Derived.Test.YtkmenlgddncmaaaCnfG
import Derived.Test.YtkmenlgddncmaaaPAllx10
namespace Go.Proofs.Ytkmenlgddncmaaa.Pure
open Go.RowKit Go.Proofs.Ytkmenlgddncmaaa.PAll Go.Proofs.YtkmenlgddncmaaaW.PrintWords Go.Proofs.YtkmenlgddncmaaaW.PrintLast
set_option linter.unusedVariables false
theorem True_loop (p : S24) (x W : List Bool) (l : List (List Int)) (r : Bool) (hx : x.length ≤ 1000) (he : Ev (fun k => (cnf_Holds.f k l (x ++ W)).bind fun t => (mullionref16_Truth.f k p.f0 p.f1 p.f2 x).bind fun t2 => some (t == t2)) r) (d : Nat) : ∀ i : Nat, i + d = x.length →
    Ev (fun k => mullionlaw17_CnfTrue.l0 k x l (x ++ W) (i : Int) p.f0 p.f1 p.f2) r := by
  induction d with
  | zero =>
    intro i hi
    refine Ev.step (fun k => ?_) he
    simp only [mullionlaw17_CnfTrue.l0]
    rw [if_neg (by omega)]
  | succ d ih =>
    intro i hi
    have hil : i < x.length := by omega
    have w : wrap64 ((i : Int) + 1) = ((i + 1 : Nat) : Int) := by unfold wrap64; omega
    refine Ev.step (fun k => ?_) (ih (i + 1) (by omega))
    simp only [mullionlaw17_CnfTrue.l0]
    have e : rdOf false (x ++ W) (i : Int) = rdOf false x (i : Int) := by simp [rdOf, hil, List.getElem?_append_left hil]
    rw [if_pos (by omega), if_pos (by omega), if_pos (by rw [List.length_append]; omega), e, w, if_neg (by simp)]
theorem CnfTrue (p : S24) (x : List Bool) : ∃ k, mullionlaw17_CnfTrue.f k p.f0 p.f1 p.f2 x = some true := by
  refine Ev.rounds (g := fun k => mullionlaw17_CnfTrue.f k p.f0 p.f1 p.f2 x) ?_
  have tl : Ev (fun k => mullionlaw17_CnfTrue.j0 k x true p.f0 p.f1 p.f2) true := Ev.one (fun k => by simp [mullionlaw17_CnfTrue.j0])
  refine Ev.congr (f := fun k => (mullionlaw17_known.f k).bind fun t294 => (if t294 = true then ((mullionlaw17_few.f k p.f0 p.f1 p.f2).bind fun t295 => (if t295 = true then (mullionlaw17_CnfTrue.j0 k x (decide ((x.length : Int) > 60)) p.f0 p.f1 p.f2) else (mullionlaw17_CnfTrue.j0 k x true p.f0 p.f1 p.f2))) else (none))) (fun k => rfl) (Ev.bind known_ev ?_)
  simp only [if_true]
  rcases few_ev p with ⟨s, hs, hok, hc, hf⟩ | hf
  · refine Ev.bind hf ?_
    simp only [if_true]
    by_cases hx : x.length ≤ 60
    · rw [decide_eq_false (show ¬ (x.length : Int) > 60 by omega)]
      obtain ⟨n', r, C, W, hN, hn, e1, e2⟩ := both_ev x (by omega) p s hs hok hc
      have hlen := hN.len
      have hle := hN.le
      have hr1 := hN.r1
      have hr2 := hN.r2
      have ly : (x ++ W).length = n' := by rw [List.length_append]; omega
      refine Ev.step (f := fun k => (cnf_Of.f k p.f0 p.f1 p.f2 (x.length : Int)).bind fun bt296 => ((cnf_Over.f k p.f0 p.f1 p.f2 x).bind fun t300 => (if (t300.length : Int) = bt296.2 then (mullionlaw17_CnfTrue.l0 k x bt296.1 t300 0 p.f0 p.f1 p.f2) else (none)))) (fun k => by simp [mullionlaw17_CnfTrue.j0]) (Ev.bind e1 (Ev.bind e2 ?_))
      refine Ev.congr (fun k => if_pos (show ((x ++ W).length : Int) = (n' : Int) by omega)) ?_
      have hm := hN.made x [] rfl (List.take_length) (by rw [List.append_nil, ly]; omega)
      rw [List.append_nil] at hm
      have ho := hN.only (x ++ W) (by omega) (by omega) (by rw [List.take_append_of_le_length (Nat.le_refl _), List.take_length]) hm
      have hh := Holds_ev (x ++ W) (by omega) (C ++ [[r]]) (last_in hN (by omega))
      have ht := Truth_ev x s p hok (by omega)
      refine True_loop p x W (C ++ [[r]]) true (by omega) (Ev.bind hh (Ev.bind ht ?_)) x.length 0 (by omega)
      rw [holds_last C r _ hr1 (by omega), hm, ho]
      simp
      exact Ev.now _
    · rw [decide_eq_true (show (x.length : Int) > 60 by omega)]
      exact tl
  · refine Ev.bind hf ?_
    simp only [Bool.false_eq_true, if_false]
    exact tl
end Go.Proofs.Ytkmenlgddncmaaa.Pure
