/- A list around trees is one deeper than the deepest, and has one more; with a word of its own it is no tree: the plain law. Conditions: none beyond the statement's own. -/
import Derived.Test.YtegeleijdobmeaaPAllx13
import Derived.Test.YtegeleijdobmeaaTreeC
namespace Go.Proofs.Ytegeleijdobmeaa.Pure
open Go.RowKit Go.Proofs.Ytegeleijdobmeaa.PAll Go.Proofs.YtegeleijdobmeaaW.PrintWords Go.Proofs.YtegeleijdobmeaaW.PrintLast
set_option linter.unusedVariables false
theorem known_ev9 : Ev (fun k => mullionlaw9_known.f k) true := Ev.of (g := fun k => mullionlaw9_known.f k) (fun k => mullionlaw9_known.mono k) (k := 200) (by decide +kernel)
theorem rdLast (a : List S27) (x : S27) : rd_T27 (a ++ [x]) (a.length : Int) = x := by simp [rd_T27]
/-- What is told of a tree that goes into the list. -/
def fits (t : S29) : Prop := thin t ∧ sml t ∧ dep t ≤ 30 ∧ siz t ≤ 50 ∧ allB t = true
theorem wraps_end (l : List S29) (hl : l.length ≤ 6) (hf : ∀ t ∈ l, fits t) : Ev (fun k => mullionlaw9_TreeWraps.l0 k l ((1 + sizs l : Nat) : Int) ((deps l : Nat) : Int) (l.length : Int)) true := by
  have hs : sizs l ≤ 300 := by
    have : ∀ m : List S29, (∀ t ∈ m, fits t) → sizs m ≤ 50 * m.length := by
      intro m
      induction m with
      | nil => intro _; simp [sizs]
      | cons u us ih =>
        intro h
        have h1 := (h u (by simp)).2.2.2.1
        have h2 := ih (fun t ht => h t (by simp [ht]))
        rw [sizs, List.length_cons]; omega
    have := this l hf; omega
  have hd : deps l ≤ 30 := by
    have : ∀ m : List S29, (∀ t ∈ m, fits t) → deps m ≤ 30 := by
      intro m
      induction m with
      | nil => intro _; simp [deps]
      | cons u us ih =>
        intro h
        have h1 := (h u (by simp)).2.2.1
        have h2 := ih (fun t ht => h t (by simp [ht]))
        rw [deps]; omega
    exact this l hf
  have hsiz : ∀ s : S27, siz ⟨true, s, l⟩ = 1 + sizs l := fun s => by rw [siz]
  have hdep : ∀ s : S27, dep ⟨true, s, l⟩ = deps l + 1 := fun s => by rw [dep, if_pos rfl]
  have hthin : ∀ s : S27, thin ⟨true, s, l⟩ := fun s => by rw [thin, thins_mem]; exact ⟨by omega, fun t ht => (hf t ht).1⟩
  have hsml : ∀ s : S27, s.f1.size ≤ 40 → sml ⟨true, s, l⟩ := fun s h => by rw [sml, smls_mem]; exact ⟨h, fun t ht => (hf t ht).2.1⟩
  have hflat : flat ⟨true, z27, l⟩ = (lft :: flats l) ++ [rgt] := by rw [flat, if_pos rfl]; rfl
  have hlen := flat_len ⟨true, z27, l⟩
  rw [hsiz] at hlen
  have hfl : (flat ⟨true, z27, l⟩).length = (lft :: flats l).length + 1 := by rw [hflat, List.length_append]; rfl
  have hpos : 1 ≤ (lft :: flats l).length := by simp
  have eW : Ev (fun k => tree_Words.f k true 0 (⟨#[]⟩ : ByteArray) l) (flat ⟨true, z27, l⟩) := Words_ev ⟨true, z27, l⟩ (by omega)
  have eI : Ev (fun k => tree_Is.f k true 0 (⟨#[]⟩ : ByteArray) l) true := by
    have e := Is_ev ⟨true, z27, l⟩ (hthin _) (hsml _ (by decide))
    have hv : isB ⟨true, z27, l⟩ = true := by
      unfold isB
      rw [hsiz, hdep, allB, if_pos ⟨rfl, rfl, rfl⟩, allBs_mem, decide_eq_true (by omega), decide_eq_true (by omega)]
      simp only [Bool.true_and, List.all_eq_true]
      exact fun t ht => (hf t ht).2.2.2.2
    rw [hv] at e
    exact e
  have eC : Ev (fun k => tree_Count.f k true 0 (⟨#[]⟩ : ByteArray) l) ((1 + sizs l : Nat) : Int) := by
    have e := Count_ev ⟨true, z27, l⟩
    rw [hsiz, Nat.min_eq_left (by omega)] at e
    exact e
  have eD : Ev (fun k => tree_Deep.f k true 0 (⟨#[]⟩ : ByteArray) l) ((deps l + 1 : Nat) : Int) := by
    have e := Deep_ev ⟨true, z27, l⟩ (hthin _)
    rw [hdep, Nat.min_eq_left (by omega)] at e
    exact e
  have eX : Ev (fun k => tree_Is.f k true 0 (⟨#[120]⟩ : ByteArray) l) false := by
    have e := Is_ev ⟨true, ⟨0, ⟨#[120]⟩⟩, l⟩ (hthin _) (hsml _ (by decide))
    have hv : isB ⟨true, ⟨0, ⟨#[120]⟩⟩, l⟩ = false := by
      unfold isB
      rw [allB, if_neg (by rintro ⟨_, _, h⟩; simp at h)]
      unfold wordV
      simp
    rw [hv] at e
    exact e
  have eS : Ev (fun k => tree_Same.f k true 0 (⟨#[]⟩ : ByteArray) l true 0 (⟨#[120]⟩ : ByteArray) l) false := by
    exact same_ne (a := ⟨true, z27, l⟩) (b := ⟨true, ⟨0, ⟨#[120]⟩⟩, l⟩) (by intro h; injection h with _ h _; injection h with _ h; simp at h)
  have hw : wrap64 (((flat ⟨true, z27, l⟩).length : Int) - 1) = (((lft :: flats l).length : Nat) : Int) := by rw [hfl]; unfold wrap64; omega
  have hr0 : (rd_T27 (flat ⟨true, z27, l⟩) 0).f0 = 1 := by rw [hflat]; rfl
  have hrl : (rd_T27 (flat ⟨true, z27, l⟩) (((lft :: flats l).length : Nat) : Int)).f0 = 2 := by rw [hflat, rdLast]; rfl
  have hw2 : wrap64 (((deps l : Nat) : Int) + 1) = ((deps l + 1 : Nat) : Int) := wrapT _ (by omega)
  have e5 : Ev (fun k => (tree_Is.f k true 0 (⟨#[120]⟩ : ByteArray) l).bind fun t339 => (if t339 = true then (none) else ((tree_Same.f k true 0 (⟨#[]⟩ : ByteArray) l true 0 (⟨#[120]⟩ : ByteArray) l).bind fun t340 => (some (!t340))))) true := by
    refine Ev.bind (f := fun k t339 => if t339 = true then (none) else ((tree_Same.f k true 0 (⟨#[]⟩ : ByteArray) l true 0 (⟨#[120]⟩ : ByteArray) l).bind fun t340 => (some (!t340)))) eX ?_
    refine Ev.congr (fun k => by rw [if_neg Bool.false_ne_true]) ?_
    exact Ev.bind (f := fun _ q => some (!q)) eS (Ev.now _)
  have h2 := hfl
  refine Ev.step (f := fun k => (tree_Words.f k true 0 (⟨#[]⟩ : ByteArray) l).bind fun t330 => ((tree_Is.f k true 0 (⟨#[]⟩ : ByteArray) l).bind fun t334 => (if t334 = true then ((tree_Count.f k true 0 (⟨#[]⟩ : ByteArray) l).bind fun t335 => (if t335 = ((1 + sizs l : Nat) : Int) then ((tree_Deep.f k true 0 (⟨#[]⟩ : ByteArray) l).bind fun t336 => (if t336 = (wrap64 (((deps l : Nat) : Int) + 1)) then (if (t330.length : Int) ≥ 2 then (if 0 < (t330.length : Int) then (if ((rd_T27 t330 0).f0) = 1 then (if 0 ≤ (wrap64 ((t330.length : Int) - 1)) then (if (wrap64 ((t330.length : Int) - 1)) < (t330.length : Int) then (if ((rd_T27 t330 (wrap64 ((t330.length : Int) - 1))).f0) = 2 then ((tree_Is.f k true 0 (⟨#[120]⟩ : ByteArray) l).bind fun t339 => (if t339 = true then (none) else ((tree_Same.f k true 0 (⟨#[]⟩ : ByteArray) l true 0 (⟨#[120]⟩ : ByteArray) l).bind fun t340 => (some (!t340))))) else (none)) else (none)) else (none)) else (none)) else (none)) else (none)) else (none))) else (none))) else (none)))) (fun k => ?_) ?_
  · simp only [mullionlaw9_TreeWraps.l0]
    rw [if_neg (by omega)]
  refine Ev.bind (f := fun k t330 => _) eW ?_
  refine Ev.bind (f := fun k t334 => _) eI ?_
  refine Ev.congr (fun k => by rw [if_pos rfl]) ?_
  refine Ev.bind (f := fun k t335 => _) eC ?_
  refine Ev.congr (fun k => by rw [if_pos rfl]) ?_
  refine Ev.bind (f := fun k t336 => _) eD ?_
  refine Ev.congr (fun k => by rw [if_pos hw2.symm, if_pos (by omega), if_pos (by omega), if_pos hr0, hw, if_pos (by omega), if_pos (by omega), if_pos hrl]) e5
theorem wraps_loop (l : List S29) (hl : l.length ≤ 6) : ∀ (us pre : List S29), l = pre ++ us → (∀ t ∈ pre, fits t) → Ev (fun k => mullionlaw9_TreeWraps.l0 k l ((1 + sizs pre : Nat) : Int) ((deps pre : Nat) : Int) (pre.length : Int)) true := by
  intro us
  induction us with
  | nil =>
    intro pre e hf
    rw [List.append_nil] at e
    subst e
    exact wraps_end l hl hf
  | cons u us ih =>
    intro pre e hf
    have hpl : pre.length < l.length := by rw [e]; simp
    have hrd : rd_T29 l (pre.length : Int) = u := by rw [e]; exact rd29 pre us u
    have ejt : Ev (fun k => mullionlaw9_TreeWraps.j1 k l ((1 + sizs pre : Nat) : Int) ((deps pre : Nat) : Int) (pre.length : Int) true) true := Ev.once (fun k => by simp only [mullionlaw9_TreeWraps.j1, if_true])
    have e1 := fewTree_ev 30 (by omega) u
    have key : Ev (fun k => if fewT 30 u = true then ((tree_Is.f k u.f0 u.f1.f0 u.f1.f1 u.f2).bind fun t322 => (if t322 = true then ((tree_Count.f k u.f0 u.f1.f0 u.f1.f1 u.f2).bind fun t324 => (mullionlaw9_TreeWraps.j1 k l ((1 + sizs pre : Nat) : Int) ((deps pre : Nat) : Int) (pre.length : Int) (decide (t324 > 50)))) else (mullionlaw9_TreeWraps.j1 k l ((1 + sizs pre : Nat) : Int) ((deps pre : Nat) : Int) (pre.length : Int) true))) else (mullionlaw9_TreeWraps.j1 k l ((1 + sizs pre : Nat) : Int) ((deps pre : Nat) : Int) (pre.length : Int) true)) true := by
      by_cases h1 : fewT 30 u = true
      · obtain ⟨ht, hs, hd⟩ := few_thin 30 u h1
        refine Ev.congr (fun k => by rw [if_pos h1]) ?_
        refine Ev.bind (f := fun k t322 => if t322 = true then ((tree_Count.f k u.f0 u.f1.f0 u.f1.f1 u.f2).bind fun t324 => (mullionlaw9_TreeWraps.j1 k l ((1 + sizs pre : Nat) : Int) ((deps pre : Nat) : Int) (pre.length : Int) (decide (t324 > 50)))) else (mullionlaw9_TreeWraps.j1 k l ((1 + sizs pre : Nat) : Int) ((deps pre : Nat) : Int) (pre.length : Int) true)) (Is_ev u ht hs) ?_
        by_cases h2 : isB u = true
        · refine Ev.congr (fun k => by rw [if_pos h2]) ?_
          refine Ev.bind (f := fun k t324 => mullionlaw9_TreeWraps.j1 k l ((1 + sizs pre : Nat) : Int) ((deps pre : Nat) : Int) (pre.length : Int) (decide (t324 > 50))) (Count_ev u) ?_
          by_cases h3 : siz u ≤ 50
          · have hu : fits u := ⟨ht, hs, hd, h3, by unfold isB at h2; simp only [Bool.and_eq_true] at h2; exact h2.2⟩
            have e2 := ih (pre ++ [u]) (by rw [e]; simp) (fun t ht => by
              rcases List.mem_append.1 ht with ht | ht
              · exact hf t ht
              · simp at ht; rw [ht]; exact hu)
            have hsz : sizs pre ≤ 50 * pre.length := by
              clear e2 ih e e1 ejt hrd hpl
              have : ∀ m : List S29, (∀ t ∈ m, fits t) → sizs m ≤ 50 * m.length := by
                intro m
                induction m with
                | nil => intro _; simp [sizs]
                | cons u us ih =>
                  intro h
                  have h1 := (h u (by simp)).2.2.2.1
                  have h2 := ih (fun t ht => h t (by simp [ht]))
                  rw [sizs, List.length_cons]; omega
              exact this pre hf
            have ea : ((1 + sizs (pre ++ [u]) : Nat) : Int) = wrap64 (((1 + sizs pre : Nat) : Int) + ((min (siz u) 401 : Nat) : Int)) := by rw [sizs_app, sizs, sizs]; unfold wrap64; omega
            have eb : ((deps (pre ++ [u]) : Nat) : Int) = mx ((deps pre : Nat) : Int) ((min (dep u) 61 : Nat) : Int) := by rw [mx_nat, deps_app, deps, deps]; omega
            have ec : ((pre ++ [u]).length : Int) = wrap64 ((pre.length : Int) + 1) := by rw [wrapT _ (by omega)]; simp
            rw [ea, eb, ec] at e2
            refine Ev.step (f := fun k => (tree_Count.f k u.f0 u.f1.f0 u.f1.f1 u.f2).bind fun t326 => ((tree_Deep.f k u.f0 u.f1.f0 u.f1.f1 u.f2).bind fun t328 => (mullionlaw9_TreeWraps.l0 k l (wrap64 (((1 + sizs pre : Nat) : Int) + t326)) (mx ((deps pre : Nat) : Int) t328) (wrap64 ((pre.length : Int) + 1))))) (fun k => ?_) ?_
            · simp only [mullionlaw9_TreeWraps.j1]
              rw [if_neg (by simp; omega), if_pos (by omega), if_pos (by omega), hrd]
            · refine Ev.bind (f := fun k t326 => _) (Count_ev u) ?_
              exact Ev.bind (f := fun k t328 => mullionlaw9_TreeWraps.l0 k l (wrap64 (((1 + sizs pre : Nat) : Int) + ((min (siz u) 401 : Nat) : Int))) (mx ((deps pre : Nat) : Int) t328) (wrap64 ((pre.length : Int) + 1))) (Deep_ev u ht) e2
          · refine Ev.congr (fun k => by rw [decide_eq_true (by omega)]) ejt
        · exact Ev.congr (fun k => by rw [if_neg h2]) ejt
      · exact Ev.congr (fun k => by rw [if_neg h1]) ejt
    refine Ev.step (fun k => ?_) (Ev.bind (f := fun k t320 => if t320 = true then ((tree_Is.f k u.f0 u.f1.f0 u.f1.f1 u.f2).bind fun t322 => (if t322 = true then ((tree_Count.f k u.f0 u.f1.f0 u.f1.f1 u.f2).bind fun t324 => (mullionlaw9_TreeWraps.j1 k l ((1 + sizs pre : Nat) : Int) ((deps pre : Nat) : Int) (pre.length : Int) (decide (t324 > 50)))) else (mullionlaw9_TreeWraps.j1 k l ((1 + sizs pre : Nat) : Int) ((deps pre : Nat) : Int) (pre.length : Int) true))) else (mullionlaw9_TreeWraps.j1 k l ((1 + sizs pre : Nat) : Int) ((deps pre : Nat) : Int) (pre.length : Int) true)) e1 key)
    simp only [mullionlaw9_TreeWraps.l0]
    rw [if_pos (by omega), if_pos (by omega), hrd]
    rfl
theorem TreeWraps (l : List S29) (hl : l.length ≤ 9223372036854775807) : ∃ k, mullionlaw9_TreeWraps.f k l = some true := by
  refine Ev.rounds ?_
  refine Ev.bind (f := fun k t318 => if t318 = true then (if (l.length : Int) > 6 then (some true) else (mullionlaw9_TreeWraps.l0 k l 1 0 0)) else none) known_ev9 ?_
  refine Ev.congr (fun k => by rw [if_pos rfl]) ?_
  by_cases h : l.length ≤ 6
  · have e := wraps_loop l h l [] rfl (fun t ht => by cases ht)
    exact Ev.congr (fun k => by rw [if_neg (by omega)]; rfl) e
  · exact Ev.congr (fun k => by rw [if_pos (by omega)]) (Ev.now _)
end Go.Proofs.Ytegeleijdobmeaa.Pure
