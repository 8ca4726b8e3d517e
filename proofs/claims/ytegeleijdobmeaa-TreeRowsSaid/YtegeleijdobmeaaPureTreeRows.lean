/- Trees one behind the other are as many as they are; each is as if it were alone; as many nodes as words without the right parentheses: the plain law. Conditions: none beyond the statement's own. -/
import Derived.Test.YtegeleijdobmeaaPAllx12
import Derived.Test.YtegeleijdobmeaaTreeC
namespace Go.Proofs.Ytegeleijdobmeaa.Pure
open Go.RowKit Go.Proofs.Ytegeleijdobmeaa.PAll Go.Proofs.YtegeleijdobmeaaW.PrintWords Go.Proofs.YtegeleijdobmeaaW.PrintLast
set_option linter.unusedVariables false
theorem known_ev9 : Ev (fun k => mullionlaw9_known.f k) true := Ev.of (g := fun k => mullionlaw9_known.f k) (fun k => mullionlaw9_known.mono k) (k := 200) (by decide +kernel)
/-- How many right parentheses. -/
def rights (w : List S27) : Nat := w.countP (fun x => decide (x.f0 = 2))
theorem rights_flat (t : S29) : shp t → rights (flat t) + siz t = (flat t).length := by
  induction t using S29_ind with
  | h b s l ih =>
    intro h
    rw [shp] at h
    rw [flat, siz]
    cases b with
    | false =>
      rw [if_neg Bool.false_ne_true] at h ⊢
      obtain ⟨rfl, h1, h2⟩ := h
      have e : decide (s.f0 = 2) = false := decide_eq_false (by omega)
      simp [rights, sizs, e]
    | true =>
      rw [if_pos rfl] at h ⊢
      obtain ⟨rfl, h⟩ := h
      rw [shps_mem] at h
      have hl : rights (flats l) + sizs l = (flats l).length := by
        induction l with
        | nil => simp [rights, flats, sizs]
        | cons u us ihu =>
          have e1 := ih u (by simp) (h u (by simp))
          have e2 := ihu (fun x hx => ih x (by simp [hx])) (fun x hx => h x (by simp [hx]))
          rw [flats, sizs, List.length_append]
          unfold rights at e1 e2 ⊢
          rw [List.countP_append]
          omega
      have e1 : decide (lft.f0 = 2) = false := by decide
      have e2 : decide (rgt.f0 = 2) = true := by decide
      unfold rights at hl ⊢
      rw [List.countP_cons, List.countP_append, List.countP_singleton, e1, e2]
      simp
      omega
theorem rights_flats (l : List S29) (h : ∀ t ∈ l, shp t) : rights (flats l) + sizs l = (flats l).length := by
  induction l with
  | nil => simp [rights, flats, sizs]
  | cons u us ihu =>
    have e1 := rights_flat u (h u (by simp))
    have e2 := ihu (fun x hx => h x (by simp [hx]))
    rw [flats, sizs, List.length_append]
    unfold rights at e1 e2 ⊢
    rw [List.countP_append]
    omega
theorem flats_le (l : List S29) (h : ∀ t ∈ l, siz t ≤ 400) : (flats l).length ≤ 800 * l.length ∧ sizs l ≤ 400 * l.length := by
  induction l with
  | nil => simp [flats, sizs]
  | cons u us ih =>
    have h1 := flat_len u
    have h2 := h u (by simp)
    have h3 := ih (fun t ht => h t (by simp [ht]))
    rw [flats, sizs, List.length_append, List.length_cons]
    omega
theorem rd27s (pre ts : List S27) (t : S27) : rd_T27 (pre ++ t :: ts) (pre.length : Int) = t := by simp [rd_T27]
theorem rows_l2 (w : List S27) (hw : w.length ≤ 100000) (c : Nat) : ∀ (us pre : List S27), w = pre ++ us → Ev (fun k => mullionlaw9_TreeRows.l2 k w (c : Int) ((rights pre : Nat) : Int) (pre.length : Int)) ((c : Int) == (w.length : Int) - ((rights w : Nat) : Int)) := by
  intro us
  induction us with
  | nil =>
    intro pre e
    rw [List.append_nil] at e
    refine Ev.once (fun k => ?_)
    simp only [mullionlaw9_TreeRows.l2]
    have hr : rights pre ≤ pre.length := List.countP_le_length
    rw [if_neg (by rw [e]; omega), e, show wrap64 ((pre.length : Int) - ((rights pre : Nat) : Int)) = (pre.length : Int) - ((rights pre : Nat) : Int) by rw [e] at hw; unfold wrap64; omega]
  | cons u us ih =>
    intro pre e
    have hpl : pre.length < w.length := by rw [e]; simp
    have hrd : rd_T27 w (pre.length : Int) = u := by rw [e]; exact rd27s pre us u
    have e2 := ih (pre ++ [u]) (by rw [e]; simp)
    have hr : rights pre ≤ pre.length := List.countP_le_length
    have ep : ((pre ++ [u]).length : Int) = wrap64 ((pre.length : Int) + 1) := by rw [wrapT _ (by omega)]; simp
    rw [ep] at e2
    by_cases h : u.f0 = 2
    · have er : ((rights (pre ++ [u]) : Nat) : Int) = wrap64 (((rights pre : Nat) : Int) + 1) := by
        rw [wrapT _ (by omega)]
        unfold rights
        rw [List.countP_append, List.countP_singleton, decide_eq_true h]
        rfl
      rw [er] at e2
      refine Ev.step (fun k => ?_) e2
      simp only [mullionlaw9_TreeRows.l2]
      rw [if_pos (by omega), if_pos (by omega), hrd, if_pos h]
    · have er : rights (pre ++ [u]) = rights pre := by
        unfold rights
        rw [List.countP_append, List.countP_singleton, decide_eq_false h]
        rfl
      rw [er] at e2
      refine Ev.step (fun k => ?_) e2
      simp only [mullionlaw9_TreeRows.l2]
      rw [if_pos (by omega), if_pos (by omega), hrd, if_neg h]
theorem rows_l1 (l : List S29) (hl : l.length ≤ 8) (hg : ∀ t ∈ l, good t) : ∀ (us pre : List S29), l = pre ++ us → Ev (fun k => mullionlaw9_TreeRows.l1 k l (flats l) l ((sizs pre : Nat) : Int) (pre.length : Int)) true := by
  have hb := flats_le l (fun t ht => (hg t ht).2.1)
  intro us
  induction us with
  | nil =>
    intro pre e
    rw [List.append_nil] at e
    subst e
    have e2 := rows_l2 (flats l) (by omega) (sizs l) (flats l) [] rfl
    have hr := rights_flats l (fun t ht => (hg t ht).1)
    rw [show (((sizs l : Nat) : Int) == ((flats l).length : Int) - ((rights (flats l) : Nat) : Int)) = true by rw [beq_iff_eq]; omega] at e2
    refine Ev.step (fun k => ?_) e2
    simp only [mullionlaw9_TreeRows.l1]
    rw [if_neg (by omega)]
    rfl
  | cons u us ih =>
    intro pre e
    have hpl : pre.length < l.length := by rw [e]; simp
    have hrd : rd_T29 l (pre.length : Int) = u := by rw [e]; exact rd29 pre us u
    have hu : good u := hg u (by rw [e]; simp)
    have hfl := flat_len u
    have hus := hu.2.1
    have e2 := ih (pre ++ [u]) (by rw [e]; simp)
    have hsz : sizs pre ≤ sizs l := by rw [e, sizs_app]; omega
    have ea : ((sizs (pre ++ [u]) : Nat) : Int) = wrap64 (((sizs pre : Nat) : Int) + ((min (siz u) 401 : Nat) : Int)) := by rw [sizs_app, sizs, sizs]; unfold wrap64; omega
    have ec : ((pre ++ [u]).length : Int) = wrap64 ((pre.length : Int) + 1) := by rw [wrapT _ (by omega)]; simp
    rw [ea, ec] at e2
    have er := Read_tree u hu
    have e6 : Ev (fun k => (tree_Count.f k u.f0 u.f1.f0 u.f1.f1 u.f2).bind fun t316 => (mullionlaw9_TreeRows.l1 k l (flats l) l (wrap64 (((sizs pre : Nat) : Int) + t316)) (wrap64 ((pre.length : Int) + 1)))) true :=
      Ev.bind (f := fun k t316 => mullionlaw9_TreeRows.l1 k l (flats l) l (wrap64 (((sizs pre : Nat) : Int) + t316)) (wrap64 ((pre.length : Int) + 1))) (Count_ev u) e2
    have eS : Ev (fun k => tree_Same.f k u.f0 u.f1.f0 u.f1.f1 u.f2 u.f0 u.f1.f0 u.f1.f1 u.f2) true := by
      have h_ := same_eq u
      refine Ev.congr (fun k => ?_) h_
      unfold tree_Same.f
      have he : (⟨u.f0, ⟨u.f1.f0, u.f1.f1⟩, u.f2⟩ : S29) = u := by cases u; rfl
      rw [he]
    have e7 := Ev.bind (f := fun k t314 => if t314 = true then ((tree_Count.f k u.f0 u.f1.f0 u.f1.f1 u.f2).bind fun t316 => (mullionlaw9_TreeRows.l1 k l (flats l) l (wrap64 (((sizs pre : Nat) : Int) + t316)) (wrap64 ((pre.length : Int) + 1)))) else none) eS (Ev.congr (fun k => by rw [if_pos rfl]) e6)
    have e8 := Ev.bind (f := fun k t311 => if t311 = true then ((tree_Same.f k u.f0 u.f1.f0 u.f1.f1 u.f2 u.f0 u.f1.f0 u.f1.f1 u.f2).bind fun t314 => if t314 = true then ((tree_Count.f k u.f0 u.f1.f0 u.f1.f1 u.f2).bind fun t316 => (mullionlaw9_TreeRows.l1 k l (flats l) l (wrap64 (((sizs pre : Nat) : Int) + t316)) (wrap64 ((pre.length : Int) + 1)))) else none) else none) eS (Ev.congr (fun k => by rw [if_pos rfl]) e7)
    have eW := Words_ev u (by omega)
    refine Ev.step (f := fun k => (tree_Words.f k u.f0 u.f1.f0 u.f1.f1 u.f2).bind fun t301 => ((tree_Read.f t301).bind fun bt304 => (if bt304.2.2 = 0 then (if (bt304.1.length : Int) = 1 then (if (pre.length : Int) < (l.length : Int) then (if 0 < (bt304.1.length : Int) then ((tree_Same.f k u.f0 u.f1.f0 u.f1.f1 u.f2 ((rd_T29 bt304.1 0).f0) ((rd_T29 bt304.1 0).f1.f0) ((rd_T29 bt304.1 0).f1.f1) ((rd_T29 bt304.1 0).f2)).bind fun t311 => (if t311 = true then ((tree_Same.f k u.f0 u.f1.f0 u.f1.f1 u.f2 u.f0 u.f1.f0 u.f1.f1 u.f2).bind fun t314 => (if t314 = true then ((tree_Count.f k u.f0 u.f1.f0 u.f1.f1 u.f2).bind fun t316 => (mullionlaw9_TreeRows.l1 k l (flats l) l (wrap64 (((sizs pre : Nat) : Int) + t316)) (wrap64 ((pre.length : Int) + 1)))) else (none))) else (none))) else (none)) else (none)) else (none)) else (none)))) (fun k => ?_) ?_
    · simp only [mullionlaw9_TreeRows.l1]
      rw [if_pos (by omega), if_pos (by omega), hrd]
    refine Ev.bind (f := fun k t301 => _) eW ?_
    refine Ev.congr (fun k => ?_) e8
    rw [er]
    simp only [Option.bind_some]
    rw [if_pos trivial, if_pos (by simp), if_pos (by omega), if_pos (by simp)]
    rfl
theorem rows_l0 (l : List S29) (hl : l.length ≤ 8) : ∀ (us pre : List S29), l = pre ++ us → (∀ t ∈ pre, good t) → Ev (fun k => mullionlaw9_TreeRows.l0 k l (flats pre) (pre.length : Int)) true := by
  intro us
  induction us with
  | nil =>
    intro pre e hg
    rw [List.append_nil] at e
    subst e
    have er := Read_trees l hg (by omega)
    have e1 := rows_l1 l hl hg l [] rfl
    have e2 : Ev (fun k => mullionlaw9_TreeRows.j1 k l (flats l) l false) true := by
      refine Ev.step (fun k => ?_) e1
      simp only [mullionlaw9_TreeRows.j1]
      rw [if_neg Bool.false_ne_true]
      rfl
    refine Ev.step (fun k => ?_) e2
    simp only [mullionlaw9_TreeRows.l0]
    rw [if_neg (by omega), er]
    simp only [Option.bind_some]
    rw [if_pos trivial, if_pos trivial, show ((l.length : Int) != (l.length : Int)) = false by simp]
  | cons u us ih =>
    intro pre e hg
    have hpl : pre.length < l.length := by rw [e]; simp
    have hrd : rd_T29 l (pre.length : Int) = u := by rw [e]; exact rd29 pre us u
    have hb := flats_le pre (fun t ht => (hg t ht).2.1)
    have ec : ((pre ++ [u]).length : Int) = wrap64 ((pre.length : Int) + 1) := by rw [wrapT _ (by omega)]; simp
    have key : Ev (fun k => if fewT 70 u = true then ((tree_Is.f k u.f0 u.f1.f0 u.f1.f1 u.f2).bind fun t287 => (if t287 = true then ((tree_Words.f k u.f0 u.f1.f0 u.f1.f1 u.f2).bind fun t289 => (if (flats pre).length + t289.length < 5864062014805 then (mullionlaw9_TreeRows.l0 k l (flats pre ++ t289) (wrap64 ((pre.length : Int) + 1))) else (none))) else (some true))) else (some true)) true := by
      by_cases h1 : fewT 70 u = true
      · obtain ⟨ht, hs, hd⟩ := few_thin 70 u h1
        refine Ev.congr (fun k => by rw [if_pos h1]) ?_
        refine Ev.bind (f := fun k t287 => if t287 = true then ((tree_Words.f k u.f0 u.f1.f0 u.f1.f1 u.f2).bind fun t289 => (if (flats pre).length + t289.length < 5864062014805 then (mullionlaw9_TreeRows.l0 k l (flats pre ++ t289) (wrap64 ((pre.length : Int) + 1))) else (none))) else (some true)) (Is_ev u ht hs) ?_
        by_cases h2 : isB u = true
        · have hu := good_of_is h2
          have hfl := flat_len u
          have hus := hu.2.1
          refine Ev.congr (fun k => by rw [if_pos h2]) ?_
          refine Ev.bind (f := fun k t289 => if (flats pre).length + t289.length < 5864062014805 then (mullionlaw9_TreeRows.l0 k l (flats pre ++ t289) (wrap64 ((pre.length : Int) + 1))) else (none)) (Words_ev u (by omega)) ?_
          have e2 := ih (pre ++ [u]) (by rw [e]; simp) (fun t ht => by
            rcases List.mem_append.1 ht with ht | ht
            · exact hg t ht
            · simp at ht; rw [ht]; exact hu)
          rw [ec, flats_app, flats, flats, List.append_nil] at e2
          exact Ev.congr (fun k => by rw [if_pos (by omega)]) e2
        · exact Ev.congr (fun k => by rw [if_neg h2]) (Ev.now _)
      · exact Ev.congr (fun k => by rw [if_neg h1]) (Ev.now _)
    refine Ev.step (fun k => ?_) (Ev.bind (f := fun k t285 => if t285 = true then ((tree_Is.f k u.f0 u.f1.f0 u.f1.f1 u.f2).bind fun t287 => (if t287 = true then ((tree_Words.f k u.f0 u.f1.f0 u.f1.f1 u.f2).bind fun t289 => (if (flats pre).length + t289.length < 5864062014805 then (mullionlaw9_TreeRows.l0 k l (flats pre ++ t289) (wrap64 ((pre.length : Int) + 1))) else (none))) else (some true))) else (some true)) (fewTree_ev 70 (by omega) u) key)
    simp only [mullionlaw9_TreeRows.l0]
    rw [if_pos (by omega), if_pos (by omega), hrd]
    rfl
theorem TreeRows (l : List S29) (hl : l.length ≤ 9223372036854775807) : ∃ k, mullionlaw9_TreeRows.f k l = some true := by
  refine Ev.rounds ?_
  refine Ev.bind (f := fun k t318 => if t318 = true then (if (l.length : Int) > 8 then (some true) else (mullionlaw9_TreeRows.l0 k l [] 0)) else none) known_ev9 ?_
  refine Ev.congr (fun k => by rw [if_pos rfl]) ?_
  by_cases h : l.length ≤ 8
  · have e := rows_l0 l h l [] rfl (fun t ht => by cases ht)
    exact Ev.congr (fun k => by rw [if_neg (by omega)]; rfl) e
  · exact Ev.congr (fun k => by rw [if_pos (by omega)]) (Ev.now _)
end Go.Proofs.Ytegeleijdobmeaa.Pure
