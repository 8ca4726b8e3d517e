/- Trees that are few; whether words and lists are all that there is; whether it is a tree. -/
import Derived.Test.YtegeleijdobmeaaTreeB
import Derived.Test.YtegeleijdobmeaaTlC
import Derived.Test.YtegeleijdobmeaaPAllx11
namespace Go.Proofs.Ytegeleijdobmeaa.Pure
open Go.RowKit Go.Proofs.Ytegeleijdobmeaa.PAll Go.Proofs.YtegeleijdobmeaaW.PrintWords Go.Proofs.YtegeleijdobmeaaW.PrintLast
set_option linter.unusedVariables false
/-! ### few -/
def fewT : Nat → S29 → Bool
  | 0, _ => false
  | d + 1, t => decide (t.f2.length ≤ 30) && decide (t.f1.f1.size ≤ 40) && t.f2.all (fewT d)
theorem fewTree_ev (d : Nat) : d ≤ 1000 → ∀ t : S29, Ev (fun k => mullionlaw9_fewTree.f k t.f0 t.f1.f0 t.f1.f1 t.f2 (d : Int)) (fewT d t) := by
  induction d with
  | zero =>
    intro _ t
    have e : Ev (fun k => mullionlaw9_fewTree.j0 k 0 true t.f0 t.f1.f0 t.f1.f1 t.f2) false := Ev.once (fun k => by simp only [mullionlaw9_fewTree.j0, if_true])
    refine Ev.step (fun k => ?_) e
    simp only [mullionlaw9_fewTree.f]
    rw [if_pos (by rfl)]
    rfl
  | succ d ih =>
    intro hd t
    have ej : Ev (fun k => mullionlaw9_fewTree.j0 k ((d + 1 : Nat) : Int) true t.f0 t.f1.f0 t.f1.f1 t.f2) false := Ev.once (fun k => by simp only [mullionlaw9_fewTree.j0, if_true])
    have hne : ¬ ((d + 1 : Nat) : Int) = 0 := by omega
    by_cases hl : t.f2.length ≤ 30
    · have loop : ∀ (us vs : List S29), t.f2 = vs ++ us → Ev (fun k => mullionlaw9_fewTree.l0 k ((d + 1 : Nat) : Int) (vs.length : Int) t.f0 t.f1.f0 t.f1.f1 t.f2) (us.all (fewT d)) := by
        intro us
        induction us with
        | nil =>
          intro vs e
          refine Ev.once (fun k => ?_)
          simp only [mullionlaw9_fewTree.l0]
          rw [if_neg (by rw [e]; simp)]
          rfl
        | cons u us ihu =>
          intro vs e
          have hvl : vs.length < t.f2.length := by rw [e]; simp
          have hrd : rd_T29 t.f2 (vs.length : Int) = u := by rw [e]; exact rd29 vs us u
          have e1 := ih (by omega) u
          have ew : wrap64 (((d + 1 : Nat) : Int) - 1) = (d : Int) := by unfold wrap64; omega
          have ep : wrap64 ((vs.length : Int) + 1) = ((vs ++ [u]).length : Int) := by rw [wrapT _ (by omega)]; simp
          have e2 := ihu (vs ++ [u]) (by rw [e]; simp)
          rw [← ep] at e2
          have e3 : Ev (fun k => if fewT d u = true then mullionlaw9_fewTree.l0 k ((d + 1 : Nat) : Int) (wrap64 ((vs.length : Int) + 1)) t.f0 t.f1.f0 t.f1.f1 t.f2 else some false) ((u :: us).all (fewT d)) := by
            rw [List.all_cons]
            cases fewT d u with
            | true => exact Ev.congr (fun k => by rw [if_pos rfl]) e2
            | false => exact Ev.congr (fun k => by rw [if_neg Bool.false_ne_true]; rfl) (Ev.now _)
          refine Ev.step (fun k => ?_) (Ev.bind (f := fun k q => if q = true then mullionlaw9_fewTree.l0 k ((d + 1 : Nat) : Int) (wrap64 ((vs.length : Int) + 1)) t.f0 t.f1.f0 t.f1.f1 t.f2 else some false) e1 e3)
          simp only [mullionlaw9_fewTree.l0]
          rw [if_pos (by omega), if_pos (by omega), hrd, ew]
      have e0 := loop t.f2 [] rfl
      have e1 : Ev (fun k => mullionlaw9_fewTree.j0 k ((d + 1 : Nat) : Int) (decide ((t.f1.f1.size : Int) > 40)) t.f0 t.f1.f0 t.f1.f1 t.f2) (fewT (d + 1) t) := by
        rw [fewT, decide_eq_true hl, Bool.true_and]
        by_cases hs : t.f1.f1.size ≤ 40
        · rw [decide_eq_true hs, Bool.true_and]
          refine Ev.step (fun k => ?_) e0
          simp only [mullionlaw9_fewTree.j0]
          rw [decide_eq_false (by omega), if_neg Bool.false_ne_true]
          rfl
        · rw [decide_eq_false hs, Bool.false_and]
          refine Ev.once (fun k => ?_)
          simp only [mullionlaw9_fewTree.j0]
          rw [decide_eq_true (by omega), if_pos rfl]
      refine Ev.step (fun k => ?_) e1
      simp only [mullionlaw9_fewTree.f]
      rw [if_neg hne, if_neg (by omega)]
    · rw [fewT, decide_eq_false hl, Bool.false_and, Bool.false_and]
      refine Ev.step (fun k => ?_) ej
      simp only [mullionlaw9_fewTree.f]
      rw [if_neg hne, if_pos (by omega)]
mutual
/-- No word's text is longer than forty bytes. -/
def sml : S29 → Prop
  | ⟨_, t, l⟩ => t.f1.size ≤ 40 ∧ smls l
def smls : List S29 → Prop
  | [] => True
  | t :: ts => sml t ∧ smls ts
end
theorem smls_mem (l : List S29) : smls l ↔ ∀ t ∈ l, sml t := by
  induction l with
  | nil => simp [smls]
  | cons t ts ih => rw [smls, ih]; simp
theorem few_thin : ∀ (d : Nat) (t : S29), fewT d t = true → thin t ∧ sml t ∧ dep t ≤ d := by
  intro d
  induction d with
  | zero => intro t h; simp [fewT] at h
  | succ d ih =>
    rintro ⟨b, s, l⟩ h
    simp only [fewT, Bool.and_eq_true, decide_eq_true_eq, List.all_eq_true] at h
    obtain ⟨⟨h1, h2⟩, h3⟩ := h
    have hd : deps l ≤ d := by
      clear h1 h2
      induction l with
      | nil => simp [deps]
      | cons u us ihu =>
        rw [deps]
        have := (ih u (h3 u (by simp))).2.2
        have := ihu (fun x hx => h3 x (by simp [hx]))
        omega
    refine ⟨?_, ?_, ?_⟩
    · rw [thin, thins_mem]
      exact ⟨by omega, fun x hx => (ih x (h3 x hx)).1⟩
    · rw [sml, smls_mem]
      exact ⟨h2, fun x hx => (ih x (h3 x hx)).2.1⟩
    · rw [dep]
      split <;> omega
/-! ### word, all, Is -/
/-- Is it a word that is read as it is printed? -/
def wb (x : S27) : Bool :=
  let r := resW [] 0 (wtext x).length (scanF ((wtext x).length + 1) (wtext x))
  decide (r.2.2 = 0) && decide (r.1 = [x])
def wordV (t : S29) : Bool := !t.f0 && t.f2.isEmpty && decide (3 ≤ t.f1.f0) && decide (t.f1.f0 ≤ 5) && wb t.f1
theorem wtext_le (x : S27) : (wtext x).length ≤ x.f1.size + 1 := by
  unfold wtext
  rw [show x.f1.size = (T x.f1).length from rfl]
  split
  · simp
  · split
    · simp
    · split <;> simp
theorem joined_one (x : S27) : joined [x] = wtext x := by unfold joined; rw [List.map_cons, Lib.join_cons]; simp [Lib.joinTail]
theorem word_ev (t : S29) (hs : t.f1.f1.size ≤ 40) : Ev (fun k => tree_word.f k t.f0 t.f1.f0 t.f1.f1 t.f2) (wordV t) := by
  have ej : Ev (fun k => tree_word.j0 k true t.f0 t.f1.f0 t.f1.f1 t.f2) false := Ev.once (fun k => by simp only [tree_word.j0, if_true])
  unfold wordV
  by_cases h0 : t.f0 = true
  · rw [h0]
    refine Ev.congr (fun k => ?_) ej
    unfold tree_word.f
    try rw [h0]
    rw [if_pos rfl]
  have h0' : t.f0 = false := by simpa using h0
  rw [h0']
  by_cases h1 : t.f2.length = 0
  · have h1' : t.f2.isEmpty = true := by cases h : t.f2 with
      | nil => rfl
      | cons a b => rw [h] at h1; simp at h1
    rw [h1']
    by_cases h2 : 3 ≤ t.f1.f0
    · rw [decide_eq_true h2]
      by_cases h3 : t.f1.f0 ≤ 5
      · rw [decide_eq_true h3]
        simp only [Bool.not_false, Bool.and_self, Bool.true_and]
        have hw := wtext_le t.f1
        have e1 := Print_ev [t.f1] (by simp) (by intro x hx; simp at hx; rw [hx]; omega) (by rw [joined_one]; omega)
        rw [joined_one] at e1
        have e2 := lexWords_ev (U (wtext t.f1)) (by rw [U_size]; omega)
        rw [T_U, U_size] at e2
        have e3 : Ev (fun k => (lex_Words.f k (U (wtext t.f1))).bind fun bt => if bt.2.2 = 0 then (lex_Same.f k bt.1 [t.f1]).bind fun t169 => some t169 else some false) (wb t.f1) := by
          refine Ev.bind (f := fun k bt => if bt.2.2 = 0 then (lex_Same.f k bt.1 [t.f1]).bind fun t169 => some t169 else some false) e2 ?_
          unfold wb
          by_cases h4 : (resW [] 0 (wtext t.f1).length (scanF ((wtext t.f1).length + 1) (wtext t.f1))).2.2 = 0
          · simp only [h4, decide_true, Bool.true_and, if_true]
            refine Ev.bind (f := fun _ q => some q) ?_ (Ev.now _)
            by_cases h5 : (resW [] 0 (wtext t.f1).length (scanF ((wtext t.f1).length + 1) (wtext t.f1))).1.length ≤ 100000
            · have e := lexSame_ev _ [t.f1] h5
              rw [show decide ((resW [] 0 (wtext t.f1).length (scanF ((wtext t.f1).length + 1) (wtext t.f1))).1 = [t.f1]) = @decide _ (Classical.propDecidable _) from decide_eq_decide.mpr Iff.rfl] at *
              exact e
            · refine ⟨0, fun k _ => ?_⟩
              unfold lex_Same.f api_Token.f
              dsimp only
              rw [if_neg (by intro h; have : ([t.f1] : List S27).length = 1 := rfl; omega)]
              rw [decide_eq_false (by intro h; rw [h] at h5; simp at h5)]
              rfl
          · simp only [h4, decide_false, Bool.false_and, if_false]
            exact Ev.now _
        have e4 := Ev.bind (f := fun k q => (lex_Words.f k q).bind fun bt => if bt.2.2 = 0 then (lex_Same.f k bt.1 [t.f1]).bind fun t169 => some t169 else some false) e1 e3
        refine Ev.congr (f := fun k => tree_word.j0 k false false t.f1.f0 t.f1.f1 t.f2) (fun k => ?_) (Ev.step (fun k => ?_) e4)
        · unfold tree_word.f
          try rw [h0']
          rw [if_neg Bool.false_ne_true, if_neg (by omega), if_neg (by omega), decide_eq_false (by omega)]
        · simp only [tree_word.j0]
          rw [if_neg Bool.false_ne_true]
      · rw [decide_eq_false h3]
        simp only [Bool.not_false, Bool.and_false, Bool.false_and]
        refine Ev.congr (fun k => ?_) ej
        unfold tree_word.f
        try rw [h0']
        rw [if_neg Bool.false_ne_true, if_neg (by omega), if_neg (by omega), decide_eq_true (by omega)]
    · rw [decide_eq_false h2]
      simp only [Bool.not_false, Bool.and_false, Bool.false_and]
      refine Ev.congr (fun k => ?_) ej
      unfold tree_word.f
      try rw [h0']
      rw [if_neg Bool.false_ne_true, if_neg (by omega), if_pos (by omega)]
  · have h1' : t.f2.isEmpty = false := by cases h : t.f2 with
      | nil => rw [h] at h1; simp at h1
      | cons a b => rfl
    rw [h1']
    simp only [Bool.not_false, Bool.and_false, Bool.false_and]
    refine Ev.congr (fun k => ?_) ej
    unfold tree_word.f
    try rw [h0']
    rw [if_neg Bool.false_ne_true, if_pos (by omega)]
mutual
def allB : S29 → Bool
  | ⟨b, t, l⟩ => if b = true ∧ t.f0 = 0 ∧ t.f1 = ⟨#[]⟩ then allBs l else wordV ⟨b, t, l⟩
def allBs : List S29 → Bool
  | [] => true
  | t :: ts => allB t && allBs ts
end
theorem allBs_mem (l : List S29) : allBs l = l.all allB := by
  induction l with
  | nil => simp [allBs]
  | cons t ts ih => rw [allBs, ih, List.all_cons]
abbrev wdF (k : Nat) (p : S29) : Option Bool := tree_word.f k p.f0 p.f1.f0 p.f1.f1 p.f2
theorem all_ev (t : S29) : sml t → ∀ (ts : List S29) (r : Bool), Ev (fun k => allG (allT k) (wdF k) ts) r → Ev (fun k => allG (allT k) (wdF k) (t :: ts)) (allB t && r) := by
  induction t using S29_ind with
  | h b s l ih =>
  intro hs ts r hr
  rw [sml, smls_mem] at hs
  have ew := word_ev ⟨b, s, l⟩ hs.1
  have e2 : Ev (fun k => (wdF k ⟨b, s, l⟩).bind fun u => if u = true then allG (allT k) (wdF k) ts else some false) (wordV ⟨b, s, l⟩ && r) := by
    refine Ev.bind (f := fun k u => if u = true then allG (allT k) (wdF k) ts else some false) ew ?_
    cases wordV ⟨b, s, l⟩ with
    | true => exact Ev.congr (fun k => by rw [if_pos rfl]) (by simpa using hr)
    | false => exact Ev.congr (fun k => by rw [if_neg Bool.false_ne_true]; rfl) (Ev.now _)
  rw [allB]
  by_cases hb : b = true ∧ s.f0 = 0 ∧ s.f1 = ⟨#[]⟩
  · rw [if_pos hb]
    have loop : ∀ us : List S29, (∀ x ∈ us, x ∈ l) → Ev (fun k => allG (allT k) (wdF k) us) (allBs us) := by
      intro us
      induction us with
      | nil => intro _; exact Ev.congr (fun k => by rw [allG, allBs]) (Ev.now _)
      | cons u us ihu =>
        intro hm
        rw [allBs]
        exact ih u (hm u (by simp)) (hs.2 u (hm u (by simp))) us _ (ihu (fun x hx => hm x (by simp [hx])))
    have e1 : Ev (fun k => allT k l) (allBs l) := Ev.step (fun k => by rw [allT]) (loop l (fun _ h => h))
    have e3 : Ev (fun k => if allBs l = true then allG (allT k) (wdF k) ts else (wdF k ⟨b, s, l⟩).bind fun u => if u = true then allG (allT k) (wdF k) ts else some false) (allBs l && r) := by
      cases allBs l with
      | true => exact Ev.congr (fun k => by rw [if_pos rfl]) (by simpa using hr)
      | false =>
        have hwv : wordV ⟨b, s, l⟩ = false := by unfold wordV; rw [hb.1]; simp
        rw [hwv, Bool.false_and] at e2
        exact Ev.congr (fun k => by rw [if_neg Bool.false_ne_true]) e2
    refine Ev.congr (fun k => ?_) (Ev.bind (f := fun k q => if q = true then allG (allT k) (wdF k) ts else (wdF k ⟨b, s, l⟩).bind fun u => if u = true then allG (allT k) (wdF k) ts else some false) e1 e3)
    rw [allG, if_pos hb]
  · rw [if_neg hb]
    refine Ev.congr (fun k => ?_) e2
    rw [allG, if_neg hb]
    rfl
def isB (t : S29) : Bool := decide (siz t ≤ 400) && decide (dep t ≤ 60) && allB t
theorem Is_ev (t : S29) (ht : thin t) (hs : sml t) : Ev (fun k => tree_Is.f k t.f0 t.f1.f0 t.f1.f1 t.f2) (isB t) := by
  unfold isB
  have he : (⟨t.f0, ⟨t.f1.f0, t.f1.f1⟩, t.f2⟩ : S29) = t := by cases t; rfl
  have e1 := Count_ev t
  have e2 := Deep_ev t ht
  have e3 : Ev (fun k => tree_all.f k [(⟨t.f0, ⟨t.f1.f0, t.f1.f1⟩, t.f2⟩ : S29)]) (allB t) := by
    have h_ := all_ev t hs [] true (Ev.congr (fun k => by rw [allG]) (Ev.now _))
    rw [Bool.and_true] at h_
    rw [he]
    refine Ev.step (fun k => ?_) h_
    unfold tree_all.f
    rw [allT]
  have e4 : Ev (fun k => if ((min (dep t) 61 : Nat) : Int) ≤ 60 then (tree_all.f k [(⟨t.f0, ⟨t.f1.f0, t.f1.f1⟩, t.f2⟩ : S29)]).bind fun t176 => some t176 else some false) (decide (dep t ≤ 60) && allB t) := by
    by_cases h : dep t ≤ 60
    · rw [decide_eq_true h, Bool.true_and]
      refine Ev.congr (fun k => by rw [if_pos (by omega)]) (Ev.bind (f := fun _ q => some q) e3 (Ev.now _))
    · rw [decide_eq_false h, Bool.false_and]
      exact Ev.congr (fun k => by rw [if_neg (by omega)]) (Ev.now _)
  have e5 := Ev.bind (f := fun k q => if q ≤ 60 then (tree_all.f k [(⟨t.f0, ⟨t.f1.f0, t.f1.f1⟩, t.f2⟩ : S29)]).bind fun t176 => some t176 else some false) e2 e4
  have e6 : Ev (fun k => if ((min (siz t) 401 : Nat) : Int) ≤ 400 then (tree_Deep.f k t.f0 t.f1.f0 t.f1.f1 t.f2).bind fun t172 => (if t172 ≤ 60 then (tree_all.f k [(⟨t.f0, ⟨t.f1.f0, t.f1.f1⟩, t.f2⟩ : S29)]).bind fun t176 => some t176 else some false) else some false) (decide (siz t ≤ 400) && decide (dep t ≤ 60) && allB t) := by
    rw [Bool.and_assoc]
    by_cases h : siz t ≤ 400
    · rw [decide_eq_true h, Bool.true_and]
      exact Ev.congr (fun k => by rw [if_pos (by omega)]) e5
    · rw [decide_eq_false h, Bool.false_and]
      exact Ev.congr (fun k => by rw [if_neg (by omega)]) (Ev.now _)
  exact Ev.bind (f := fun k q => if q ≤ 400 then (tree_Deep.f k t.f0 t.f1.f0 t.f1.f1 t.f2).bind fun t172 => (if t172 ≤ 60 then (tree_all.f k [(⟨t.f0, ⟨t.f1.f0, t.f1.f1⟩, t.f2⟩ : S29)]).bind fun t176 => some t176 else some false) else some false) e1 e6
theorem wordV_parts {t : S29} (h : wordV t = true) : t.f0 = false ∧ t.f2 = [] ∧ 3 ≤ t.f1.f0 ∧ t.f1.f0 ≤ 5 ∧ wb t.f1 = true := by
  unfold wordV at h
  simp only [Bool.and_eq_true, Bool.not_eq_true', List.isEmpty_iff, decide_eq_true_eq] at h
  exact ⟨h.1.1.1.1, h.1.1.1.2, h.1.1.2, h.1.2, h.2⟩
theorem shp_of_all (t : S29) : allB t = true → shp t := by
  induction t using S29_ind with
  | h b s l ih =>
  intro h
  rw [allB] at h
  rw [shp]
  by_cases hb : b = true ∧ s.f0 = 0 ∧ s.f1 = ⟨#[]⟩
  · rw [if_pos hb, allBs_mem, List.all_eq_true] at h
    rw [if_pos hb.1, shps_mem]
    refine ⟨?_, fun x hx => ih x hx (h x hx)⟩
    cases s
    obtain ⟨_, h1, h2⟩ := hb
    simp only at h1 h2
    rw [h1, h2]
    rfl
  · rw [if_neg hb] at h
    obtain ⟨h1, h2, h3, h4, _⟩ := wordV_parts h
    simp only at h1 h2 h3 h4
    rw [h1, if_neg Bool.false_ne_true]
    exact ⟨h2, h3, h4⟩
theorem good_of_is {t : S29} (h : isB t = true) : good t := by
  unfold isB at h
  simp only [Bool.and_eq_true, decide_eq_true_eq] at h
  exact ⟨shp_of_all t h.2, h.1.1, h.1.2⟩
open Classical in
theorem same_ne {a b : S29} (h : a ≠ b) : Ev (fun k => sameF k a b) false := by
  have e := same_ev a b
  rwa [decide_eq_false h] at e
open Classical in
theorem same_eq (a : S29) : Ev (fun k => sameF k a a) true := by
  have e := same_ev a a
  rwa [decide_eq_true rfl] at e
end Go.Proofs.Ytegeleijdobmeaa.Pure
