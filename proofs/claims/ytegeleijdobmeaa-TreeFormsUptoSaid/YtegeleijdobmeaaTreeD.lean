/- What the document's functions on trees answer: Count, Deep, Is, Of, SameTree, Same. -/
import Derived.Test.YtegeleijdobmeaaTreeC
import Derived.Test.YtegeleijdobmeaaTlF
import Derived.Test.YtegeleijdobmeaaPAllx22
import Derived.Test.YtegeleijdobmeaaPAllx17
import Derived.Test.YtegeleijdobmeaaPAllx18
namespace Go.Proofs.Ytegeleijdobmeaa.Pure
open Go.RowKit Go.Proofs.Ytegeleijdobmeaa.PAll Go.Proofs.YtegeleijdobmeaaW.PrintWords Go.Proofs.YtegeleijdobmeaaW.PrintLast
set_option linter.unusedVariables false
theorem rcount_ev (t : S29) : ∀ m : Nat, 1 ≤ m → m ≤ 1000 → Ev (fun k => mullionref8_count.f k t.f0 t.f1.f0 t.f1.f1 t.f2 (m : Int)) ((min (siz t) m : Nat) : Int) := by
  induction t using S29_ind with
  | h b s l ih =>
  intro m h1 hm
  have loop : ∀ (ts pre : List S29), l = pre ++ ts → ∀ n : Nat, 1 ≤ n → n ≤ m → pre.length < n → Ev (fun k => mullionref8_count.l0 k (m : Int) (n : Int) (pre.length : Int) b s.f0 s.f1 l) ((min (n + sizs ts) m : Nat) : Int) := by
    intro ts
    induction ts with
    | nil =>
      intro pre e n hn1 hnm hp
      refine Ev.once (fun k => ?_)
      simp only [mullionref8_count.l0]
      rw [if_neg (by rw [e]; simp), sizs, Nat.add_zero, mn_nat]
    | cons t ts iht =>
      intro pre e n hn1 hnm hp
      have hl : pre.length < l.length := by rw [e]; simp
      have hrd : rd_T29 l (pre.length : Int) = t := by rw [e]; exact rd29 pre ts t
      by_cases hn2 : m ≤ n
      · refine Ev.once (fun k => ?_)
        simp only [mullionref8_count.l0]
        rw [if_pos (by omega), if_neg (by omega), mn_nat]
        congr 2
        omega
      · have e1 := ih t (by rw [e]; simp) (m - n) (by omega) (by omega)
        have e2 := iht (pre ++ [t]) (by rw [e]; simp) (n + min (siz t) (m - n)) (by omega) (by omega) (by have := siz_pos t; simp; omega)
        have ew : wrap64 ((n : Int) + ((min (siz t) (m - n) : Nat) : Int)) = ((n + min (siz t) (m - n) : Nat) : Int) := by unfold wrap64; omega
        have ew1 : wrap64 ((m : Int) - (n : Int)) = ((m - n : Nat) : Int) := by unfold wrap64; omega
        have ep : wrap64 ((pre.length : Int) + 1) = ((pre ++ [t]).length : Int) := by rw [wrapT _ (by omega)]; simp
        have er : min (n + min (siz t) (m - n) + sizs ts) m = min (n + sizs (t :: ts)) m := by rw [sizs]; omega
        rw [er, ← ew, ← ep] at e2
        refine Ev.step (fun k => ?_) (Ev.bind (f := fun k q => mullionref8_count.l0 k (m : Int) (wrap64 ((n : Int) + q)) (wrap64 ((pre.length : Int) + 1)) b s.f0 s.f1 l) e1 e2)
        simp only [mullionref8_count.l0]
        rw [if_pos (by omega), if_pos (by omega), if_pos (by omega), hrd, ew1]
  have h0 := loop l [] rfl 1 (by omega) h1 (by simp)
  rw [siz]
  refine Ev.step (fun k => ?_) h0
  simp only [mullionref8_count.f]
  rfl
theorem rCount_ev (t : S29) : Ev (fun k => mullionref8_Count.f k t.f0 t.f1.f0 t.f1.f1 t.f2) ((min (siz t) 401 : Nat) : Int) :=
  Ev.bind (rcount_ev t 401 (by omega) (by omega)) (Ev.now _)
theorem rdeep_ev (t : S29) : thin t → ∀ m : Nat, m ≤ 1000 → Ev (fun k => mullionref8_deep.f k t.f0 t.f1.f0 t.f1.f1 t.f2 (m : Int)) ((min (dep t) m : Nat) : Int) := by
  induction t using S29_ind with
  | h b s l ih =>
  intro hth m hm
  rw [thin, thins_mem] at hth
  have ejt : Ev (fun k => mullionref8_deep.j0 k (m : Int) true b s.f0 s.f1 l) 0 := Ev.once (fun k => by simp only [mullionref8_deep.j0, if_true])
  cases b with
  | false =>
    rw [dep, if_neg Bool.false_ne_true]
    refine Ev.step (fun k => ?_) (Ev.congr (fun k => rfl) (by simpa using ejt))
    simp only [mullionref8_deep.f]
    rw [if_neg Bool.false_ne_true]
  | true =>
  by_cases hm0 : m = 0
  · subst hm0
    refine Ev.step (fun k => ?_) (Ev.congr (fun k => rfl) (by simpa using ejt))
    simp only [mullionref8_deep.f]
    rw [if_pos True.intro]
    rfl
  have loop : ∀ (ts pre : List S29), l = pre ++ ts → Ev (fun k => mullionref8_deep.l0 k (m : Int) ((min (deps pre) (m - 1) : Nat) : Int) (pre.length : Int) true s.f0 s.f1 l) ((min (deps l + 1) m : Nat) : Int) := by
    intro ts
    induction ts with
    | nil =>
      intro pre e
      refine Ev.once (fun k => ?_)
      simp only [mullionref8_deep.l0]
      rw [if_neg (by rw [e]; simp), wrapT _ (by omega)]
      congr 2
      rw [e, List.append_nil]
      omega
    | cons t ts iht =>
      intro pre e
      have hl : pre.length < l.length := by rw [e]; simp
      have hrd : rd_T29 l (pre.length : Int) = t := by rw [e]; exact rd29 pre ts t
      have e1 := ih t (by rw [e]; simp) (hth.2 t (by rw [e]; simp)) (m - 1) (by omega)
      have e2 := iht (pre ++ [t]) (by rw [e]; simp)
      have ed : min (deps (pre ++ [t])) (m - 1) = max (min (deps pre) (m - 1)) (min (dep t) (m - 1)) := by rw [deps_app, deps, deps]; omega
      have ep : wrap64 ((pre.length : Int) + 1) = ((pre ++ [t]).length : Int) := by rw [wrapT _ (by have := hth.1; omega)]; simp
      have ew : wrap64 ((m : Int) - 1) = ((m - 1 : Nat) : Int) := by unfold wrap64; omega
      rw [ed, ← mx_nat, ← ep] at e2
      refine Ev.step (fun k => ?_) (Ev.bind (f := fun k q => mullionref8_deep.l0 k (m : Int) (mx ((min (deps pre) (m - 1) : Nat) : Int) q) (wrap64 ((pre.length : Int) + 1)) true s.f0 s.f1 l) e1 e2)
      simp only [mullionref8_deep.l0]
      rw [if_pos (by omega), if_pos (by omega), hrd, ew]
  have h0 := loop l [] rfl
  have ej : Ev (fun k => mullionref8_deep.j0 k (m : Int) ((m : Int) == 0) true s.f0 s.f1 l) ((min (deps l + 1) m : Nat) : Int) := by
    refine Ev.step (fun k => ?_) h0
    simp only [mullionref8_deep.j0]
    rw [show ((m : Int) == 0) = false by rw [beq_eq_false_iff_ne]; omega, if_neg Bool.false_ne_true]
    simp [deps]
  rw [dep, if_pos rfl]
  refine Ev.step (fun k => ?_) ej
  simp only [mullionref8_deep.f]
  rw [if_pos True.intro]
theorem rDeep_ev (t : S29) (h : thin t) : Ev (fun k => mullionref8_Deep.f k t.f0 t.f1.f0 t.f1.f1 t.f2) ((min (dep t) 61 : Nat) : Int) :=
  Ev.bind (rdeep_ev t h 61 (by omega)) (Ev.now _)
/-! ### is -/
theorem tok_kind {l : Bs} {x : S27} {m : Nat} (h : tok l = some (x, m)) : x.f0 ≤ 5 := by
  have fin : ∀ {a : Int} {b : Bs} {q : Nat}, some (S a b, q) = some (x, m) → a ≤ 5 → x.f0 ≤ 5 := by
    intro a b q e ha
    injection e with e
    injection e with e _
    rw [← e]
    exact ha
  cases l with
  | nil => simp [tok] at h
  | cons c t =>
    rw [tok_cons] at h
    split at h
    · exact fin h (by decide)
    · split at h
      · exact fin h (by decide)
      · split at h
        · split at h
          · exact fin h (by decide)
          · simp at h
        · split at h
          · split at h
            · exact fin h (by decide)
            · simp at h
          · split at h
            · exact fin h (by decide)
            · simp at h
theorem scan_kind : ∀ (k : Nat) (l : Bs), ∀ x ∈ (scanF k l).1, x.f0 ≤ 5 := by
  intro k
  induction k with
  | zero => intro l x hx; simp [scanF] at hx
  | succ k ih =>
    intro l x hx
    cases l with
    | nil => simp [scanF] at hx
    | cons c t =>
      rw [scanF] at hx
      split at hx
      · exact ih _ x hx
      · split at hx
        · exact ih _ x hx
        · split at hx
          · simp at hx
          · rename_i y m hy
            rcases List.mem_cons.1 hx with rfl | hx
            · exact tok_kind hy
            · exact ih _ x hx
theorem wb_kind {x : S27} (h : wb x = true) : x.f0 ≤ 5 := by
  unfold wb at h
  simp only [Bool.and_eq_true, decide_eq_true_eq] at h
  obtain ⟨h1, h2⟩ := h
  unfold resW at h2
  cases e : (scanF ((wtext x).length + 1) (wtext x)).2 with
  | none =>
    rw [e] at h2
    exact scan_kind _ (wtext x) x (by simp only [List.nil_append] at h2; rw [h2]; simp)
  | some j => rw [e] at h2; simp at h2
theorem ris_ev (t : S29) : thin t → sml t → ∀ m : Nat, m ≤ 1000 → dep t ≤ m → Ev (fun k => mullionref8_is.f k t.f0 t.f1.f0 t.f1.f1 t.f2 (m : Int)) (allB t) := by
  induction t using S29_ind with
  | h b s l ih =>
  intro hth hsm m hm hd
  rw [thin, thins_mem] at hth
  rw [sml, smls_mem] at hsm
  cases b with
  | false =>
    rw [allB, if_neg (by rintro ⟨h, _⟩; exact Bool.false_ne_true h)]
    have hw := wtext_le s
    have e1 := refword_eq s (by omega)
    have e2 := refWords_ev (U (wtext s)) (by rw [U_size]; omega)
    rw [T_U, U_size] at e2
    have e3 : Ev (fun k => (mullionref8_Words.f k (U (wtext s))).bind fun bt376 => (if (l.length : Int) = 0 then (if s.f0 ≥ 3 then (if bt376.2.2 = 0 then (if (bt376.1.length : Int) = 1 then (if 0 < (bt376.1.length : Int) then (some (((rd_T27 bt376.1 0).f0) == s.f0 && ((((rd_T27 bt376.1 0).f1).toList) == s.f1.toList))) else (none)) else (some false)) else (some false)) else (some false)) else (some false))) (wordV ⟨false, s, l⟩) := by
      refine Ev.bind (f := fun _ bt376 => if (l.length : Int) = 0 then (if s.f0 ≥ 3 then (if bt376.2.2 = 0 then (if (bt376.1.length : Int) = 1 then (if 0 < (bt376.1.length : Int) then (some (((rd_T27 bt376.1 0).f0) == s.f0 && ((((rd_T27 bt376.1 0).f1).toList) == s.f1.toList))) else (none)) else (some false)) else (some false)) else (some false)) else (some false)) e2 ?_
      have hwv : wordV ⟨false, s, l⟩ = (l.isEmpty && (decide (3 ≤ s.f0) && wb s)) := by
        unfold wordV
        simp only [Bool.not_false, Bool.true_and]
        cases hwb : wb s with
        | false => simp
        | true => have := wb_kind hwb; simp [this]
      rw [hwv]
      cases l with
      | cons u us => exact Ev.congr (fun k => by rw [if_neg (by simp; omega)]; rfl) (Ev.now _)
      | nil =>
        refine Ev.congr (fun k => by rw [if_pos (by rfl)]) ?_
        by_cases h3 : 3 ≤ s.f0
        · refine Ev.congr (fun k => by rw [if_pos h3]) ?_
          rw [decide_eq_true h3]
          simp only [List.isEmpty_nil, Bool.true_and]
          unfold wb
          by_cases h4 : (resW [] 0 (wtext s).length (scanF ((wtext s).length + 1) (wtext s))).2.2 = 0
          · refine Ev.congr (fun k => by rw [if_pos h4]) ?_
            simp only [h4, decide_true, Bool.true_and]
            match hr : (resW [] 0 (wtext s).length (scanF ((wtext s).length + 1) (wtext s))).1 with
            | [] => exact Ev.congr (fun k => by rw [if_neg (by simp)]; simp) (Ev.now _)
            | [x] =>
              refine Ev.congr (fun k => by rw [if_pos (by rfl), if_pos (by simp)]) ?_
              have hx : ((rd_T27 [x] 0).f0 == s.f0 && (rd_T27 [x] 0).f1.toList == s.f1.toList) = decide ([x] = [s]) := by
                have h_ := ne_tok x s
                rw [show rd_T27 [x] 0 = x from rfl, show decide ([x] = [s]) = decide (x = s) by simp]
                rw [← Bool.not_and] at h_
                exact Bool.not_inj h_
              exact Ev.congr (fun k => by rw [hx]) (Ev.now _)
            | x :: y :: z => exact Ev.congr (fun k => by rw [if_neg (by simp; omega)]; simp) (Ev.now _)
          · refine Ev.congr (fun k => by rw [if_neg h4]) ?_
            simp only [h4, decide_false, Bool.false_and]
            exact Ev.now _
        · refine Ev.congr (fun k => by rw [if_neg h3]) ?_
          rw [decide_eq_false h3]
          simp only [Bool.false_and, Bool.and_false]
          exact Ev.now _
    refine Ev.step (fun k => ?_) e3
    simp only [mullionref8_is.f]
    rw [if_neg Bool.false_ne_true, e1]
    rfl
  | true =>
    rw [dep, if_pos rfl] at hd
    have ejt : Ev (fun k => mullionref8_is.j0 k (m : Int) true true s.f0 s.f1 l) false := Ev.once (fun k => by simp only [mullionref8_is.j0, if_true])
    rw [allB]
    by_cases hz : s.f0 = 0 ∧ s.f1 = ⟨#[]⟩
    · rw [if_pos ⟨rfl, hz⟩]
      have loop : ∀ (us vs : List S29), l = vs ++ us → Ev (fun k => mullionref8_is.l0 k (m : Int) (vs.length : Int) true s.f0 s.f1 l) (allBs us) := by
        intro us
        induction us with
        | nil =>
          intro vs e
          refine Ev.once (fun k => ?_)
          simp only [mullionref8_is.l0]
          rw [if_neg (by rw [e]; simp), allBs]
        | cons u us ihu =>
          intro vs e
          have hul : u ∈ l := by rw [e]; simp
          have hvl : vs.length < l.length := by rw [e]; simp
          have hrd : rd_T29 l (vs.length : Int) = u := by rw [e]; exact rd29 vs us u
          have e1 := ih u hul (hth.2 u hul) (hsm.2 u hul) (m - 1) (by omega) (by have := deps_mem hul; omega)
          have ew : wrap64 ((m : Int) - 1) = ((m - 1 : Nat) : Int) := by unfold wrap64; omega
          have ep : wrap64 ((vs.length : Int) + 1) = ((vs ++ [u]).length : Int) := by rw [wrapT _ (by have := hth.1; omega)]; simp
          have e2 := ihu (vs ++ [u]) (by rw [e]; simp)
          rw [← ep] at e2
          have e3 : Ev (fun k => if allB u = true then mullionref8_is.l0 k (m : Int) (wrap64 ((vs.length : Int) + 1)) true s.f0 s.f1 l else some false) (allBs (u :: us)) := by
            rw [allBs]
            cases allB u with
            | true => exact Ev.congr (fun k => by rw [if_pos rfl]) (by simpa using e2)
            | false => exact Ev.congr (fun k => by rw [if_neg Bool.false_ne_true]; rfl) (Ev.now _)
          refine Ev.step (fun k => ?_) (Ev.bind (f := fun k q => if q = true then mullionref8_is.l0 k (m : Int) (wrap64 ((vs.length : Int) + 1)) true s.f0 s.f1 l else some false) e1 e3)
          simp only [mullionref8_is.l0]
          rw [if_pos (by omega), if_pos (by omega), hrd, ew]
      have e0 := loop l [] rfl
      have ej : Ev (fun k => mullionref8_is.j0 k (m : Int) ((m : Int) == 0) true s.f0 s.f1 l) (allBs l) := by
        refine Ev.step (fun k => ?_) e0
        simp only [mullionref8_is.j0]
        rw [show ((m : Int) == 0) = false by rw [beq_eq_false_iff_ne]; omega, if_neg Bool.false_ne_true]
        rfl
      refine Ev.step (fun k => ?_) ej
      simp only [mullionref8_is.f]
      rw [if_pos True.intro, hz.1, hz.2, toList_T, if_neg (by decide)]
    · rw [if_neg (fun h => hz h.2)]
      have hwv : wordV ⟨true, s, l⟩ = false := by unfold wordV; simp
      rw [hwv]
      refine Ev.step (fun k => ?_) ejt
      simp only [mullionref8_is.f]
      rw [if_pos True.intro, if_pos]
      by_cases h0 : s.f0 = 0
      · have h1 : s.f1.toList ≠ [] := fun e_ => hz ⟨h0, T_inj (by rw [← toList_T, e_]; rfl)⟩
        rw [beq_eq_false_iff_ne.mpr h1]
        simp
      · rw [beq_eq_false_iff_ne.mpr h0]
        rfl
theorem rIs_ev (t : S29) (ht : thin t) (hs : sml t) : Ev (fun k => mullionref8_Is.f k t.f0 t.f1.f0 t.f1.f1 t.f2) (isB t) := by
  unfold isB
  have e4 : Ev (fun k => if ((min (dep t) 61 : Nat) : Int) ≤ 60 then (mullionref8_is.f k t.f0 t.f1.f0 t.f1.f1 t.f2 60).bind fun t387 => some t387 else some false) (decide (dep t ≤ 60) && allB t) := by
    by_cases h : dep t ≤ 60
    · rw [decide_eq_true h, Bool.true_and]
      refine Ev.congr (fun k => by rw [if_pos (by omega)]; rfl) (Ev.bind (f := fun _ q => some q) (ris_ev t ht hs 60 (by omega) h) (Ev.now _))
    · rw [decide_eq_false h, Bool.false_and]
      exact Ev.congr (fun k => by rw [if_neg (by omega)]) (Ev.now _)
  have e5 := Ev.bind (f := fun k q => if q ≤ 60 then (mullionref8_is.f k t.f0 t.f1.f0 t.f1.f1 t.f2 60).bind fun t387 => some t387 else some false) (rDeep_ev t ht) e4
  have e6 : Ev (fun k => if ((min (siz t) 401 : Nat) : Int) ≤ 400 then (mullionref8_Deep.f k t.f0 t.f1.f0 t.f1.f1 t.f2).bind fun t386 => (if t386 ≤ 60 then (mullionref8_is.f k t.f0 t.f1.f0 t.f1.f1 t.f2 60).bind fun t387 => some t387 else some false) else some false) (decide (siz t ≤ 400) && decide (dep t ≤ 60) && allB t) := by
    rw [Bool.and_assoc]
    by_cases h : siz t ≤ 400
    · rw [decide_eq_true h, Bool.true_and]
      exact Ev.congr (fun k => by rw [if_pos (by omega)]) e5
    · rw [decide_eq_false h, Bool.false_and]
      exact Ev.congr (fun k => by rw [if_neg (by omega)]) (Ev.now _)
  exact Ev.bind (f := fun k q => if q ≤ 400 then (mullionref8_Deep.f k t.f0 t.f1.f0 t.f1.f1 t.f2).bind fun t386 => (if t386 ≤ 60 then (mullionref8_is.f k t.f0 t.f1.f0 t.f1.f1 t.f2 60).bind fun t387 => some t387 else some false) else some false) (rCount_ev t) e6
/-! ### Of -/
theorem rOf_ev (t : S29) : thin t → (flat t).length ≤ 1000000000 → Ev (fun k => mullionref8_Of.f k t.f0 t.f1.f0 t.f1.f1 t.f2) (flat t) := by
  induction t using S29_ind with
  | h b s l ih =>
  intro hth hfl
  rw [thin, thins_mem] at hth
  cases b with
  | false =>
    refine Ev.once (fun k => ?_)
    simp only [mullionref8_Of.f]
    rw [if_neg Bool.false_ne_true, flat, if_neg Bool.false_ne_true]
  | true =>
    rw [flat, if_pos rfl] at hfl ⊢
    have hfl2 : (flats l).length + 2 ≤ 1000000000 := by simp at hfl; omega
    have loop : ∀ (us vs : List S29), l = vs ++ us → Ev (fun k => mullionref8_Of.l0 k (lft :: flats vs) (vs.length : Int) true s.f0 s.f1 l) (lft :: (flats l ++ [rgt])) := by
      intro us
      induction us with
      | nil =>
        intro vs e
        rw [List.append_nil] at e
        subst e
        refine Ev.once (fun k => ?_)
        simp only [mullionref8_Of.l0]
        rw [if_neg (by omega), if_pos (by simp; omega)]
        rfl
      | cons u us ihu =>
        intro vs e
        have hul : u ∈ l := by rw [e]; simp
        have hvl : vs.length < l.length := by rw [e]; simp
        have hrd : rd_T29 l (vs.length : Int) = u := by rw [e]; exact rd29 vs us u
        have hfe : (flats l).length = (flats vs).length + ((flat u).length + (flats us).length) := by rw [e, flats_app, flats, List.length_append, List.length_append]
        have e1 := ih u hul (hth.2 u hul) (by omega)
        have ep : wrap64 ((vs.length : Int) + 1) = ((vs ++ [u]).length : Int) := by rw [wrapT _ (by have := hth.1; omega)]; simp
        have e2 := ihu (vs ++ [u]) (by rw [e]; simp)
        have ef : lft :: flats (vs ++ [u]) = (lft :: flats vs) ++ flat u := by rw [flats_app, flats, flats, List.append_nil]; rfl
        rw [← ep, ef] at e2
        refine Ev.step (fun k => ?_) (Ev.bind (f := fun k t396 => if (lft :: flats vs).length + t396.length < 5864062014805 then (mullionref8_Of.l0 k ((lft :: flats vs) ++ t396) (wrap64 ((vs.length : Int) + 1)) true s.f0 s.f1 l) else none) e1 (Ev.congr (fun k => by rw [if_pos (by simp; omega)]) e2))
        simp only [mullionref8_Of.l0]
        rw [if_pos (by omega), if_pos (by omega), hrd]
    refine Ev.step (fun k => ?_) (loop l [] rfl)
    simp only [mullionref8_Of.f]
    rw [if_pos True.intro]
    rfl
/-! ### SameTree, Same -/
open Classical in
theorem rsame_ev (a : S29) : thin a → ∀ b : S29, Ev (fun k => mullionref8_SameTree.f k a.f0 a.f1.f0 a.f1.f1 a.f2 b.f0 b.f1.f0 b.f1.f1 b.f2) (decide (a = b)) := by
  induction a using S29_ind with
  | h b s l ih =>
  rintro hth ⟨c, u, m⟩
  rw [thin, thins_mem] at hth
  have ejt : Ev (fun k => mullionref8_SameTree.j0 k true b s.f0 s.f1 l c u.f0 u.f1 m) false := Ev.once (fun k => by simp only [mullionref8_SameTree.j0, if_true])
  have loop : ∀ (ts pre us qre : List S29), l = pre ++ ts → m = qre ++ us → pre.length = qre.length → ts.length = us.length → Ev (fun k => mullionref8_SameTree.l0 k (pre.length : Int) b s.f0 s.f1 l c u.f0 u.f1 m) (decide (ts = us)) := by
    intro ts
    induction ts with
    | nil =>
      intro pre us qre e1 e2 hpq he
      cases us with
      | cons _ _ => simp at he
      | nil =>
        rw [show decide (([] : List S29) = []) = true by simp]
        refine Ev.once (fun k => ?_)
        simp only [mullionref8_SameTree.l0]
        rw [if_neg (by rw [e1]; simp)]
    | cons t ts iht =>
      intro pre us qre e1 e2 hpq he
      cases us with
      | nil => simp at he
      | cons v us =>
        have hpl : pre.length < l.length := by rw [e1]; simp
        have hql : pre.length < m.length := by rw [e2, hpq]; simp
        have hrd : rd_T29 l (pre.length : Int) = t := by rw [e1]; exact rd29 pre ts t
        have hrq : rd_T29 m (pre.length : Int) = v := by rw [e2, hpq]; exact rd29 qre us v
        have f1 := ih t (by rw [e1]; simp) (hth.2 t (by rw [e1]; simp)) v
        have f2 := iht (pre ++ [t]) us (qre ++ [v]) (by rw [e1]; simp) (by rw [e2]; simp) (by simp [hpq]) (by simpa using he)
        have ep : ((pre ++ [t]).length : Int) = wrap64 ((pre.length : Int) + 1) := by rw [wrapT _ (by have := hth.1; omega)]; simp
        rw [ep] at f2
        have f3 : Ev (fun k => if decide (t = v) = true then mullionref8_SameTree.l0 k (wrap64 ((pre.length : Int) + 1)) b s.f0 s.f1 l c u.f0 u.f1 m else some false) (decide (t :: ts = v :: us)) := by
          by_cases h : t = v
          · have hd : decide (t :: ts = v :: us) = decide (ts = us) := by rw [h]; simp
            rw [hd, decide_eq_true h]
            exact Ev.congr (fun k => by rw [if_pos rfl]) f2
          · have hd : decide (t :: ts = v :: us) = false := by simp [h]
            rw [hd, decide_eq_false h]
            exact Ev.congr (fun k => by rw [if_neg Bool.false_ne_true]) (Ev.now _)
        refine Ev.step (fun k => ?_) (Ev.bind (f := fun k q => if q = true then mullionref8_SameTree.l0 k (wrap64 ((pre.length : Int) + 1)) b s.f0 s.f1 l c u.f0 u.f1 m else some false) f1 f3)
        simp only [mullionref8_SameTree.l0]
        rw [if_pos (by omega), if_pos (by omega), if_pos (by omega), hrd, hrq]
  by_cases hbc : b = c
  · by_cases hsu : s = u
    · by_cases hl : l.length = m.length
      · have hd : decide ((⟨b, s, l⟩ : S29) = ⟨c, u, m⟩) = decide (l = m) := by rw [hbc, hsu]; simp
        rw [hd]
        have ej : Ev (fun k => mullionref8_SameTree.j0 k ((l.length : Int) != (m.length : Int)) b s.f0 s.f1 l c u.f0 u.f1 m) (decide (l = m)) := by
          refine Ev.step (fun k => ?_) (loop l [] m [] rfl rfl rfl hl)
          simp only [mullionref8_SameTree.j0]
          rw [show ((l.length : Int) != (m.length : Int)) = false by simp [hl], if_neg Bool.false_ne_true]
          rfl
        refine Ev.step (fun k => ?_) ej
        simp only [mullionref8_SameTree.f]
        rw [if_neg (by rw [hbc]; simp), ne_tok, if_neg (by rw [hsu]; simp)]
      · rw [decide_eq_false (by intro h; injection h with _ _ h; rw [h] at hl; exact hl rfl)]
        refine Ev.step (fun k => ?_) ejt
        simp only [mullionref8_SameTree.f]
        rw [if_neg (by rw [hbc]; simp), ne_tok, if_neg (by rw [hsu]; simp), show ((l.length : Int) != (m.length : Int)) = true by simp; omega]
    · rw [decide_eq_false (by intro h; injection h with _ h _; exact hsu h)]
      refine Ev.step (fun k => ?_) ejt
      simp only [mullionref8_SameTree.f]
      rw [if_neg (by rw [hbc]; simp), ne_tok, if_pos (by simp [hsu])]
  · rw [decide_eq_false (by intro h; injection h with h _ _; exact hbc h)]
    refine Ev.step (fun k => ?_) ejt
    simp only [mullionref8_SameTree.f]
    rw [if_pos (by simp [hbc])]
theorem rd27p (pre ts : List S27) (t : S27) : rd_T27 (pre ++ t :: ts) (pre.length : Int) = t := by simp [rd_T27]
theorem refSame_self (a : List S27) (ha : a.length ≤ 1000000000) : Ev (fun k => mullionref8_Same.f k a a) true := by
  have loop : ∀ (us vs : List S27), a = vs ++ us → Ev (fun k => mullionref8_Same.l0 k a a (vs.length : Int)) true := by
    intro us
    induction us with
    | nil =>
      intro vs e
      refine Ev.once (fun k => ?_)
      simp only [mullionref8_Same.l0]
      rw [if_neg (by rw [e]; simp)]
    | cons u us ihu =>
      intro vs e
      have hvl : vs.length < a.length := by rw [e]; simp
      have hrd : rd_T27 a (vs.length : Int) = u := by rw [e]; exact rd27p vs us u
      have ep : wrap64 ((vs.length : Int) + 1) = ((vs ++ [u]).length : Int) := by rw [wrapT _ (by omega)]; simp
      have e2 := ihu (vs ++ [u]) (by rw [e]; simp)
      rw [← ep] at e2
      refine Ev.step (fun k => ?_) e2
      simp only [mullionref8_Same.l0]
      rw [if_pos (by omega), if_pos (by omega), if_pos (by omega), ne_tok, hrd, if_neg (by simp)]
  refine Ev.congr (fun k => ?_) (loop a [] rfl)
  unfold mullionref8_Same.f
  rw [if_pos rfl]
  rfl
end Go.Proofs.Ytegeleijdobmeaa.Pure
