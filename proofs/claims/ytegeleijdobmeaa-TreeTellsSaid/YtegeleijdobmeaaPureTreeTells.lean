/- Of few words the two readers answer the same trees, the same place and the same error: the plain law. Conditions: none beyond the statement's own. -/
import Derived.Test.YtegeleijdobmeaaPAllx31
import Derived.Test.YtegeleijdobmeaaPAllx18
import Derived.Test.YtegeleijdobmeaaTlC
import Derived.Test.YtegeleijdobmeaaTreeE
namespace Go.Proofs.Ytegeleijdobmeaa.Pure
open Go.RowKit Go.Proofs.Ytegeleijdobmeaa.PAll Go.Proofs.YtegeleijdobmeaaW.PrintWords Go.Proofs.YtegeleijdobmeaaW.PrintLast
set_option linter.unusedVariables false
/-! ### SameTree -/
open Classical in
theorem rsame_ev (a : S29) : thin a → ∀ b : S29, Ev (fun k => mullionref8_SameTree.f k a.f0 a.f1.f0 a.f1.f1 a.f2 b.f0 b.f1.f0 b.f1.f1 b.f2) (decide (a = b)) := by
  induction a using S29_ind with
  | h b s l ih =>
  rintro hth ⟨c, u, m⟩
  rw [thin, thins_mem] at hth
  have ejt : Ev (fun k => mullionref8_SameTree.j0 k true b s.f0 s.f1 l c u.f0 u.f1 m) false := Ev.once (fun k => by simp only [mullionref8_SameTree.j0, if_true])
  have loop : ∀ (ts pre us qre : List S29), l = pre ++ ts → m = qre ++ us → pre.length = qre.length → ts.length = us.length → Ev (fun k => mullionref8_SameTree.l0 k (pre.length : Int) b s.f0 s.f1 l c u.f0 u.f1 m) (decide (ts = us)) := by
    intro ts
    induction ts with
    | nil =>
      intro pre us qre e1 e2 hpq he
      cases us with
      | cons _ _ => simp at he
      | nil =>
        rw [show decide (([] : List S29) = []) = true by simp]
        refine Ev.once (fun k => ?_)
        simp only [mullionref8_SameTree.l0]
        rw [if_neg (by rw [e1]; simp)]
    | cons t ts iht =>
      intro pre us qre e1 e2 hpq he
      cases us with
      | nil => simp at he
      | cons v us =>
        have hpl : pre.length < l.length := by rw [e1]; simp
        have hql : pre.length < m.length := by rw [e2, hpq]; simp
        have hrd : rd_T29 l (pre.length : Int) = t := by rw [e1]; exact rd29 pre ts t
        have hrq : rd_T29 m (pre.length : Int) = v := by rw [e2, hpq]; exact rd29 qre us v
        have f1 := ih t (by rw [e1]; simp) (hth.2 t (by rw [e1]; simp)) v
        have f2 := iht (pre ++ [t]) us (qre ++ [v]) (by rw [e1]; simp) (by rw [e2]; simp) (by simp [hpq]) (by simpa using he)
        have ep : ((pre ++ [t]).length : Int) = wrap64 ((pre.length : Int) + 1) := by rw [wrapT _ (by have := hth.1; omega)]; simp
        rw [ep] at f2
        have f3 : Ev (fun k => if decide (t = v) = true then mullionref8_SameTree.l0 k (wrap64 ((pre.length : Int) + 1)) b s.f0 s.f1 l c u.f0 u.f1 m else some false) (decide (t :: ts = v :: us)) := by
          by_cases h : t = v
          · have hd : decide (t :: ts = v :: us) = decide (ts = us) := by rw [h]; simp
            rw [hd, decide_eq_true h]
            exact Ev.congr (fun k => by rw [if_pos rfl]) f2
          · have hd : decide (t :: ts = v :: us) = false := by simp [h]
            rw [hd, decide_eq_false h]
            exact Ev.congr (fun k => by rw [if_neg Bool.false_ne_true]) (Ev.now _)
        refine Ev.step (fun k => ?_) (Ev.bind (f := fun k q => if q = true then mullionref8_SameTree.l0 k (wrap64 ((pre.length : Int) + 1)) b s.f0 s.f1 l c u.f0 u.f1 m else some false) f1 f3)
        simp only [mullionref8_SameTree.l0]
        rw [if_pos (by omega), if_pos (by omega), if_pos (by omega), hrd, hrq]
  by_cases hbc : b = c
  · by_cases hsu : s = u
    · by_cases hl : l.length = m.length
      · have hd : decide ((⟨b, s, l⟩ : S29) = ⟨c, u, m⟩) = decide (l = m) := by rw [hbc, hsu]; simp
        rw [hd]
        have ej : Ev (fun k => mullionref8_SameTree.j0 k ((l.length : Int) != (m.length : Int)) b s.f0 s.f1 l c u.f0 u.f1 m) (decide (l = m)) := by
          refine Ev.step (fun k => ?_) (loop l [] m [] rfl rfl rfl hl)
          simp only [mullionref8_SameTree.j0]
          rw [show ((l.length : Int) != (m.length : Int)) = false by simp [hl], if_neg Bool.false_ne_true]
          rfl
        refine Ev.step (fun k => ?_) ej
        simp only [mullionref8_SameTree.f]
        rw [if_neg (by rw [hbc]; simp), ne_tok, if_neg (by rw [hsu]; simp)]
      · rw [decide_eq_false (by intro h; injection h with _ _ h; rw [h] at hl; exact hl rfl)]
        refine Ev.step (fun k => ?_) ejt
        simp only [mullionref8_SameTree.f]
        rw [if_neg (by rw [hbc]; simp), ne_tok, if_neg (by rw [hsu]; simp), show ((l.length : Int) != (m.length : Int)) = true by simp; omega]
    · rw [decide_eq_false (by intro h; injection h with _ h _; exact hsu h)]
      refine Ev.step (fun k => ?_) ejt
      simp only [mullionref8_SameTree.f]
      rw [if_neg (by rw [hbc]; simp), ne_tok, if_pos (by simp [hsu])]
  · rw [decide_eq_false (by intro h; injection h with h _ _; exact hbc h)]
    refine Ev.step (fun k => ?_) ejt
    simp only [mullionref8_SameTree.f]
    rw [if_pos (by simp [hbc])]
theorem known_ev10 : Ev (fun k => mullionlaw9_known.f k) true := Ev.of (g := fun k => mullionlaw9_known.f k) (fun k => mullionlaw9_known.mono k) (k := 200) (by decide +kernel)
theorem few9_loop (l : List S27) (hl : l.length ≤ 9223372036854775807) : ∀ (d i : Nat), i + d = l.length → Ev (fun k => mullionlaw9_few.l0 k l (i : Int)) ((l.drop i).all (fun x => decide (x.f1.size ≤ 40)) && decide (l.length ≤ 500)) := by
  intro d
  induction d with
  | zero =>
    intro i hi
    refine Ev.once (fun k => ?_)
    simp only [mullionlaw9_few.l0]
    rw [if_neg (by omega), List.drop_of_length_le (by omega)]
    simp
    omega
  | succ d ih =>
    intro i hi
    have hil : i < l.length := by omega
    rw [List.drop_eq_getElem_cons hil, List.all_cons]
    by_cases h : l[i].f1.size ≤ 40
    · rw [decide_eq_true h, Bool.true_and]
      have w : wrap64 ((i : Int) + 1) = ((i + 1 : Nat) : Int) := by unfold wrap64; omega
      refine Ev.step (fun k => ?_) (ih (i + 1) (by omega))
      simp only [mullionlaw9_few.l0]
      rw [w, if_pos (by omega), if_pos (by omega), rd27 l i hil, if_neg (by omega)]
    · rw [decide_eq_false h, Bool.false_and]
      refine Ev.once (fun k => ?_)
      simp only [mullionlaw9_few.l0]
      rw [if_pos (by omega), if_pos (by omega), rd27 l i hil, if_pos (by omega), Bool.false_and]
theorem few9_ev (l : List S27) (hl : l.length ≤ 9223372036854775807) : Ev (fun k => mullionlaw9_few.f k l) (l.all (fun x => decide (x.f1.size ≤ 40)) && decide (l.length ≤ 500)) := by
  have e := few9_loop l hl l.length 0 (by omega)
  rw [List.drop_zero] at e
  exact Ev.congr (fun k => by unfold mullionlaw9_few.f; rfl) e
open Classical in
theorem rsame_self (t : S29) (h : thin t) : Ev (fun k => mullionref8_SameTree.f k t.f0 t.f1.f0 t.f1.f1 t.f2 t.f0 t.f1.f0 t.f1.f1 t.f2) true := by
  have e1 := rsame_ev t h t
  rw [decide_eq_true (rfl : t = t)] at e1
  exact e1
theorem all_self (l : List S29) (hl : l.length ≤ 1000000) (ht : ∀ t ∈ l, thin t) : Ev (fun k => mullionlaw9_sameAll.f k l l) true := by
  have loop : ∀ (ts pre : List S29), l = pre ++ ts → Ev (fun k => mullionlaw9_sameAll.l0 k l l (pre.length : Int)) true := by
    intro ts
    induction ts with
    | nil =>
      intro pre e
      refine Ev.once (fun k => ?_)
      simp only [mullionlaw9_sameAll.l0]
      rw [if_neg (by rw [e]; simp)]
    | cons t ts ih =>
      intro pre e
      have hpl : pre.length < l.length := by rw [e]; simp
      have hrd : rd_T29 l (pre.length : Int) = t := by rw [e]; exact rd29 pre ts t
      have ep : wrap64 ((pre.length : Int) + 1) = ((pre ++ [t]).length : Int) := by rw [wrapT _ (by omega)]; simp
      have e2 := ih (pre ++ [t]) (by rw [e]; simp)
      rw [← ep] at e2
      have e1 := rsame_self t (ht t (by rw [e]; simp))
      refine Ev.step (fun k => ?_) (Ev.bind (f := fun k b => if b = true then mullionlaw9_sameAll.l0 k l l (wrap64 ((pre.length : Int) + 1)) else some false) e1 (Ev.congr (fun k => by rw [if_pos rfl]) e2))
      simp only [mullionlaw9_sameAll.l0]
      rw [if_pos (by omega), if_pos (by omega), if_pos (by omega), hrd]
  refine Ev.congr (fun k => ?_) (loop l [] rfl)
  unfold mullionlaw9_sameAll.f
  rw [if_pos rfl]
  rfl
theorem TreeTells (l : List S27) (hl : l.length ≤ 9223372036854775807) : ∃ k, mullionlaw9_TreeTells.f k l = some true := by
  refine Ev.rounds ?_
  unfold mullionlaw9_TreeTells.f
  refine Ev.bind (f := fun k t538 => if t538 = true then ((mullionlaw9_few.f k l).bind fun t539 => (if t539 = true then ((tree_Read.f l).bind fun bt540 => ((mullionref8_Read.f k l).bind fun bt545 => ((mullionlaw9_sameAll.f k bt540.1 bt545.1).bind fun t550 => (if t550 = true then (if bt540.2.1 = bt545.2.1 then (some (bt540.2.2 == bt545.2.2)) else (none)) else (none))))) else (some true))) else (none)) known_ev10 ?_
  refine Ev.congr (fun k => by rw [if_pos rfl]) ?_
  refine Ev.bind (f := fun k t539 => if t539 = true then ((tree_Read.f l).bind fun bt540 => ((mullionref8_Read.f k l).bind fun bt545 => ((mullionlaw9_sameAll.f k bt540.1 bt545.1).bind fun t550 => (if t550 = true then (if bt540.2.1 = bt545.2.1 then (some (bt540.2.2 == bt545.2.2)) else (none)) else (none))))) else (some true)) (few9_ev l hl) ?_
  by_cases h : (l.all (fun x => decide (x.f1.size ≤ 40)) && decide (l.length ≤ 500)) = true
  · have h5 : l.length ≤ 500 := by
      rw [Bool.and_eq_true] at h
      exact of_decide_eq_true h.2
    obtain ⟨res, h1, h2, h3, h4⟩ := Read_same l (by omega)
    refine Ev.congr (fun k => by rw [if_pos h, h1, Option.bind_some]) ?_
    refine Ev.bind (f := fun k bt545 => (mullionlaw9_sameAll.f k res.1 bt545.1).bind fun t550 => (if t550 = true then (if res.2.1 = bt545.2.1 then (some (res.2.2 == bt545.2.2)) else (none)) else (none))) h2 ?_
    refine Ev.bind (f := fun k t550 => if t550 = true then (if res.2.1 = res.2.1 then (some (res.2.2 == res.2.2)) else (none)) else (none)) (all_self res.1 (by omega) h3) ?_
    exact Ev.once (fun k => by rw [if_pos rfl, if_pos rfl, beq_self_eq_true])
  · exact Ev.once (fun k => by rw [if_neg h])
end Go.Proofs.Ytegeleijdobmeaa.Pure
