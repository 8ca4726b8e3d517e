/- Trees: how many nodes there are, how deep, their words; what Count, Deep, Words, Same answer. -/
import Derived.Test.YtegeleijdobmeaaPAllx2
import Derived.Test.YtegeleijdobmeaaPAllx5
import Derived.Test.YtegeleijdobmeaaPAllx7
import Derived.Test.YtegeleijdobmeaaPAllx8
namespace Go.Proofs.Ytegeleijdobmeaa.Pure
open Go.RowKit Go.Proofs.Ytegeleijdobmeaa.PAll Go.Proofs.YtegeleijdobmeaaW.PrintWords Go.Proofs.YtegeleijdobmeaaW.PrintLast
set_option linter.unusedVariables false
theorem Ev.once {α : Type} {g : Nat → Option α} {r : α} (h : ∀ k, g (k + 1) = some r) : Ev g r := ⟨1, fun k hk => by
  obtain ⟨m, rfl⟩ : ∃ m, k = m + 1 := ⟨k - 1, by omega⟩
  exact h m⟩
theorem S29_ind {P : S29 → Prop} (h : ∀ b t l, (∀ x ∈ l, P x) → P ⟨b, t, l⟩) (t : S29) : P t := by
  refine S29.rec (motive_1 := P) (motive_2 := fun l => ∀ x ∈ l, P x) (fun b t l ih => h b t l ih) (fun x hx => by cases hx) (fun x xs hx hxs y hy => ?_) t
  rcases List.mem_cons.1 hy with rfl | hy
  · exact hx
  · exact hxs y hy
mutual
/-- How many nodes. -/
def siz : S29 → Nat
  | ⟨_, _, l⟩ => 1 + sizs l
def sizs : List S29 → Nat
  | [] => 0
  | t :: ts => siz t + sizs ts
end
mutual
/-- How many lists within one another. -/
def dep : S29 → Nat
  | ⟨b, _, l⟩ => if b = true then deps l + 1 else 0
def deps : List S29 → Nat
  | [] => 0
  | t :: ts => max (dep t) (deps ts)
end
mutual
/-- No list of kids is longer than a million. -/
def thin : S29 → Prop
  | ⟨_, _, l⟩ => l.length ≤ 1000000 ∧ thins l
def thins : List S29 → Prop
  | [] => True
  | t :: ts => thin t ∧ thins ts
end
def lft : S27 := ⟨1, ⟨#[]⟩⟩
def rgt : S27 := ⟨2, ⟨#[]⟩⟩
mutual
/-- The words. -/
def flat : S29 → List S27
  | ⟨b, t, l⟩ => if b = true then lft :: (flats l ++ [rgt]) else [t]
def flats : List S29 → List S27
  | [] => []
  | t :: ts => flat t ++ flats ts
end
theorem siz_pos (t : S29) : 1 ≤ siz t := by cases t; rw [siz]; omega
theorem sizs_len (l : List S29) : l.length ≤ sizs l := by
  induction l with
  | nil => simp [sizs]
  | cons t ts ih => rw [sizs, List.length_cons]; have := siz_pos t; omega
theorem sizs_app (l m : List S29) : sizs (l ++ m) = sizs l + sizs m := by
  induction l with
  | nil => simp [sizs]
  | cons t ts ih => rw [List.cons_append, sizs, sizs, ih]; omega
theorem deps_app (l m : List S29) : deps (l ++ m) = max (deps l) (deps m) := by
  induction l with
  | nil => simp [deps]
  | cons t ts ih => rw [List.cons_append, deps, deps, ih]; omega
theorem flats_app (l m : List S29) : flats (l ++ m) = flats l ++ flats m := by
  induction l with
  | nil => simp [flats]
  | cons t ts ih => rw [List.cons_append, flats, flats, ih, List.append_assoc]
theorem thins_mem (l : List S29) : thins l ↔ ∀ t ∈ l, thin t := by
  induction l with
  | nil => simp [thins]
  | cons t ts ih => rw [thins, ih]; simp
theorem sizs_mem {l : List S29} {t : S29} (h : t ∈ l) : siz t ≤ sizs l := by
  obtain ⟨a, b, rfl⟩ := List.append_of_mem h
  rw [sizs_app, sizs]; omega
theorem deps_mem {l : List S29} {t : S29} (h : t ∈ l) : dep t ≤ deps l := by
  obtain ⟨a, b, rfl⟩ := List.append_of_mem h
  rw [deps_app, deps]; omega
theorem thin_of_siz (t : S29) : siz t ≤ 1000000 → thin t := by
  induction t using S29_ind with
  | h b s l ih =>
    intro h
    rw [siz] at h
    rw [thin, thins_mem]
    exact ⟨by have := sizs_len l; omega, fun x hx => ih x hx (by have := sizs_mem hx; omega)⟩
theorem flat_len (t : S29) : (flat t).length ≤ 2 * siz t := by
  induction t using S29_ind with
  | h b s l ih =>
    have hl : (flats l).length ≤ 2 * sizs l := by
      clear b s
      induction l with
      | nil => simp [flats, sizs]
      | cons t ts iht =>
        rw [flats, sizs, List.length_append]
        have h1 := ih t (by simp)
        have h2 := iht (fun x hx => ih x (by simp [hx]))
        omega
    rw [flat, siz]
    split
    · simp; omega
    · simp; omega
theorem rd29 (pre ts : List S29) (t : S29) : rd_T29 (pre ++ t :: ts) (pre.length : Int) = t := by simp [rd_T29]
theorem wrapT (n : Nat) (h : n ≤ 5000000000) : wrap64 ((n : Int) + 1) = ((n + 1 : Nat) : Int) := by unfold wrap64; omega
/-! ### Count -/
theorem counted_ev (t : S29) : ∀ m : Nat, 1 ≤ m → m ≤ 1000 → Ev (fun k => tree_counted.f k t.f0 t.f1.f0 t.f1.f1 t.f2 (m : Int)) ((min (siz t) m : Nat) : Int) := by
  induction t using S29_ind with
  | h b s l ih =>
  intro m h1 hm
  have loop : ∀ (ts pre : List S29), l = pre ++ ts → ∀ n : Nat, 1 ≤ n → n ≤ m → pre.length < n → Ev (fun k => tree_counted.l0 k (m : Int) (n : Int) l (l.length : Int) (pre.length : Int)) ((min (n + sizs ts) m : Nat) : Int) := by
    intro ts
    induction ts with
    | nil =>
      intro pre e n hn1 hnm hp
      refine Ev.once (fun k => ?_)
      simp only [tree_counted.l0]
      rw [if_neg (by rw [e]; simp), sizs, Nat.add_zero, Nat.min_eq_left hnm]
    | cons t ts iht =>
      intro pre e n hn1 hnm hp
      have hl : pre.length < l.length := by rw [e]; simp
      have hrd : rd_T29 l (pre.length : Int) = t := by rw [e]; exact rd29 pre ts t
      by_cases hn2 : m ≤ n
      · refine Ev.once (fun k => ?_)
        simp only [tree_counted.l0]
        rw [if_pos (by omega), if_pos (by omega), if_pos (by omega), if_pos (by omega)]
        congr 1
        omega
      · have e1 := ih t (by rw [e]; simp) (m - n) (by omega) (by omega)
        have e2 := iht (pre ++ [t]) (by rw [e]; simp) (n + min (siz t) (m - n)) (by omega) (by omega) (by have := siz_pos t; simp; omega)
        have ew : wrap64 ((n : Int) + ((min (siz t) (m - n) : Nat) : Int)) = ((n + min (siz t) (m - n) : Nat) : Int) := by unfold wrap64; omega
        have ew1 : wrap64 ((m : Int) - (n : Int)) = ((m - n : Nat) : Int) := by unfold wrap64; omega
        have ep : wrap64 ((pre.length : Int) + 1) = ((pre ++ [t]).length : Int) := by rw [wrapT _ (by omega)]; simp
        have er : min (n + min (siz t) (m - n) + sizs ts) m = min (n + sizs (t :: ts)) m := by rw [sizs]; omega
        rw [er, ← ew, ← ep] at e2
        refine Ev.step (fun k => ?_) (Ev.bind (f := fun k q => tree_counted.l0 k (m : Int) (wrap64 ((n : Int) + q)) l (l.length : Int) (wrap64 ((pre.length : Int) + 1))) e1 e2)
        simp only [tree_counted.l0]
        rw [if_pos (by omega), if_pos (by omega), if_pos (by omega), if_neg (by omega), hrd, ew1]
  have h0 := loop l [] rfl 1 (by omega) h1 (by simp)
  rw [siz]
  refine Ev.step (fun k => ?_) h0
  simp only [tree_counted.f]
  rfl
theorem Count_ev (t : S29) : Ev (fun k => tree_Count.f k t.f0 t.f1.f0 t.f1.f1 t.f2) ((min (siz t) 401 : Nat) : Int) :=
  Ev.bind (counted_ev t 401 (by omega) (by omega)) (Ev.now _)
/-! ### Deep -/
theorem mx_nat (a b : Nat) : mx (a : Int) (b : Int) = ((max a b : Nat) : Int) := by unfold mx; split <;> omega
theorem mn_nat (a b : Nat) : mn (a : Int) (b : Int) = ((min a b : Nat) : Int) := by unfold mn; split <;> omega
theorem Deep_ev (t : S29) : thin t → Ev (fun k => tree_Deep.f k t.f0 t.f1.f0 t.f1.f1 t.f2) ((min (dep t) 61 : Nat) : Int) := by
  induction t using S29_ind with
  | h b s l ih =>
  intro hth
  rw [thin, thins_mem] at hth
  cases b with
  | false =>
    refine Ev.once (fun k => ?_)
    simp only [tree_Deep.f]
    rw [if_neg (by decide), dep]
    rfl
  | true =>
  have loop : ∀ (ts pre : List S29), l = pre ++ ts → Ev (fun k => tree_Deep.l0 k ((min (deps pre) 61 : Nat) : Int) l (l.length : Int) (pre.length : Int)) ((min (deps l + 1) 61 : Nat) : Int) := by
    intro ts
    induction ts with
    | nil =>
      intro pre e
      refine Ev.once (fun k => ?_)
      simp only [tree_Deep.l0]
      rw [if_neg (by rw [e]; simp), show (60 : Int) = ((60 : Nat) : Int) from rfl, mn_nat, wrapT _ (by omega)]
      congr 2
      rw [e, List.append_nil]
      omega
    | cons t ts iht =>
      intro pre e
      have hl : pre.length < l.length := by rw [e]; simp
      have hrd : rd_T29 l (pre.length : Int) = t := by rw [e]; exact rd29 pre ts t
      have e1 := ih t (by rw [e]; simp) (hth.2 t (by rw [e]; simp))
      have e2 := iht (pre ++ [t]) (by rw [e]; simp)
      have ed : min (deps (pre ++ [t])) 61 = max (min (deps pre) 61) (min (dep t) 61) := by rw [deps_app, deps, deps]; omega
      have ep : wrap64 ((pre.length : Int) + 1) = ((pre ++ [t]).length : Int) := by rw [wrapT _ (by have := hth.1; omega)]; simp
      rw [ed, ← mx_nat, ← ep] at e2
      refine Ev.step (fun k => ?_) (Ev.bind (f := fun k q => tree_Deep.l0 k (mx ((min (deps pre) 61 : Nat) : Int) q) l (l.length : Int) (wrap64 ((pre.length : Int) + 1))) e1 e2)
      simp only [tree_Deep.l0]
      rw [if_pos (by omega), if_pos (by omega), if_pos (by omega), hrd]
  have h0 := loop l [] rfl
  rw [dep, if_pos rfl]
  refine Ev.step (fun k => ?_) h0
  simp only [tree_Deep.f]
  rw [if_pos True.intro]
  rfl
/-! ### Words -/
theorem words_ev (t : S29) : ∀ L : List S27, L.length + (flat t).length ≤ 1000000000 → ∀ (ts : List S29) (r : List S27), Ev (fun k => wordsG (wordsF k) ts (L ++ flat t)) r → Ev (fun k => wordsG (wordsF k) (t :: ts) L) r := by
  induction t using S29_ind with
  | h b s l ih =>
  intro L hL ts r hr
  cases b with
  | false =>
    rw [flat, if_neg (by decide)] at hr hL
    refine Ev.congr (fun k => ?_) hr
    rw [wordsG, if_pos (by omega), if_neg Bool.false_ne_true]
  | true =>
    rw [flat, if_pos rfl] at hr hL
    have hl2 : L.length + (flats l).length + 2 ≤ 1000000000 := by simp at hL; omega
    have loop : ∀ (us : List S29) (M : List S27), (∀ x ∈ us, x ∈ l) → M.length + (flats us).length ≤ 1000000000 → Ev (fun k => wordsG (wordsF k) us M) (M ++ flats us) := by
      intro us
      induction us with
      | nil =>
        intro M _ _
        refine Ev.congr (fun k => ?_) (Ev.now _)
        rw [wordsG, flats, List.append_nil]
      | cons u us ihu =>
        intro M hm hM
        rw [flats, List.length_append] at hM
        refine ih u (hm u (by simp)) M (by omega) us _ ?_
        have h_ := ihu (M ++ flat u) (fun x hx => hm x (by simp [hx])) (by rw [List.length_append]; omega)
        rw [flats, ← List.append_assoc]
        exact h_
    have h1 := loop l (L ++ [lft]) (fun x hx => hx) (by simp; omega)
    have h1' : Ev (fun k => wordsF k l (L ++ [lft])) (L ++ [lft] ++ flats l) := Ev.step (fun k => by rw [wordsF]) h1
    have h2 : Ev (fun k => if (L ++ [lft] ++ flats l).length < 5864062014805 then wordsG (wordsF k) ts (L ++ [lft] ++ flats l ++ [rgt]) else none) r := by
      refine Ev.congr (fun k => ?_) hr
      rw [if_pos (by simp; omega)]
      congr 1
      simp
    refine Ev.congr (fun k => ?_) (Ev.bind (f := fun k q => if q.length < 5864062014805 then wordsG (wordsF k) ts (q ++ [rgt]) else none) h1' h2)
    rw [wordsG, if_pos (by omega), if_pos rfl]
    rfl
theorem Words_ev (t : S29) (h : (flat t).length ≤ 1000000000) : Ev (fun k => tree_Words.f k t.f0 t.f1.f0 t.f1.f1 t.f2) (flat t) := by
  have h1 := words_ev t [] (by simpa using h) [] (flat t) (Ev.congr (fun k => by rw [wordsG]; rfl) (Ev.now _))
  have he : (⟨t.f0, ⟨t.f1.f0, t.f1.f1⟩, t.f2⟩ : S29) = t := by cases t; rfl
  refine Ev.step (fun k => ?_) h1
  unfold tree_Words.f
  rw [he, wordsF]
/-! ### Same -/
open Classical in
theorem same_ev (a : S29) : ∀ b : S29, Ev (fun k => sameF k a b) (decide (a = b)) := by
  induction a using S29_ind with
  | h b s l ih =>
  rintro ⟨c, u, m⟩
  have loop : ∀ (ts us : List S29), (∀ x ∈ ts, x ∈ l) → ts.length = us.length → Ev (fun k => eqL (sameF k) ts us) (decide (ts = us)) := by
    intro ts
    induction ts with
    | nil =>
      intro us _ he
      cases us with
      | nil => exact Ev.congr (fun k => by rw [eqL]) (Ev.congr (fun k => by simp) (Ev.now true))
      | cons _ _ => simp at he
    | cons t ts iht =>
      intro us hm he
      cases us with
      | nil => simp at he
      | cons v us =>
        have e1 := ih t (hm t (by simp)) v
        have e2 := iht us (fun x hx => hm x (by simp [hx])) (by simpa using he)
        by_cases h : t = v
        · rw [decide_eq_true h] at e1
          have : decide (t :: ts = v :: us) = decide (ts = us) := by rw [h]; simp
          rw [this]
          refine Ev.congr (fun k => ?_) (Ev.bind e1 (f := fun k q => if q = true then eqL (sameF k) ts us else some false) (Ev.congr (fun k => by rw [if_pos rfl]) e2))
          rw [eqL]
        · rw [decide_eq_false h] at e1
          have : decide (t :: ts = v :: us) = false := by simp [h]
          rw [this]
          refine Ev.congr (fun k => ?_) (Ev.bind e1 (f := fun k q => if q = true then eqL (sameF k) ts us else some false) (Ev.congr (fun k => by rw [if_neg (by decide)]) (Ev.now _)))
          rw [eqL]
  by_cases hbc : b = c
  · by_cases hsu : s.f0 = u.f0 ∧ s.f1 = u.f1
    · have hsu2 : s = u := by cases s; cases u; simp at hsu; simp [hsu]
      by_cases hl : l.length = m.length
      · have hd : decide ((⟨b, s, l⟩ : S29) = ⟨c, u, m⟩) = decide (l = m) := by rw [hbc, hsu2]; simp
        rw [hd]
        refine Ev.step (fun k => ?_) (loop l m (fun _ h => h) hl)
        rw [sameF, if_pos hbc, if_pos hsu, if_pos hl]
      · refine Ev.once (fun k => ?_)
        rw [sameF, if_pos hbc, if_pos hsu, if_neg hl, decide_eq_false]
        intro h; injection h with _ _ h; rw [h] at hl; exact hl rfl
    · refine Ev.once (fun k => ?_)
      rw [sameF, if_pos hbc, if_neg hsu, decide_eq_false]
      intro h; injection h with _ h _; rw [h] at hsu; exact hsu ⟨rfl, rfl⟩
  · refine Ev.once (fun k => ?_)
    rw [sameF, if_neg hbc, decide_eq_false]
    intro h; injection h with h _ _; exact hbc h
end Go.Proofs.Ytegeleijdobmeaa.Pure
