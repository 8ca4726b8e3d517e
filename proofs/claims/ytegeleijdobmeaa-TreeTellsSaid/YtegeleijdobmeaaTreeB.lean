/- Trees read out of their words: what tree.Read answers of the words of trees. -/
import Derived.Test.YtegeleijdobmeaaTreeA
namespace Go.Proofs.Ytegeleijdobmeaa.Pure
open Go.RowKit Go.Proofs.Ytegeleijdobmeaa.PAll Go.Proofs.YtegeleijdobmeaaW.PrintWords Go.Proofs.YtegeleijdobmeaaW.PrintLast
set_option linter.unusedVariables false
mutual
/-- Lists bear no word, leaves a word that is no parenthesis and no kids. -/
def shp : S29 → Prop
  | ⟨b, t, l⟩ => if b = true then t = z27 ∧ shps l else l = [] ∧ 3 ≤ t.f0 ∧ t.f0 ≤ 5
def shps : List S29 → Prop
  | [] => True
  | t :: ts => shp t ∧ shps ts
end
theorem shps_mem (l : List S29) : shps l ↔ ∀ t ∈ l, shp t := by
  induction l with
  | nil => simp [shps]
  | cons t ts ih => rw [shps, ih]; simp
/-- No list is longer than what memory holds by far. -/
def Fit (M : List (List S29)) : Prop := M.length ≤ 900000 ∧ ∀ r ∈ M, r.length ≤ 1000000000
theorem lastOf_snoc (M : List (List S29)) (c : List S29) : lastOf (M ++ [c]) = c := by
  unfold lastOf
  rw [List.getD_eq_getElem?_getD, List.length_append, List.length_singleton, Nat.add_sub_cancel, List.getElem?_append_right (Nat.le_refl _)]
  simp
theorem take_snoc (M : List (List S29)) (c : List S29) : (M ++ [c]).take ((M ++ [c]).length - 1) = M := by
  rw [List.length_append, List.length_singleton, Nat.add_sub_cancel, List.take_left]
theorem set_snoc (M : List (List S29)) (c d : List S29) : (M ++ [c]).set ((M ++ [c]).length - 1) d = M ++ [d] := by
  rw [List.length_append, List.length_singleton, Nat.add_sub_cancel, List.set_append_right _ _ (Nat.le_refl _), Nat.sub_self]
  rfl
theorem lastOf_fit {M : List (List S29)} (h : Fit M) : (lastOf M).length < 2513169434915 := by
  unfold lastOf
  rw [List.getD_eq_getElem?_getD]
  cases e : M[M.length - 1]? with
  | none => simp
  | some r =>
    have := h.2 r (List.mem_of_getElem? e)
    simp
    omega
theorem n0_snoc (M : List (List S29)) (c : List S29) (n : Int) : rdN0 (M ++ [c]) n = if M = [] then 0 else n := by
  unfold rdN0
  cases M with
  | nil => simp
  | cons a b => simp
theorem gate_snoc {M : List (List S29)} {c : List S29} (hM : Fit M) (hc : c.length ≤ 2000000000) : 0 < (M ++ [c]).length ∧ (M ++ [c]).length ≤ 1000000 ∧ (lastOf (M ++ [c])).length < 2513169434915 ∧ (lastOf ((M ++ [c]).take ((M ++ [c]).length - 1))).length < 2513169434915 := by
  rw [take_snoc, lastOf_snoc]
  refine ⟨by simp, ?_, by omega, lastOf_fit hM⟩
  have := hM.1
  simp
  omega
theorem takes_word {M : List (List S29)} {c : List S29} {n n0 : Int} {t : S27} (hM : Fit M) (hc : c.length ≤ 2000000000) (hn : rdN0 (M ++ [c]) n = n0) (h0 : 0 ≤ n0) (h1 : n0 + 1 ≤ 400) (ht : 3 ≤ t.f0) (ht2 : t.f0 ≤ 5) :
    takesF (M ++ [c]) n t = some (M ++ [c ++ [⟨false, t, []⟩]], n0 + 1, 0) := by
  have hn1 : rdN1 (M ++ [c]) n t = n0 + 1 := by
    unfold rdN1
    rw [if_neg (by omega), hn]
    unfold wrap64
    omega
  unfold takesF
  rw [if_pos (gate_snoc hM hc), if_neg (by omega), if_neg (by omega), hn1, if_neg (by omega), if_neg (by omega), if_neg (by omega), lastOf_snoc, set_snoc]
theorem takes_left {M : List (List S29)} {c : List S29} {n n0 : Int} (hM : Fit M) (hc : c.length ≤ 2000000000) (hn : rdN0 (M ++ [c]) n = n0) (h0 : 0 ≤ n0) (h1 : n0 + 1 ≤ 400) (hl : M.length < 60) :
    takesF (M ++ [c]) n lft = some (M ++ [c] ++ [[]], n0 + 1, 0) := by
  have hn1 : rdN1 (M ++ [c]) n lft = n0 + 1 := by
    unfold rdN1
    rw [if_neg (by decide), hn]
    unfold wrap64
    omega
  unfold takesF
  rw [if_pos (gate_snoc hM hc), if_neg (show ¬ (lft.f0 < 1 ∨ lft.f0 > 5 ∨ (lft.f0 = 2 ∧ (M ++ [c]).length = 1)) by rintro (h | h | ⟨h, _⟩) <;> simp [lft] at h), if_neg (by simp; omega), hn1, if_neg (by omega), if_pos (by rfl)]
theorem takes_right {M : List (List S29)} {c d : List S29} {n : Int} (hM : Fit (M ++ [d])) (hc : c.length ≤ 2000000000) (h1 : n ≤ 400) :
    takesF (M ++ [d] ++ [c]) n rgt = some (M ++ [d ++ [⟨true, z27, c⟩]], n, 0) := by
  have hl1 : ¬ (M ++ [d] ++ [c]).length = 1 := by simp
  have hn1 : rdN1 (M ++ [d] ++ [c]) n rgt = n := by
    unfold rdN1 rdN0
    rw [if_pos (by rfl), if_neg hl1]
  have h2 : rgt.f0 = 2 := rfl
  unfold takesF
  rw [if_pos (gate_snoc hM hc), h2, if_neg (by omega), if_neg (by omega), hn1, if_neg (by omega), if_neg (by omega), if_pos rfl, take_snoc, lastOf_snoc, lastOf_snoc]
  have e : (M ++ [d] ++ [c]).length - 2 = (M ++ [d]).length - 1 := by simp
  rw [e, set_snoc]
theorem readG_step {m : Int} {t : S27} {ts : List S27} {i : Int} {L L2 : List (List S29)} {n n2 : Int} (h : takesF L n t = some (L2, n2, 0)) : readG m (t :: ts) i L n = readG m ts (i + 1) L2 n2 := by
  rw [readG, h]
  rfl
/-- A tree's words are read: it stands in the innermost list. -/
theorem read_tree (t : S29) : ∀ (M : List (List S29)) (c : List S29) (n n0 : Int) (ts : List S27) (i m : Int), shp t → Fit M → c.length ≤ 1000000000 → rdN0 (M ++ [c]) n = n0 → 0 ≤ n0 → n0 + siz t ≤ 400 → M.length + dep t ≤ 60 →
    readG m (flat t ++ ts) i (M ++ [c]) n = readG m ts (i + ((flat t).length : Int)) (M ++ [c ++ [t]]) (n0 + siz t) := by
  induction t using S29_ind with
  | h b s l ih =>
  intro M c n n0 ts i m hs hM hc hn h0 h1 hd
  rw [shp] at hs
  rw [siz] at h1 ⊢
  rw [dep] at hd
  cases b with
  | false =>
    rw [if_neg Bool.false_ne_true] at hs
    obtain ⟨rfl, hs1, hs2⟩ := hs
    rw [flat, if_neg Bool.false_ne_true, List.cons_append, List.nil_append, readG_step (takes_word hM (by omega) hn h0 (by rw [sizs] at h1; omega) hs1 hs2), sizs]
    rfl
  | true =>
    rw [if_pos rfl] at hs hd
    obtain ⟨rfl, hs⟩ := hs
    rw [shps_mem] at hs
    have hF : Fit (M ++ [c]) := ⟨by simp; omega, fun r hr => by
      rcases List.mem_append.1 hr with hr | hr
      · exact hM.2 r hr
      · simp at hr; rw [hr]; exact hc⟩
    have hsl := sizs_len l
    have loop : ∀ (us vs : List S29), l = vs ++ us → ∀ (ws : List S27) (j : Int), readG m (flats us ++ ws) j (M ++ [c] ++ [vs]) (n0 + 1 + sizs vs) = readG m ws (j + ((flats us).length : Int)) (M ++ [c] ++ [l]) (n0 + 1 + sizs l) := by
      intro us
      induction us with
      | nil =>
        intro vs e ws j
        rw [List.append_nil] at e
        rw [e, flats]
        simp
      | cons u us ihu =>
        intro vs e ws j
        have hul : u ∈ l := by rw [e]; simp
        have hsz : sizs l = sizs vs + (siz u + sizs us) := by rw [e, sizs_app, sizs]
        have hvl : vs.length ≤ l.length := by rw [e]; simp
        have h2 := ih u hul (M ++ [c]) vs (n0 + 1 + sizs vs) (n0 + 1 + sizs vs) (flats us ++ ws) j m (hs u hul) hF (by omega) (by rw [n0_snoc, if_neg (by simp)]) (by omega) (by omega) (by have := deps_mem hul; simp; omega)
        rw [flats, List.append_assoc, h2]
        have h3 := ihu (vs ++ [u]) (by rw [e]; simp) ws (j + ((flat u).length : Int))
        have e1 : sizs (vs ++ [u]) = sizs vs + siz u := by rw [sizs_app, sizs, sizs]; omega
        rw [e1] at h3
        have e2 : n0 + 1 + (sizs vs : Int) + (siz u : Int) = n0 + 1 + ((sizs vs + siz u : Nat) : Int) := by omega
        have e3 : j + ((flat u).length : Int) + ((flats us).length : Int) = j + ((flat u ++ flats us).length : Int) := by rw [List.length_append]; omega
        rw [e2, h3, e3]
    have h2 := loop l [] rfl (rgt :: ts) (i + 1)
    have e4 : n0 + 1 + ((sizs ([] : List S29) : Nat) : Int) = n0 + 1 := by rw [sizs]; omega
    rw [e4] at h2
    rw [flat, if_pos rfl, List.cons_append, readG_step (takes_left hM (by omega) hn h0 (by omega) (by omega)), List.append_assoc, List.cons_append, List.nil_append, h2, readG_step (takes_right hF (by omega) (by omega))]
    have e5 : i + 1 + ((flats l).length : Int) + 1 = i + ((lft :: (flats l ++ [rgt])).length : Int) := by simp; omega
    have e6 : n0 + 1 + (sizs l : Int) = n0 + ((1 + sizs l : Nat) : Int) := by omega
    rw [e5, e6]
/-- What is told of a tree that is read. -/
def good (t : S29) : Prop := shp t ∧ siz t ≤ 400 ∧ dep t ≤ 60
theorem read_trees (us : List S29) : ∀ (c : List S29) (n i m : Int), (∀ t ∈ us, good t) → c.length + us.length ≤ 1000000000 → ∃ n2, readG m (flats us) i [c] n = readG m [] (i + ((flats us).length : Int)) [c ++ us] n2 := by
  induction us with
  | nil =>
    intro c n i m _ _
    exact ⟨n, by rw [flats]; simp⟩
  | cons u us ih =>
    intro c n i m hg hl
    obtain ⟨h1, h2, h3⟩ := hg u (by simp)
    rw [List.length_cons] at hl
    have e := read_tree u [] c n 0 (flats us) i m h1 ⟨by simp, by simp⟩ (by omega) (by rw [n0_snoc, if_pos rfl]) (by omega) (by omega) (by simp; omega)
    obtain ⟨n2, h4⟩ := ih (c ++ [u]) (0 + (siz u : Int)) (i + ((flat u).length : Int)) m (fun t ht => hg t (by simp [ht])) (by simp; omega)
    refine ⟨n2, ?_⟩
    rw [List.nil_append, List.nil_append] at e
    rw [flats, e, h4, List.length_append]
    congr 1
    · push_cast; omega
    · simp
/-- Trees are read out of their words. -/
theorem Read_trees (us : List S29) (hg : ∀ t ∈ us, good t) (hl : us.length ≤ 1000000000) : tree_Read.f (flats us) = some (us, ((flats us).length : Int), 0) := by
  unfold tree_Read.f
  obtain ⟨n2, h⟩ := read_trees us [] 0 0 (flats us).length hg (by simpa using hl)
  rw [h, readG]
  simp [lastOf]
theorem Read_tree (t : S29) (h : good t) : tree_Read.f (flat t) = some ([t], ((flat t).length : Int), 0) := by
  have e := Read_trees [t] (by simpa using h) (by simp)
  simpa [flats] using e
/-- The words of a list without the last one. -/
theorem Read_short (t : S27) (l : List S29) (h : good ⟨true, t, l⟩) : tree_Read.f (lft :: flats l) = some ([], ((lft :: flats l).length : Int), 13) := by
  obtain ⟨hs, h1, hd⟩ := h
  rw [shp, if_pos rfl, shps_mem] at hs
  rw [siz] at h1
  rw [dep, if_pos rfl] at hd
  obtain ⟨rfl, hs⟩ := hs
  have hsl := sizs_len l
  have loop : ∀ (us vs : List S29), l = vs ++ us → ∀ (j m : Int), readG m (flats us) j ([[], vs]) (1 + sizs vs) = readG m [] (j + ((flats us).length : Int)) [[], l] (1 + sizs l) := by
    intro us
    induction us with
    | nil =>
      intro vs e j m
      rw [List.append_nil] at e
      rw [e, flats]
      simp
    | cons u us ihu =>
      intro vs e j m
      have hul : u ∈ l := by rw [e]; simp
      have hsz : sizs l = sizs vs + (siz u + sizs us) := by rw [e, sizs_app, sizs]
      have hvl : vs.length ≤ l.length := by rw [e]; simp
      have h2 := read_tree u [[]] vs (1 + sizs vs) (1 + sizs vs) (flats us) j m (hs u hul) ⟨by simp, by simp⟩ (by omega) (by rw [n0_snoc, if_neg (by simp)]) (by omega) (by omega) (by have := deps_mem hul; simp; omega)
      have h3 := ihu (vs ++ [u]) (by rw [e]; simp) (j + ((flat u).length : Int)) m
      have e1 : sizs (vs ++ [u]) = sizs vs + siz u := by rw [sizs_app, sizs, sizs]; omega
      rw [e1] at h3
      have e2 : 1 + (sizs vs : Int) + (siz u : Int) = 1 + ((sizs vs + siz u : Nat) : Int) := by omega
      have e3 : j + ((flat u).length : Int) + ((flats us).length : Int) = j + ((flat u ++ flats us).length : Int) := by rw [List.length_append]; omega
      rw [flats]
      rw [List.singleton_append, List.singleton_append, e2] at h2
      rw [h2, h3, e3]
  unfold tree_Read.f
  have e0 := takes_left (M := []) (c := []) (n := 0) (n0 := 0) ⟨by simp, by simp⟩ (by simp) (by rw [n0_snoc, if_pos rfl]) (by omega) (by omega) (by simp)
  rw [List.nil_append] at e0
  rw [readG_step e0]
  have h2 := loop l [] rfl (0 + 1) ((lft :: flats l).length : Int)
  have e4 : 1 + ((sizs ([] : List S29) : Nat) : Int) = 0 + 1 := by rw [sizs]; omega
  rw [e4] at h2
  rw [List.singleton_append, h2, readG]
  simp
end Go.Proofs.Ytegeleijdobmeaa.Pure
