/- The reader with its open lists and the document's reader, which calls itself, answer the same of every row of words. -/
import Derived.Test.YtegeleijdobmeaaTreeB
import Derived.Test.YtegeleijdobmeaaRG
namespace Go.Proofs.Ytegeleijdobmeaa.Pure
open Go.RowKit Go.Proofs.Ytegeleijdobmeaa.PAll Go.Proofs.YtegeleijdobmeaaW.PrintWords Go.Proofs.YtegeleijdobmeaaW.PrintLast
set_option linter.unusedVariables false
theorem takes_left2 {M : List (List S29)} {c : List S29} {n n0 : Int} {t : S27} (ht : t.f0 = 1) (hM : Fit M) (hc : c.length ≤ 2000000000) (hn : rdN0 (M ++ [c]) n = n0) (h0 : 0 ≤ n0) (h1 : n0 + 1 ≤ 400) (hl : M.length < 60) :
    takesF (M ++ [c]) n t = some (M ++ [c] ++ [[]], n0 + 1, 0) := by
  have hn1 : rdN1 (M ++ [c]) n t = n0 + 1 := by
    unfold rdN1
    rw [if_neg (by omega), hn]
    unfold wrap64
    omega
  unfold takesF
  rw [if_pos (gate_snoc hM hc), if_neg (by omega), if_neg (by simp; omega), hn1, if_neg (by omega), if_pos ht]
theorem takes_right2 {M : List (List S29)} {c d : List S29} {n : Int} {t : S27} (ht : t.f0 = 2) (hM : Fit (M ++ [d])) (hc : c.length ≤ 2000000000) (h1 : n ≤ 400) :
    takesF (M ++ [d] ++ [c]) n t = some (M ++ [d ++ [⟨true, z27, c⟩]], n, 0) := by
  have hl1 : ¬ (M ++ [d] ++ [c]).length = 1 := by simp
  have hn1 : rdN1 (M ++ [d] ++ [c]) n t = n := by
    unfold rdN1 rdN0
    rw [if_pos ht, if_neg hl1]
  unfold takesF
  rw [if_pos (gate_snoc hM hc), if_neg (by omega), if_neg (by omega), hn1, if_neg (by omega), if_neg (by omega), if_pos ht, take_snoc, lastOf_snoc, lastOf_snoc]
  have e : (M ++ [d] ++ [c]).length - 2 = (M ++ [d]).length - 1 := by simp
  rw [e, set_snoc]
theorem takes_form {M : List (List S29)} {c : List S29} {n : Int} {t : S27} (hM : Fit M) (hc : c.length ≤ 2000000000) (h : t.f0 < 1 ∨ t.f0 > 5 ∨ (t.f0 = 2 ∧ M = [])) : takesF (M ++ [c]) n t = some (M ++ [c], rdN1 (M ++ [c]) n t, 10) := by
  unfold takesF
  rw [if_pos (gate_snoc hM hc), if_pos (h.imp id (fun h => h.imp id (fun h => ⟨h.1, by rw [h.2]; rfl⟩)))]
theorem takes_deep {M : List (List S29)} {c : List S29} {n : Int} {t : S27} (hM : Fit M) (hc : c.length ≤ 2000000000) (ht : t.f0 = 1) (hl : 60 ≤ M.length) : takesF (M ++ [c]) n t = some (M ++ [c], rdN1 (M ++ [c]) n t, 15) := by
  unfold takesF
  rw [if_pos (gate_snoc hM hc), if_neg (by omega), if_pos ⟨ht, by simp; omega⟩]
theorem takes_large {M : List (List S29)} {c : List S29} {n n0 : Int} {t : S27} (hM : Fit M) (hc : c.length ≤ 2000000000) (h1 : 1 ≤ t.f0) (h5 : t.f0 ≤ 5) (h2 : t.f0 ≠ 2) (hd : ¬ (t.f0 = 1 ∧ 60 ≤ M.length)) (hn : rdN0 (M ++ [c]) n = n0) (h0 : 400 ≤ n0) (h9 : n0 ≤ 1000) : takesF (M ++ [c]) n t = some (M ++ [c], rdN1 (M ++ [c]) n t, 11) := by
  have hn1 : rdN1 (M ++ [c]) n t = n0 + 1 := by
    unfold rdN1
    rw [if_neg h2, hn]
    unfold wrap64
    omega
  unfold takesF
  rw [if_pos (gate_snoc hM hc), if_neg (by omega), if_neg (by rintro ⟨h3, h4⟩; exact hd ⟨h3, by simp at h4; omega⟩), if_pos (by omega)]
theorem readG_err {m : Int} {t : S27} {ts : List S27} {i : Int} {L L2 : List (List S29)} {n n2 e : Int} (h : takesF L n t = some (L2, n2, e)) (he : e ≠ 0) : readG m (t :: ts) i L n = some ([], i, e) := by
  rw [readG, h]
  simp only [Option.bind_some]
  rw [if_neg he]
theorem rd27d (l : List S27) (a : Nat) (h : a < l.length) : l.drop a = rd_T27 l (a : Int) :: l.drop (a + 1) := by
  rw [List.drop_eq_getElem_cons h]
  simp [rd_T27, h]
/-- What the document's tree answers from word a on, and the reader with its open lists. -/
def Sim (l : List S27) (a n : Nat) (M : List (List S29)) (c : List S29) (nn : Int) (q : Option (S29 × Int × Int × Int)) : Prop :=
  ∃ (T : S29) (a' n' : Nat) (e' : Int), q = some (T, (a' : Int), (n' : Int), e') ∧ a ≤ a' ∧ a' ≤ l.length ∧
    (e' = 0 → a < a' ∧ n' = n + siz T ∧ n' ≤ 400 ∧ readG (l.length : Int) (l.drop a) (a : Int) (M ++ [c]) nn = readG (l.length : Int) (l.drop a') (a' : Int) (M ++ [c ++ [T]]) (n' : Int)) ∧
    (e' ≠ 0 → readG (l.length : Int) (l.drop a) (a : Int) (M ++ [c]) nn = some ([], (a' : Int), e'))
theorem sim (l : List S27) (hl : l.length ≤ 100000) : ∀ (k a : Nat) (M : List (List S29)) (c : List S29) (nn : Int) (n : Nat), l.length + 3 ≤ k + a → a ≤ l.length → (∀ r ∈ M, r.length ≤ a) → M.length ≤ 60 → c.length ≤ a → rdN0 (M ++ [c]) nn = (n : Int) → n ≤ 400 →
    (M = [] → a < l.length) → (M ≠ [] → a < l.length → (rd_T27 l (a : Int)).f0 ≠ 2) → Sim l a n M c nn (treeF k l (M.length : Int) (a : Int) (n : Int) 0) := by
  intro k
  induction k with
  | zero => intro a M c nn n h1 h2; omega
  | succ k ih =>
  intro a M c nn n hk ha hM hM6 hc hn hn4 hM0 hM2
  have hF : Fit M := ⟨by omega, fun r hr => by have := hM r hr; omega⟩
  rw [treeF]
  by_cases hal : a = l.length
  · have hne : M ≠ [] := fun e => by have := hM0 e; omega
    rw [if_pos (by omega), if_pos rfl]
    refine ⟨z29, a, n, 13, rfl, Nat.le_refl _, ha, fun h => absurd h (by decide), fun _ => ?_⟩
    rw [List.drop_of_length_le (by omega), readG, if_pos (by simp), if_pos (by have := List.length_pos_iff.mpr hne; simp; omega), hal]
  · have hlt : a < l.length := by omega
    rw [if_neg (by omega), if_pos ⟨by omega, by omega⟩]
    unfold Sim
    rw [rd27d l a hlt]
    obtain ⟨t, ht⟩ : ∃ t, t = rd_T27 l (a : Int) := ⟨_, rfl⟩
    rw [← ht] at hM2 ⊢
    have ea : wrap64 ((a : Int) + 1) = ((a + 1 : Nat) : Int) := wrapT _ (by omega)
    have en : wrap64 ((n : Int) + 1) = ((n + 1 : Nat) : Int) := wrapT _ (by omega)
    by_cases h1 : t.f0 < 1 ∨ t.f0 > 5 ∨ t.f0 = 2
    · rw [if_pos h1, if_pos rfl]
      refine ⟨z29, a, n, 10, rfl, Nat.le_refl _, ha, fun h => absurd h (by decide), fun _ => ?_⟩
      refine readG_err (takes_form hF (by omega) (h1.imp id (fun h => h.imp id (fun h => ⟨h, ?_⟩)))) (by decide)
      exact Classical.byContradiction fun hne => hM2 hne hlt h
    rw [if_neg h1]
    by_cases h2 : t.f0 = 1 ∧ 60 ≤ (M.length : Int)
    · rw [if_pos h2, if_pos rfl]
      exact ⟨z29, a, n, 15, rfl, Nat.le_refl _, ha, fun h => absurd h (by decide), fun _ => readG_err (takes_deep hF (by omega) h2.1 (by omega)) (by decide)⟩
    rw [if_neg h2]
    by_cases h3 : 400 ≤ (n : Int)
    · rw [if_pos h3, if_pos rfl]
      exact ⟨z29, a, n, 11, rfl, Nat.le_refl _, ha, fun h => absurd h (by decide), fun _ => readG_err (takes_large hF (by omega) (by omega) (by omega) (by omega) (fun h => h2 ⟨h.1, by omega⟩) hn (by omega) (by omega)) (by decide)⟩
    rw [if_neg h3, ea, en]
    by_cases h4 : t.f0 = 1
    · rw [if_pos h4]
      have hM60 : M.length < 60 := Classical.byContradiction fun h => h2 ⟨h4, by omega⟩
      have ei : wrap64 ((M.length : Int) + 1) = ((M ++ [c]).length : Int) := by rw [wrapT _ (by omega)]; simp
      rw [ei]
      have hstep : readG (l.length : Int) (t :: l.drop (a + 1)) (a : Int) (M ++ [c]) nn = readG (l.length : Int) (l.drop (a + 1)) ((a + 1 : Nat) : Int) (M ++ [c] ++ [[]]) ((n + 1 : Nat) : Int) := by
        rw [readG_step (takes_left2 h4 hF (by omega) hn (by omega) (by omega) hM60)]
        rfl
      have hF2 : Fit (M ++ [c]) := ⟨by simp; omega, fun r hr => by
        rcases List.mem_append.1 hr with hr | hr
        · have := hM r hr; omega
        · simp at hr; rw [hr]; omega⟩
      have kids : ∀ (r a1 n1 : Nat) (ks : List S29), l.length + 2 ≤ r + a1 → a1 ≤ l.length → a + 1 ≤ a1 → ks.length ≤ a1 → n1 = n + 1 + sizs ks → n1 ≤ 400 →
          ∃ (T : S29) (a' n' : Nat) (e' : Int), rdKids (treeF k l ((M ++ [c]).length : Int)) l r (a1 : Int) (n1 : Int) 0 ks = some (T, (a' : Int), (n' : Int), e') ∧ a1 ≤ a' ∧ a' ≤ l.length ∧
            (e' = 0 → a < a' ∧ n' = n + siz T ∧ n' ≤ 400 ∧ readG (l.length : Int) (l.drop a1) (a1 : Int) (M ++ [c] ++ [ks]) (n1 : Int) = readG (l.length : Int) (l.drop a') (a' : Int) (M ++ [c ++ [T]]) (n' : Int)) ∧
            (e' ≠ 0 → readG (l.length : Int) (l.drop a1) (a1 : Int) (M ++ [c] ++ [ks]) (n1 : Int) = some ([], (a' : Int), e')) := by
        intro r
        induction r with
        | zero => intro a1 n1 ks h5 h6; omega
        | succ r ihr =>
          intro a1 n1 ks h5 h6 h7 h8 h9 h10
          have sub : (a1 < l.length → (rd_T27 l (a1 : Int)).f0 ≠ 2) → ∃ (T : S29) (a' n' : Nat) (e' : Int), ((treeF k l ((M ++ [c]).length : Int) (a1 : Int) (n1 : Int) 0).bind fun s => rdKids (treeF k l ((M ++ [c]).length : Int)) l r s.2.1 s.2.2.1 s.2.2.2 (ks ++ [s.1])) = some (T, (a' : Int), (n' : Int), e') ∧ a1 ≤ a' ∧ a' ≤ l.length ∧
              (e' = 0 → a < a' ∧ n' = n + siz T ∧ n' ≤ 400 ∧ readG (l.length : Int) (l.drop a1) (a1 : Int) (M ++ [c] ++ [ks]) (n1 : Int) = readG (l.length : Int) (l.drop a') (a' : Int) (M ++ [c ++ [T]]) (n' : Int)) ∧
              (e' ≠ 0 → readG (l.length : Int) (l.drop a1) (a1 : Int) (M ++ [c] ++ [ks]) (n1 : Int) = some ([], (a' : Int), e')) := by
            intro hk2
            have hsim := ih a1 (M ++ [c]) ks (n1 : Int) n1 (by omega) h6 (fun r hr => by
              rcases List.mem_append.1 hr with hr | hr
              · have := hM r hr; omega
              · simp at hr; rw [hr]; omega) (by simp; omega) h8 (by rw [n0_snoc, if_neg (by simp)]) h10 (fun h => by simp at h) (fun _ h => hk2 h)
            obtain ⟨T1, a2, n2, e2, hq, g1, g2, g3, g4⟩ := hsim
            rw [hq, Option.bind_some]
            by_cases he : e2 = 0
            · subst he
              obtain ⟨f1, f2, f3, f4⟩ := g3 rfl
              obtain ⟨T, a', n', e', hr1, hr2, hr3, hr4, hr5⟩ := ihr a2 n2 (ks ++ [T1]) (by omega) g2 (by omega) (by simp; omega) (by rw [sizs_app, sizs, sizs]; omega) f3
              exact ⟨T, a', n', e', hr1, by omega, hr3, fun h => by rw [f4]; exact hr4 h, fun h => by rw [f4]; exact hr5 h⟩
            · cases r with
              | zero => omega
              | succ r =>
                refine ⟨z29, a2, n2, e2, ?_, g1, g2, fun h => absurd h he, fun _ => g4 he⟩
                rw [rdKids, if_neg he]
          rw [rdKids, if_pos rfl]
          by_cases ha1 : a1 < l.length
          · rw [if_pos (by omega), if_pos (by omega)]
            by_cases hc2 : (rd_T27 l (a1 : Int)).f0 = 2
            · rw [if_pos hc2]
              refine ⟨⟨true, z27, ks⟩, a1 + 1, n1, 0, by rw [wrapT _ (by omega)], by omega, by omega, fun _ => ⟨by omega, by rw [siz]; omega, h10, ?_⟩, fun h => absurd rfl h⟩
              rw [rd27d l a1 ha1, readG_step (takes_right2 hc2 hF2 (by omega) (by omega))]
              rfl
            · rw [if_neg hc2, if_pos (by omega)]
              exact sub (fun _ => hc2)
          · rw [if_neg (by omega), if_pos (by omega)]
            exact sub (fun h => absurd h ha1)
      obtain ⟨T, a', n', e', hr1, hr2, hr3, hr4, hr5⟩ := kids k (a + 1) (n + 1) [] (by omega) (by omega) (by omega) (by simp) (by rw [sizs]) (by omega)
      exact ⟨T, a', n', e', hr1, by omega, hr3, fun h => by rw [hstep]; exact hr4 h, fun h => by rw [hstep]; exact hr5 h⟩
    · rw [if_neg h4]
      refine ⟨⟨false, t, []⟩, a + 1, n + 1, 0, rfl, by omega, by omega, fun _ => ⟨by omega, by rw [siz, sizs], by omega, ?_⟩, fun h => absurd rfl h⟩
      rw [readG_step (takes_word hF (by omega) hn (by omega) (by omega) (by omega) (by omega))]
      rfl
/-- Both readers, from word a on, no list open. -/
theorem sim_all (l : List S27) (hl : l.length ≤ 100000) (k : Nat) (hk : l.length + 3 ≤ k) : ∀ (r a : Nat) (out : List S29), l.length + 1 ≤ r + a → a ≤ l.length → out.length ≤ a → (∀ t ∈ out, thin t) →
    ∃ res : List S29 × Int × Int, rdAll k l r (a : Int) 0 out = some res ∧ (∀ nn, readG (l.length : Int) (l.drop a) (a : Int) [out] nn = some res) ∧ (∀ t ∈ res.1, thin t) ∧ res.1.length ≤ l.length := by
  intro r
  induction r with
  | zero => intro a out h1 h2; omega
  | succ r ih =>
    intro a out h1 h2 h3 h4
    rw [rdAll]
    by_cases ha : a < l.length
    · rw [if_pos (by omega)]
      have key : ∀ nn, Sim l a 0 [] out nn (treeF k l 0 (a : Int) 0 0) := fun nn => sim l hl k a [] out nn 0 (by omega) h2 (by simp) (by simp) h3 (by rw [n0_snoc, if_pos rfl]; rfl) (by omega) (fun _ => ha) (fun h => absurd rfl h)
      obtain ⟨T, a', n', e', hq, g1, g2, g3, g4⟩ := key 0
      have key2 : ∀ nn, (e' = 0 → readG (l.length : Int) (l.drop a) (a : Int) [out] nn = readG (l.length : Int) (l.drop a') (a' : Int) [out ++ [T]] (n' : Int)) ∧ (e' ≠ 0 → readG (l.length : Int) (l.drop a) (a : Int) [out] nn = some ([], (a' : Int), e')) := by
        intro nn
        obtain ⟨T2, a2, n2, e2, hq2, _, _, k3, k4⟩ := key nn
        rw [hq] at hq2
        injection hq2 with hq2
        injection hq2 with hT hq2
        injection hq2 with ha2 hq2
        injection hq2 with hn2 he2
        have ha3 : a' = a2 := by omega
        have hn3 : n' = n2 := by omega
        subst hT ha3 hn3 he2
        exact ⟨fun h => (k3 h).2.2.2, fun h => k4 h⟩
      rw [hq, Option.bind_some]
      by_cases he : e' = 0
      · subst he
        obtain ⟨f1, f2, f3, _⟩ := g3 rfl
        obtain ⟨res, hr1, hr2, hr3, hr4⟩ := ih a' (out ++ [T]) (by omega) g2 (by simp; omega) (fun t ht => by
          rcases List.mem_append.1 ht with ht | ht
          · exact h4 t ht
          · simp at ht; rw [ht]; exact thin_of_siz T (by omega))
        refine ⟨res, ?_, fun nn => by rw [(key2 nn).1 rfl]; exact hr2 _, hr3, hr4⟩
        simp only
        rw [if_neg (by simp), if_pos (by omega)]
        exact hr1
      · refine ⟨([], (a' : Int), e'), ?_, fun nn => (key2 nn).2 he, by simp, by simp⟩
        simp only
        rw [if_pos he]
    · have hal : a = l.length := by omega
      rw [if_neg (by omega)]
      refine ⟨(out, (a : Int), 0), rfl, fun nn => ?_, h4, by simp only; omega⟩
      rw [List.drop_of_length_le (by omega), readG, if_pos (by simp), if_neg (by simp), hal]
      rfl
theorem Read_same (l : List S27) (hl : l.length ≤ 100000) : ∃ res : List S29 × Int × Int, tree_Read.f l = some res ∧ Ev (fun k => mullionref8_Read.f k l) res ∧ (∀ t ∈ res.1, thin t) ∧ res.1.length ≤ l.length := by
  obtain ⟨res, h1, h2, h3, h4⟩ := sim_all l hl (l.length + 3) (Nat.le_refl _) (l.length + 3) 0 [] (by omega) (by omega) (by simp) (by simp)
  refine ⟨res, ?_, Ev.of (g := fun k => mullionref8_Read.f k l) (fun k => mullionref8_Read.mono l k) (k := l.length + 3) h1, h3, h4⟩
  have h5 := h2 0
  rw [List.drop_zero] at h5
  exact h5
end Go.Proofs.Ytegeleijdobmeaa.Pure
