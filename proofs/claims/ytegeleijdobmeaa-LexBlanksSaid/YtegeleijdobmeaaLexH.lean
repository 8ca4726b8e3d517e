/- A beginning of a text has no more words; how long words' texts are. -/
import Derived.Test.YtegeleijdobmeaaLexG
namespace Go.Proofs.Ytegeleijdobmeaa.Pure
open Go.RowKit Go.Proofs.Ytegeleijdobmeaa.PAll Go.Proofs.YtegeleijdobmeaaW.PrintWords Go.Proofs.YtegeleijdobmeaaW.PrintLast
set_option linter.unusedVariables false
theorem Sc.nil_inv {L : List S27} (h : Sc [] L) : L = [] := by cases h; rfl
theorem run_take_min (p : Int → Bool) (l : Bs) (c : Nat) : PAll.runN p (l.take c) = min c (PAll.runN p l) := by
  induction l generalizing c with
  | nil => simp [PAll.runN]
  | cons a t ih =>
    cases c with
    | zero => simp [PAll.runN]
    | succ c =>
      cases hc : p (a.toNat : Int) with
      | true => rw [List.take_succ_cons, rpos hc, rpos hc, ih c]; omega
      | false => rw [List.take_succ_cons, rzero hc, rzero hc]; omega
/-- A beginning of a text has no more words. -/
theorem Sc.begin {l : Bs} {L : List S27} (h : Sc l L) : ∀ (c : Nat) (A : List S27), Sc (l.take c) A → A.length ≤ L.length := by
  induction h with
  | nil =>
    intro c A hA
    rw [List.take_nil] at hA
    rw [hA.nil_inv]
    exact Nat.le_refl _
  | blank a t L hb _ ih =>
    intro c A hA
    cases c with
    | zero => rw [List.take_zero] at hA; rw [hA.nil_inv]; exact Nat.zero_le _
    | succ c =>
      rw [List.take_succ_cons] at hA
      cases hA with
      | blank _ _ _ _ h2 => exact ih c A h2
      | rem _ _ _ => exact absurd hb (by decide)
      | tok _ _ _ _ _ hb2 _ _ _ => rw [hb] at hb2; cases hb2
  | rem t L _ ih =>
    intro c A hA
    cases c with
    | zero => rw [List.take_zero] at hA; rw [hA.nil_inv]; exact Nat.zero_le _
    | succ c =>
      have ht : (59 :: t : Bs).take (c + 1) = 59 :: t.take c := List.take_succ_cons
      rw [ht] at hA
      cases hA with
      | blank _ _ _ hb2 _ => exact absurd hb2 (by decide)
      | rem _ _ h2 =>
        rw [← ht, run_take_min] at h2
        by_cases hc : c + 1 ≤ PAll.runN notnl (59 :: t)
        · rw [Nat.min_eq_left hc, List.drop_of_length_le (by rw [List.length_take]; omega)] at h2
          rw [h2.nil_inv]
          exact Nat.zero_le _
        · rw [Nat.min_eq_right (by omega), List.drop_take] at h2
          exact ih _ A h2
      | tok _ _ _ _ _ _ h59 _ _ => exact absurd rfl h59
  | tok a t x m L hb h59 ht _ ih =>
    intro c A hA
    obtain ⟨hx, hl, hm, hr⟩ := tok_inv ht
    have hmp := tok_pos ht
    cases c with
    | zero => rw [List.take_zero] at hA; rw [hA.nil_inv]; exact Nat.zero_le _
    | succ c =>
      have htk : (a :: t).take (c + 1) = a :: t.take c := List.take_succ_cons
      rw [htk] at hA
      cases hA with
      | blank _ _ _ hb2 _ => rw [hb] at hb2; cases hb2
      | rem _ _ _ => exact absurd rfl h59
      | tok _ _ y m2 L2 _ _ ht2 h2 =>
        rw [← htk] at ht2 h2
        by_cases hc : m ≤ c + 1
        · have e : (a :: t).take (c + 1) = wtext x ++ ((a :: t).drop m).take (c + 1 - m) := by
            have e0 : (wtext x ++ (a :: t).drop m).take (c + 1) = wtext x ++ ((a :: t).drop m).take (c + 1 - m) := by
              rw [List.take_append, List.take_of_length_le (by omega), hm]
            rw [← hl] at e0
            exact e0
          have e2 := tok_of hx (((a :: t).drop m).take (c + 1 - m)) (fun h => by rw [run_take_min, hr h]; omega)
          rw [← e, ht2] at e2
          injection e2 with e2
          injection e2 with e3 e4
          subst e3
          rw [← hm] at e4
          subst e4
          rw [List.drop_take] at h2
          have := ih _ L2 h2
          rw [List.length_cons, List.length_cons]
          omega
        · obtain ⟨hy, hl2, hm2, hr2⟩ := tok_inv ht2
          obtain ⟨c1, t1, ex, _, _, g1, g2⟩ := val_head hx
          obtain ⟨c2, t2, ey, _, _, g3, g4⟩ := val_head hy
          have ea : c1 = a := by
            rw [ex, List.cons_append] at hl
            injection hl with hl _
            exact hl.symm
          have eb : c2 = a := by
            rw [htk, ey, List.cons_append] at hl2
            injection hl2 with hl2 _
            exact hl2.symm
          have hx2 : 2 < x.f0 := by
            by_cases h : 2 < x.f0
            · exact h
            · have := g2 h
              rw [ex, this] at hm
              simp at hm
              omega
          obtain ⟨n1, n2, n3⟩ := g1 hx2
          have hy2 : 2 < y.f0 := by
            by_cases h : 2 < y.f0
            · exact h
            · exfalso
              cases hy with
              | left => rw [w1] at ey; injection ey with ey _; exact n1 (by rw [ea, ← eb, ← ey])
              | right => rw [w2] at ey; injection ey with ey _; exact n2 (by rw [ea, ← eb, ← ey])
              | num c t _ _ => exact h (by show (2 : Int) < 3; omega)
              | sym t _ => exact h (by show (2 : Int) < 4; omega)
              | key t _ => exact h (by show (2 : Int) < 5; omega)
          have hlet : PAll.runN letB (t.take c) = (t.take c).length := by
            have : t.take c = t1.take c := by
              rw [ex, List.cons_append] at hl
              injection hl with _ hl
              rw [hl, List.take_append_of_le_length (by rw [ex, List.length_cons] at hm; omega)]
            rw [this, run_take_min, n3, List.length_take]
          have hz := hr2 hy2
          have hm2p : 1 ≤ m2 := by rw [hm2, ey, List.length_cons]; omega
          obtain ⟨j, rfl⟩ : ∃ j, m2 = j + 1 := ⟨m2 - 1, by omega⟩
          rw [htk, List.drop_succ_cons, run_full_drop letB _ hlet] at hz
          rw [htk, List.drop_succ_cons] at h2
          have hn : (t.take c).drop j = [] := List.eq_nil_of_length_eq_zero hz
          rw [hn] at h2
          rw [h2.nil_inv, List.length_cons, List.length_cons, List.length_nil]
          omega
theorem joined_le (L : List S27) : (joined L).length ≤ (L.map (fun x => (wtext x).length)).sum + L.length := by
  have ht : ∀ m : List S27, (Lib.joinTail [32] (m.map wtext)).length = (m.map (fun x => (wtext x).length)).sum + m.length := by
    intro m
    induction m with
    | nil => rfl
    | cons y r ih =>
      have e : Lib.joinTail [32] ((y :: r).map wtext) = 32 :: (wtext y ++ Lib.joinTail [32] (r.map wtext)) := by simp [Lib.joinTail]
      rw [e, List.length_cons, List.length_append, ih, List.map_cons, List.sum_cons, List.length_cons]
      omega
  cases L with
  | nil => simp [joined, Lib.join_nil]
  | cons x t =>
    unfold joined
    rw [List.map_cons, Lib.join_cons, List.length_append, ht t, List.map_cons, List.sum_cons, List.length_cons]
    omega
theorem val_size {x : S27} (h : Val x) : x.f1.size ≤ (wtext x).length := by
  cases h with
  | left => exact Nat.zero_le _
  | right => exact Nat.zero_le _
  | num c t _ _ => exact Nat.le_refl _
  | sym t _ => exact Nat.le_refl _
  | key t _ => exact Nat.le_succ _
theorem sum_mem (L : List S27) (x : S27) (h : x ∈ L) : (wtext x).length ≤ (L.map (fun x => (wtext x).length)).sum := by
  induction L with
  | nil => cases h
  | cons y r ih =>
    rw [List.map_cons, List.sum_cons]
    rcases List.mem_cons.1 h with e | h
    · rw [e]; omega
    · have := ih h; omega
end Go.Proofs.Ytegeleijdobmeaa.Pure
