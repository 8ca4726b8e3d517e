/- Words that can be read; a text that is read, step by step. -/
import Derived.Test.YtegeleijdobmeaaLexC
namespace Go.Proofs.Ytegeleijdobmeaa.Pure
open Go.RowKit Go.Proofs.Ytegeleijdobmeaa.PAll Go.Proofs.YtegeleijdobmeaaW.PrintWords Go.Proofs.YtegeleijdobmeaaW.PrintLast
set_option linter.unusedVariables false
theorem rpos {p : Int → Bool} {b : UInt8} {l : Bs} (h : p (b.toNat : Int) = true) : PAll.runN p (b :: l) = PAll.runN p l + 1 := by rw [PAll.runN, if_pos h]
theorem rzero {p : Int → Bool} {b : UInt8} {l : Bs} (h : p (b.toNat : Int) = false) : PAll.runN p (b :: l) = 0 := by rw [PAll.runN, if_neg (by rw [h]; simp)]
theorem dlet (c : Int) (h : digB c = true) : letB c = true := by unfold letB; rw [h]; simp
theorem run_app (p : Int → Bool) (a b : Bs) (h : PAll.runN p a = a.length) : PAll.runN p (a ++ b) = a.length + PAll.runN p b := by
  induction a with
  | nil => simp
  | cons c t ih =>
    cases hc : p (c.toNat : Int) with
    | true =>
      rw [rpos hc, List.length_cons] at h
      rw [List.cons_append, rpos hc, ih (by omega), List.length_cons]
      omega
    | false =>
      rw [rzero hc, List.length_cons] at h
      omega
theorem run_take (p : Int → Bool) (l : Bs) (j : Nat) (h : j ≤ PAll.runN p l) : PAll.runN p (l.take j) = j ∧ (l.take j).length = j := by
  induction j generalizing l with
  | zero => simp [PAll.runN]
  | succ j ih =>
    cases l with
    | nil => simp [PAll.runN] at h
    | cons c t =>
      cases hc : p (c.toNat : Int) with
      | true =>
        rw [rpos hc] at h
        obtain ⟨h1, h2⟩ := ih t (by omega)
        rw [List.take_succ_cons, rpos hc, List.length_cons]
        omega
      | false =>
        rw [rzero hc] at h
        omega
theorem run_rest (p : Int → Bool) (l : Bs) : PAll.runN p (l.drop (PAll.runN p l)) = 0 := by
  induction l with
  | nil => rfl
  | cons c t ih =>
    cases hc : p (c.toNat : Int) with
    | true => rw [rpos hc, List.drop_succ_cons]; exact ih
    | false => rw [rzero hc, List.drop_zero, rzero hc]
theorem run_full_drop (p : Int → Bool) (l : Bs) (h : PAll.runN p l = l.length) (j : Nat) : PAll.runN p (l.drop j) = (l.drop j).length := by
  induction j generalizing l with
  | zero => simpa using h
  | succ j ih =>
    cases l with
    | nil => simp [PAll.runN]
    | cons c t =>
      cases hc : p (c.toNat : Int) with
      | true =>
        rw [rpos hc, List.length_cons] at h
        rw [List.drop_succ_cons]
        exact ih t (by omega)
      | false =>
        rw [rzero hc, List.length_cons] at h
        omega
theorem let_dig0 (l : Bs) (h : PAll.runN letB l = 0) : PAll.runN digB l = 0 := by
  cases l with
  | nil => rfl
  | cons c t =>
    cases hc : digB (c.toNat : Int) with
    | true => rw [rpos (dlet _ hc)] at h; omega
    | false => exact rzero hc
theorem let_other : ∀ n : Nat, n < 256 → letB (n : Int) = true → n ≠ 40 ∧ n ≠ 41 ∧ n ≠ 58 ∧ n ≠ 59 ∧ blankB (n : Int) = false := by decide +kernel
theorem let_oth (c : UInt8) (h : letB (c.toNat : Int) = true) : c ≠ 40 ∧ c ≠ 41 ∧ c ≠ 58 ∧ c ≠ 59 ∧ blankB (c.toNat : Int) = false := by
  obtain ⟨h1, h2, h3, h4, h5⟩ := let_other c.toNat c.toNat_lt h
  exact ⟨fun e => h1 (by rw [e]; rfl), fun e => h2 (by rw [e]; rfl), fun e => h3 (by rw [e]; rfl), fun e => h4 (by rw [e]; rfl), h5⟩
theorem sym_parts {l : Bs} (h : symB l = true) : ∃ c t, l = c :: t ∧ l.length ≤ 20 ∧ digB (c.toNat : Int) = false ∧ PAll.runN letB l = l.length ∧ letB (c.toNat : Int) = true := by
  cases l with
  | nil => simp [symB] at h
  | cons c t =>
    unfold symB at h
    simp only [Bool.and_eq_true] at h
    have h3 : PAll.runN letB (c :: t) = (c :: t).length := beq_iff_eq.mp h.2
    refine ⟨c, t, rfl, of_decide_eq_true h.1.1, by simpa using h.1.2, h3, ?_⟩
    cases hc : letB (c.toNat : Int) with
    | true => rfl
    | false =>
      rw [rzero hc] at h3
      simp at h3
/-- A word that can be read. -/
inductive Val : S27 → Prop
  | left : Val (S 1 [])
  | right : Val (S 2 [])
  | num (c : UInt8) (t : Bs) : PAll.runN digB (c :: t) = (c :: t).length → ¬ (c = 48 ∧ (c :: t).length > 1) → Val (S 3 (c :: t))
  | sym (t : Bs) : symB t = true → Val (S 4 t)
  | key (t : Bs) : symB t = true → Val (S 5 t)
theorem w1 (l : Bs) : wtext (S 1 l) = [40] := rfl
theorem w2 (l : Bs) : wtext (S 2 l) = [41] := rfl
theorem w3 (l : Bs) : wtext (S 3 l) = l := rfl
theorem w4 (l : Bs) : wtext (S 4 l) = l := rfl
theorem w5 (l : Bs) : wtext (S 5 l) = 58 :: l := rfl
theorem tok_of {x : S27} (hx : Val x) (rest : Bs) (h : 2 < x.f0 → PAll.runN letB rest = 0) : tok (wtext x ++ rest) = some (x, (wtext x).length) := by
  cases hx with
  | left => rfl
  | right => rfl
  | num c t hn h0 =>
    have hr := h (by show (2 : Int) < 3; omega)
    rw [w3]
    have hd : digB (c.toNat : Int) = true := by
      cases hc : digB (c.toNat : Int) with
      | true => rfl
      | false => rw [rzero hc] at hn; simp at hn
    have hlet : PAll.runN letB (c :: t) = (c :: t).length := by
      have : ∀ l : Bs, PAll.runN digB l = l.length → PAll.runN letB l = l.length := by
        intro l
        induction l with
        | nil => intro _; rfl
        | cons a b ih =>
          intro hh
          cases hc : digB (a.toNat : Int) with
          | true =>
            rw [rpos hc, List.length_cons] at hh
            rw [rpos (dlet _ hc), ih (by omega), List.length_cons]
          | false => rw [rzero hc] at hh; simp at hh
      exact this _ hn
    have e1 := run_app digB (c :: t) rest hn
    have e2 := run_app letB (c :: t) rest hlet
    rw [let_dig0 rest hr, Nat.add_zero] at e1
    rw [hr, Nat.add_zero] at e2
    obtain ⟨n1, n2, n3, n4, n5⟩ := let_oth c (dlet _ hd)
    rw [List.cons_append] at e1 e2 ⊢
    rw [tok_cons, if_neg n1, if_neg n2, if_pos hd, e1, e2, if_pos ⟨rfl, h0⟩, ← List.cons_append, List.take_left']
    rfl
  | sym t hs =>
    have hr := h (by show (2 : Int) < 4; omega)
    rw [w4]
    obtain ⟨c, t', rfl, h20, hd, hn, hl⟩ := sym_parts hs
    have e2 := run_app letB (c :: t') rest hn
    rw [hr, Nat.add_zero] at e2
    obtain ⟨n1, n2, n3, n4, n5⟩ := let_oth c hl
    have htk : (c :: (t' ++ rest)).take (c :: t').length = c :: t' := by rw [← List.cons_append, List.take_left' rfl]
    rw [List.cons_append] at e2 ⊢
    rw [tok_cons, if_neg n1, if_neg n2, if_neg (by rw [hd]; simp), if_neg n3, e2, htk, if_pos hs]
  | key t hs =>
    have hr := h (by show (2 : Int) < 5; omega)
    rw [w5]
    obtain ⟨c, t', rfl, h20, hd, hn, hl⟩ := sym_parts hs
    have e2 := run_app letB (c :: t') rest hn
    rw [hr, Nat.add_zero] at e2
    have htk : ((c :: t') ++ rest).take (c :: t').length = c :: t' := List.take_left' rfl
    rw [List.cons_append, tok_cons, if_neg (by decide), if_neg (by decide), if_neg (by decide), if_pos rfl, e2, htk, if_pos hs, List.length_cons (a := 58), Nat.add_comm]
theorem tok_inv {l : Bs} {x : S27} {m : Nat} (h : tok l = some (x, m)) : Val x ∧ l = wtext x ++ l.drop m ∧ m = (wtext x).length ∧ (2 < x.f0 → PAll.runN letB (l.drop m) = 0) := by
  cases l with
  | nil => simp [tok] at h
  | cons c t =>
    rw [tok_cons] at h
    by_cases h1 : c = 40
    · rw [if_pos h1] at h
      injection h with h
      injection h with hx hm
      subst hx; subst hm; subst h1
      exact ⟨.left, rfl, rfl, fun h => absurd h (by show ¬ (2 : Int) < 1; omega)⟩
    rw [if_neg h1] at h
    by_cases h2 : c = 41
    · rw [if_pos h2] at h
      injection h with h
      injection h with hx hm
      subst hx; subst hm; subst h2
      exact ⟨.right, rfl, rfl, fun h => absurd h (by show ¬ (2 : Int) < 2; omega)⟩
    rw [if_neg h2] at h
    by_cases hd : digB (c.toNat : Int) = true
    · rw [if_pos hd] at h
      split at h
      · rename_i hok
        injection h with h
        injection h with hx hm
        subst hx; subst hm
        have hle := PAll.runN_le digB (c :: t)
        obtain ⟨e1, e2⟩ := run_take digB (c :: t) (PAll.runN digB (c :: t)) (Nat.le_refl _)
        have hpos : 1 ≤ PAll.runN digB (c :: t) := by rw [rpos hd]; omega
        have hc : (c :: t).take (PAll.runN digB (c :: t)) = c :: t.take (PAll.runN digB (c :: t) - 1) := by
          obtain ⟨j, hj⟩ : ∃ j, PAll.runN digB (c :: t) = j + 1 := ⟨PAll.runN digB (c :: t) - 1, by omega⟩
          rw [hj]; rfl
        refine ⟨?_, ?_, ?_, fun _ => ?_⟩
        · rw [hc] at e1 e2 ⊢
          exact .num c _ (by rw [e1, e2]) (by rw [e2]; exact hok.2)
        · rw [w3, List.take_append_drop]
        · rw [w3, e2]
        · rw [hok.1]; exact run_rest letB (c :: t)
      · cases h
    rw [if_neg hd] at h
    by_cases h3 : c = 58
    · rw [if_pos h3] at h
      split at h
      · rename_i hy
        injection h with h
        injection h with hx hm
        subst hx; subst hm
        obtain ⟨e1, e2⟩ := run_take letB t (PAll.runN letB t) (Nat.le_refl _)
        have hdr : (c :: t).drop (1 + PAll.runN letB t) = t.drop (PAll.runN letB t) := by rw [Nat.add_comm, List.drop_succ_cons]
        refine ⟨.key _ hy, ?_, ?_, fun _ => ?_⟩
        · rw [w5, hdr, List.cons_append, List.take_append_drop, h3]
        · rw [w5, List.length_cons, e2, Nat.add_comm]
        · rw [hdr]; exact run_rest letB t
      · cases h
    rw [if_neg h3] at h
    split at h
    · rename_i hy
      injection h with h
      injection h with hx hm
      subst hx; subst hm
      obtain ⟨e1, e2⟩ := run_take letB (c :: t) (PAll.runN letB (c :: t)) (Nat.le_refl _)
      refine ⟨.sym _ hy, ?_, ?_, fun _ => run_rest letB (c :: t)⟩
      · rw [w4, List.take_append_drop]
      · rw [w4, e2]
    · cases h
/-- A word's text: its first byte, what follows. -/
theorem val_head {x : S27} (hx : Val x) : ∃ c t, wtext x = c :: t ∧ blankB (c.toNat : Int) = false ∧ c ≠ 59 ∧ (2 < x.f0 → c ≠ 40 ∧ c ≠ 41 ∧ PAll.runN letB t = t.length) ∧ (¬ 2 < x.f0 → t = []) := by
  cases hx with
  | left => exact ⟨40, [], rfl, by decide, by decide, fun h => absurd h (by show ¬ (2 : Int) < 1; omega), fun _ => rfl⟩
  | right => exact ⟨41, [], rfl, by decide, by decide, fun h => absurd h (by show ¬ (2 : Int) < 2; omega), fun _ => rfl⟩
  | num c t hn h0 =>
    have hd : digB (c.toNat : Int) = true := by
      cases hc : digB (c.toNat : Int) with
      | true => rfl
      | false => rw [rzero hc] at hn; simp at hn
    obtain ⟨n1, n2, n3, n4, n5⟩ := let_oth c (dlet _ hd)
    refine ⟨c, t, rfl, n5, n4, fun _ => ⟨n1, n2, ?_⟩, fun h => absurd (show (2 : Int) < 3 by omega) h⟩
    have : ∀ l : Bs, PAll.runN digB l = l.length → PAll.runN letB l = l.length := by
      intro l
      induction l with
      | nil => intro _; rfl
      | cons a b ih =>
        intro hh
        cases hc : digB (a.toNat : Int) with
        | true =>
          rw [rpos hc, List.length_cons] at hh
          rw [rpos (dlet _ hc), ih (by omega), List.length_cons]
        | false => rw [rzero hc] at hh; simp at hh
    refine this t ?_
    rw [rpos hd, List.length_cons] at hn
    omega
  | sym t hs =>
    obtain ⟨c, t', rfl, h20, hd, hn, hl⟩ := sym_parts hs
    obtain ⟨n1, n2, n3, n4, n5⟩ := let_oth c hl
    refine ⟨c, t', rfl, n5, n4, fun _ => ⟨n1, n2, ?_⟩, fun h => absurd (show (2 : Int) < 4 by omega) h⟩
    rw [rpos hl, List.length_cons] at hn
    omega
  | key t hs =>
    obtain ⟨c, t', rfl, h20, hd, hn, hl⟩ := sym_parts hs
    exact ⟨58, c :: t', rfl, by decide, by decide, fun _ => ⟨by decide, by decide, hn⟩, fun h => absurd (show (2 : Int) < 5 by omega) h⟩
/-- A text is read to its end: its words. -/
inductive Sc : Bs → List S27 → Prop
  | nil : Sc [] []
  | blank (c : UInt8) (t : Bs) (L : List S27) : blankB (c.toNat : Int) = true → Sc t L → Sc (c :: t) L
  | rem (t : Bs) (L : List S27) : Sc ((59 :: t).drop (PAll.runN notnl (59 :: t))) L → Sc (59 :: t) L
  | tok (c : UInt8) (t : Bs) (x : S27) (m : Nat) (L : List S27) : blankB (c.toNat : Int) = false → c ≠ 59 → tok (c :: t) = some (x, m) → Sc ((c :: t).drop m) L → Sc (c :: t) (x :: L)
theorem sc_of_scan : ∀ (k : Nat) (l : Bs), l.length < k → (scanF k l).2 = none → Sc l (scanF k l).1 := by
  intro k
  induction k with
  | zero => intro l h; omega
  | succ k ih =>
    intro l hk h
    cases l with
    | nil => exact .nil
    | cons c t =>
      rw [List.length_cons] at hk
      rw [scanF] at h ⊢
      by_cases hb : blankB (c.toNat : Int) = true
      · rw [if_pos hb] at h ⊢
        exact .blank c t _ hb (ih t (by omega) (by simpa using h))
      rw [if_neg hb] at h ⊢
      by_cases h59 : c = 59
      · rw [if_pos h59] at h ⊢
        subst h59
        have hm := rem_pos t
        refine .rem t _ (ih _ (by rw [List.length_drop, List.length_cons]; omega) (by simpa using h))
      rw [if_neg h59] at h ⊢
      cases ht : tok (c :: t) with
      | none => rw [ht] at h; simp at h
      | some xm =>
        obtain ⟨x, m⟩ := xm
        rw [ht] at h
        have hm := tok_pos ht
        exact .tok c t x m _ (by simpa using hb) h59 ht (ih _ (by rw [List.length_drop, List.length_cons]; omega) (by simpa using h))
theorem scan_of_sc {l : Bs} {L : List S27} (h : Sc l L) : ∀ k, l.length < k → scanF k l = (L, none) := by
  induction h with
  | nil => intro k hk; cases k <;> rfl
  | blank c t L hb _ ih =>
    intro k hk
    obtain ⟨j, rfl⟩ : ∃ j, k = j + 1 := ⟨k - 1, by omega⟩
    rw [List.length_cons] at hk
    rw [scanF, if_pos hb, ih j (by omega)]
    rfl
  | rem t L _ ih =>
    intro k hk
    obtain ⟨j, rfl⟩ : ∃ j, k = j + 1 := ⟨k - 1, by omega⟩
    rw [List.length_cons] at hk
    have hm := rem_pos t
    rw [scanF, if_neg (by decide), if_pos rfl, ih j (by rw [List.length_drop, List.length_cons]; omega)]
    rfl
  | tok c t x m L hb h59 ht _ ih =>
    intro k hk
    obtain ⟨j, rfl⟩ : ∃ j, k = j + 1 := ⟨k - 1, by omega⟩
    rw [List.length_cons] at hk
    have hm := tok_pos ht
    rw [scanF, if_neg (by rw [hb]; simp), if_neg h59, ht]
    dsimp only
    rw [ih j (by rw [List.length_drop, List.length_cons]; omega)]
    rfl
theorem scan_err : ∀ (k : Nat) (l : Bs) (e : Nat), (scanF k l).2 = some e → e < l.length := by
  intro k
  induction k with
  | zero => intro l e h; simp [scanF] at h
  | succ k ih =>
    intro l e h
    cases l with
    | nil => simp [scanF] at h
    | cons c t =>
      rw [scanF] at h
      rw [List.length_cons]
      by_cases hb : blankB (c.toNat : Int) = true
      · rw [if_pos hb] at h
        obtain ⟨e2, he, hh⟩ := Option.map_eq_some_iff.mp h
        have := ih t e2 he
        omega
      rw [if_neg hb] at h
      by_cases h59 : c = 59
      · rw [if_pos h59] at h
        obtain ⟨e2, he, hh⟩ := Option.map_eq_some_iff.mp h
        have := ih _ e2 he
        rw [List.length_drop, List.length_cons] at this
        omega
      rw [if_neg h59] at h
      cases ht : tok (c :: t) with
      | none =>
        rw [ht] at h
        injection h with h
        omega
      | some xm =>
        obtain ⟨x, m⟩ := xm
        rw [ht] at h
        obtain ⟨e2, he, hh⟩ := Option.map_eq_some_iff.mp h
        have := ih _ e2 he
        rw [List.length_drop, List.length_cons] at this
        omega
/-- A word, then what follows. -/
theorem Sc.word {x : S27} (hx : Val x) {rest : Bs} {L : List S27} (h : 2 < x.f0 → PAll.runN letB rest = 0) (hr : Sc rest L) : Sc (wtext x ++ rest) (x :: L) := by
  obtain ⟨c, t, e, hb, h59, _⟩ := val_head hx
  have ht := tok_of hx rest h
  have hd : (wtext x ++ rest).drop (wtext x).length = rest := List.drop_left' rfl
  rw [e] at ht hd ⊢
  rw [List.cons_append] at ht hd ⊢
  exact .tok c (t ++ rest) x _ L hb h59 ht (by rw [hd]; exact hr)
theorem Sc.val {l : Bs} {L : List S27} (h : Sc l L) : ∀ x ∈ L, Val x := by
  induction h with
  | nil => intro x hx; cases hx
  | blank c t L hb _ ih => exact ih
  | rem t L _ ih => exact ih
  | tok c t x m L hb h59 ht _ ih =>
    intro y hy
    rcases List.mem_cons.1 hy with e | hy
    · rw [e]; exact (tok_inv ht).1
    · exact ih y hy
/-- The words' texts are not longer than the text. -/
theorem Sc.len {l : Bs} {L : List S27} (h : Sc l L) : (L.map (fun x => (wtext x).length)).sum ≤ l.length ∧ L.length ≤ l.length := by
  induction h with
  | nil => simp
  | blank c t L hb _ ih => rw [List.length_cons]; omega
  | rem t L _ ih => rw [List.length_drop] at ih; omega
  | tok c t x m L hb h59 ht _ ih =>
    have hm := tok_pos ht
    have hi := (tok_inv ht).2.2.1
    rw [List.length_drop] at ih
    rw [List.map_cons, List.sum_cons, List.length_cons (a := x)]
    omega
theorem tailJ0 (L : List S27) : PAll.runN letB (Lib.joinTail [32] (L.map wtext)) = 0 := by
  cases L with
  | nil => rfl
  | cons x t =>
    have : Lib.joinTail [32] ((x :: t).map wtext) = 32 :: (wtext x ++ Lib.joinTail [32] (t.map wtext)) := by simp [Lib.joinTail]
    rw [this]
    exact rzero (by decide)
theorem Sc.tail (L : List S27) (h : ∀ x ∈ L, Val x) : Sc (Lib.joinTail [32] (L.map wtext)) L := by
  induction L with
  | nil => exact .nil
  | cons x t ih =>
    have e : Lib.joinTail [32] ((x :: t).map wtext) = 32 :: (wtext x ++ Lib.joinTail [32] (t.map wtext)) := by simp [Lib.joinTail]
    rw [e]
    exact .blank 32 _ _ (by decide) (Sc.word (h x (by simp)) (fun _ => tailJ0 t) (ih (fun y hy => h y (by simp [hy]))))
/-- Words that are printed are read again. -/
theorem Sc.joined (L : List S27) (h : ∀ x ∈ L, Val x) : Sc (Pure.joined L) L := by
  cases L with
  | nil => exact .nil
  | cons x t =>
    unfold Pure.joined
    rw [List.map_cons, Lib.join_cons]
    exact Sc.word (h x (by simp)) (fun _ => tailJ0 t) (Sc.tail t (fun y hy => h y (by simp [hy])))
end Go.Proofs.Ytegeleijdobmeaa.Pure
