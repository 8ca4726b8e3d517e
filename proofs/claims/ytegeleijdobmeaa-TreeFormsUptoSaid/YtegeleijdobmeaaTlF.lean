/- The document's Words, Print, Same: what they answer. -/
import Derived.Test.YtegeleijdobmeaaTlE
import Derived.Test.YtegeleijdobmeaaPAllx8
import Derived.Test.YtegeleijdobmeaaPAllx16
namespace Go.Proofs.Ytegeleijdobmeaa.Pure
open Go.RowKit Go.Proofs.Ytegeleijdobmeaa.PAll Go.Proofs.YtegeleijdobmeaaW.PrintWords Go.Proofs.YtegeleijdobmeaaW.PrintLast
set_option linter.unusedVariables false
theorem rem_loop (s : ByteArray) (hs : s.size ≤ 100000) (out : List S27) (r : List S27 × Int × Int) : ∀ (d i : Nat), i + d = s.size → Ev (fun K => mullionref8_Words.l0 K s out ((i + PAll.runN notnl ((T s).drop i) : Nat) : Int)) r →
    Ev (fun K => mullionref8_Words.l1 K s out (i : Int)) r := by
  intro d
  induction d with
  | zero =>
    intro i hi he
    rw [List.drop_of_length_le (by rw [T_len]; omega)] at he
    refine Ev.step (fun K => ?_) he
    simp only [mullionref8_Words.l1]
    rw [if_neg (by omega)]
    rfl
  | succ d ih =>
    intro i hi he
    have hil : i < (T s).length := by rw [T_len]; omega
    have hd := List.drop_eq_getElem_cons hil
    obtain ⟨z, hz⟩ : ∃ z, (T s)[i] = z := ⟨_, rfl⟩
    rw [hz] at hd
    have hb := bt_at' hd
    rw [T_len] at hil
    rw [hd] at he
    cases hn : notnl (z.toNat : Int) with
    | true =>
      rw [runN_pos hn, show i + (PAll.runN notnl ((T s).drop (i + 1)) + 1) = i + 1 + PAll.runN notnl ((T s).drop (i + 1)) by omega] at he
      have hne : ¬ (z.toNat : Int) = 10 := by
        intro h
        rw [h] at hn
        exact absurd hn (by decide)
      refine Ev.step (fun K => ?_) (ih (i + 1) (by omega) he)
      simp only [mullionref8_Words.l1]
      rw [if_pos (by omega), if_pos (by omega), hb, if_neg hne, wrapS i (by omega)]
    | false =>
      rw [runN_zero hn] at he
      have he10 : (z.toNat : Int) = 10 := by
        unfold notnl at hn
        simpa using hn
      refine Ev.step (fun K => ?_) he
      simp only [mullionref8_Words.l1]
      rw [if_pos (by omega), if_pos (by omega), hb, if_pos he10]
      rfl
theorem refWords_loop (s : ByteArray) (hs : s.size ≤ 4100) : ∀ (k at_ : Nat) (out : List S27), s.size - at_ < k → at_ ≤ s.size → out.length ≤ at_ →
    Ev (fun K => mullionref8_Words.l0 K s out (at_ : Int)) (resW out at_ s.size (scanF k ((T s).drop at_))) := by
  intro k
  induction k with
  | zero => intro at_ out h; omega
  | succ k ih =>
    intro at_ out hk hat hout
    cases hl : (T s).drop at_ with
    | nil =>
      have hlen := congrArg List.length hl
      rw [List.length_drop, T_len, List.length_nil] at hlen
      have he : at_ = s.size := by omega
      refine Ev.one (fun K => ?_)
      simp only [mullionref8_Words.l0]
      rw [if_neg (by omega), scanF, he]
      simp [resW]
    | cons c t =>
      have hlen := congrArg List.length hl
      rw [List.length_drop, T_len, List.length_cons] at hlen
      have hb := bt_at' hl
      have hdrop : ∀ m : Nat, (T s).drop (at_ + m) = (c :: t).drop m := fun m => by rw [← hl, List.drop_drop]
      have c1 : (at_ : Int) < (s.size : Int) := by omega
      have c2 : (0 : Int) ≤ (at_ : Int) := by omega
      have hhead : ∀ r, Ev (fun K => mullionref8_Words.j1 K s out (at_ : Int) (c.toNat : Int) (blankB (c.toNat : Int))) r → Ev (fun K => mullionref8_Words.l0 K s out (at_ : Int)) r := by
        intro r he
        refine Ev.step (fun K => ?_) he
        simp only [mullionref8_Words.l0]
        rw [if_pos c1, if_pos c2, hb]
        unfold blankB
        by_cases g1 : (c.toNat : Int) = 32
        · rw [if_pos g1, g1]; rfl
        rw [if_neg g1]
        by_cases g2 : (c.toNat : Int) = 9
        · rw [if_pos g2, g2]; rfl
        rw [if_neg g2]
        by_cases g3 : (c.toNat : Int) = 10
        · rw [if_pos g3, g3]; rfl
        rw [if_neg g3, beq_eq_false_iff_ne.mpr g1, beq_eq_false_iff_ne.mpr g2, beq_eq_false_iff_ne.mpr g3]
        simp
      refine hhead _ ?_
      rw [scanF]
      by_cases hbl : blankB (c.toNat : Int) = true
      · rw [if_pos hbl, hbl]
        have e := ih (at_ + 1) out (by omega) (by omega) (by omega)
        rw [hdrop 1] at e
        have e2 := resW_shift out at_ 1 s.size [] (scanF k t)
        rw [List.append_nil] at e2
        rw [show ((scanF k t).1, Option.map (fun x => x + 1) (scanF k t).2) = ([] ++ (scanF k t).1, Option.map (fun x => x + 1) (scanF k t).2) from rfl, e2]
        refine Ev.step (fun K => ?_) e
        simp only [mullionref8_Words.j1]
        rw [if_pos (by trivial), show wrap64 ((at_ : Int) + 1) = ((at_ + 1 : Nat) : Int) from wrapN at_ 1 (by omega)]
      · have hbl' : blankB (c.toNat : Int) = false := by simpa using hbl
        rw [if_neg hbl, hbl']
        by_cases h59 : c = 59
        · rw [if_pos h59]
          have hm := rem_pos t
          have hm2 := PAll.runN_le notnl (c :: t)
          rw [← h59] at hm
          have hlc : (c :: t).length = t.length + 1 := List.length_cons
          have e := ih (at_ + PAll.runN notnl (c :: t)) out (by omega) (by omega) (by omega)
          rw [hdrop] at e
          have e2 := resW_shift out at_ (PAll.runN notnl (c :: t)) s.size [] (scanF k ((c :: t).drop (PAll.runN notnl (c :: t))))
          rw [List.append_nil] at e2
          rw [List.nil_append] at e2
          rw [e2]
          rw [← hl] at e
          have e3 := rem_loop s (by omega) out _ (s.size - at_) at_ (by omega) e
          rw [hl] at e3
          refine Ev.step (fun K => ?_) e3
          simp only [mullionref8_Words.j1]
          rw [if_neg (by simp), if_pos (by rw [h59]; rfl)]
        · rw [if_neg h59]
          have n59 : ¬ ((c.toNat : Int) = 59) := fun h => h59 ((toInt_eq c 59 (by omega)).mp h)
          obtain ⟨o1, o2⟩ := one_ev s (by omega) at_ c t hl
          cases ht : tok (c :: t) with
          | none =>
            obtain ⟨a, b, e, ho⟩ := o2 ht
            refine Ev.step (f := fun K => (mullionref8_one.f K s (at_ : Int)).bind fun bt179 => (if bt179.2.2.2 = true then (if out.length < 5864062014805 then (mullionref8_Words.l0 K s (out ++ [(⟨bt179.1, bt179.2.1⟩ : S27)]) bt179.2.2.1) else (none)) else (some (([] : List (S27)), (at_ : Int), 14)))) (fun K => ?_) (Ev.bind ho ?_)
            · simp only [mullionref8_Words.j1]
              rw [if_neg (by simp), if_neg n59]
            · simp [resW]
              exact Ev.now _
          | some xm =>
            obtain ⟨x, m⟩ := xm
            obtain ⟨hm1, hm2⟩ := tok_pos ht
            have hlc : (c :: t).length = t.length + 1 := List.length_cons
            have ho := o1 x m ht
            have e := ih (at_ + m) (out ++ [x]) (by omega) (by omega) (by rw [List.length_append, List.length_singleton]; omega)
            rw [hdrop] at e
            have e2 := resW_shift out at_ m s.size [x] (scanF k ((c :: t).drop m))
            rw [show [x] ++ (scanF k ((c :: t).drop m)).1 = x :: (scanF k ((c :: t).drop m)).1 from rfl] at e2
            dsimp only
            rw [e2]
            refine Ev.step (f := fun K => (mullionref8_one.f K s (at_ : Int)).bind fun bt179 => (if bt179.2.2.2 = true then (if out.length < 5864062014805 then (mullionref8_Words.l0 K s (out ++ [(⟨bt179.1, bt179.2.1⟩ : S27)]) bt179.2.2.1) else (none)) else (some (([] : List (S27)), (at_ : Int), 14)))) (fun K => ?_) (Ev.bind ho ?_)
            · simp only [mullionref8_Words.j1]
              rw [if_neg (by simp), if_neg n59]
            · have c6 : out.length < 5864062014805 := by omega
              simp only [if_true, if_pos c6]
              exact e
theorem refWords_ev (s : ByteArray) (hs : s.size ≤ 4000) : Ev (fun K => mullionref8_Words.f K s) (resW [] 0 s.size (scanF (s.size + 1) (T s))) := by
  have e := refWords_loop s (by omega) (s.size + 1) 0 [] (by omega) (by omega) (by simp)
  rw [List.drop_zero] at e
  refine Ev.congr (fun K => ?_) e
  unfold mullionref8_Words.f
  rw [if_neg (by omega)]
  rfl
theorem refWords_big (s : ByteArray) (hs : 4000 < s.size) : Ev (fun K => mullionref8_Words.f K s) ([], 0, 11) := by
  refine Ev.one (fun K => ?_)
  unfold mullionref8_Words.f
  rw [if_pos (by omega)]
/-- Rows that are alike. -/
theorem refSame_loop (a b : List S27) (hl : a.length = b.length) (hb : a.length ≤ 100000) : ∀ (d i : Nat), i + d = a.length → Ev (fun k => mullionref8_Same.l0 k a b (i : Int)) (decide (a.drop i = b.drop i)) := by
  intro d
  induction d with
  | zero =>
    intro i hi
    refine Ev.one (fun k => ?_)
    simp only [mullionref8_Same.l0]
    rw [if_neg (by omega), List.drop_of_length_le (by omega), List.drop_of_length_le (by omega)]
    rfl
  | succ d ih =>
    intro i hi
    have ha1 : i < a.length := by omega
    have hb1 : i < b.length := by omega
    have hd := eq_drop ha1 hb1
    by_cases he : a[i] = b[i]
    · have e := ih (i + 1) (by omega)
      have e2 : decide (a.drop i = b.drop i) = decide (a.drop (i + 1) = b.drop (i + 1)) := by
        rw [decide_eq_decide, hd]
        exact ⟨fun h => h.2, fun h => ⟨he, h⟩⟩
      rw [e2]
      refine Ev.step (fun k => ?_) e
      simp only [mullionref8_Same.l0]
      rw [if_pos (by omega), if_pos (by omega), if_pos (by omega), rd27 a i ha1, rd27 b i hb1, ne_tok, decide_eq_true he, if_neg (by simp), wrapS i (by omega)]
    · have e2 : decide (a.drop i = b.drop i) = false := by
        rw [decide_eq_false_iff_not, hd]
        exact fun h => he h.1
      rw [e2]
      refine Ev.one (fun k => ?_)
      simp only [mullionref8_Same.l0]
      rw [if_pos (by omega), if_pos (by omega), if_pos (by omega), rd27 a i ha1, rd27 b i hb1, ne_tok, decide_eq_false he, if_pos (by simp)]
theorem refSame_ev (a b : List S27) (hb : a.length ≤ 100000) : Ev (fun k => mullionref8_Same.f k a b) (decide (a = b)) := by
  by_cases hl : a.length = b.length
  · have e := refSame_loop a b hl hb a.length 0 (by omega)
    rw [List.drop_zero, List.drop_zero] at e
    refine Ev.congr (fun k => ?_) e
    unfold mullionref8_Same.f
    rw [if_pos (by omega)]
    rfl
  · rw [decide_eq_false (fun h => hl (by rw [h]))]
    refine Ev.one (fun k => ?_)
    unfold mullionref8_Same.f
    rw [if_neg (by omega)]
theorem refword_eq (x : S27) (hx : x.f1.size ≤ 1000000) : mullionref8_word.f x.f0 x.f1 = some (U (wtext x)) := by
  unfold mullionref8_word.f wtext
  by_cases h1 : x.f0 = 1
  · rw [if_pos h1, if_pos h1]; rfl
  rw [if_neg h1, if_neg h1]
  by_cases h2 : x.f0 = 2
  · rw [if_pos h2, if_pos h2]; rfl
  rw [if_neg h2, if_neg h2]
  by_cases h5 : x.f0 = 5
  · rw [if_pos h5, if_pos h5, if_pos (by omega)]
    have e3 : (⟨#[58]⟩ : ByteArray) ++ x.f1 = U (58 :: T x.f1) := T_inj (by rw [T_append, T_U]; rfl)
    rw [e3]
  · rw [if_neg h5, if_neg h5]; rfl
/-- The words from a place on, a blank ahead of each but the first. -/
def tailJ (l : List S27) : Bs := Lib.joinTail [32] (l.map wtext)
theorem tailJ_cons (x : S27) (l : List S27) : tailJ (x :: l) = 32 :: wtext x ++ tailJ l := by simp [tailJ, Lib.joinTail]
theorem joined_cons (x : S27) (l : List S27) : joined (x :: l) = wtext x ++ tailJ l := by unfold joined tailJ; rw [List.map_cons, Lib.join_cons]
theorem wtext_len (x : S27) : (wtext x).length ≤ x.f1.size + 1 := by
  unfold wtext
  split
  · simp
  split
  · simp
  split
  · rw [List.length_cons, T_len]; omega
  · rw [T_len]; omega
theorem joined_len (l : List S27) (hl : l.length ≤ 1000) (hs : ∀ x ∈ l, x.f1.size ≤ 1000) : (joined l).length ≤ 2000000 := by
  have ht : ∀ m : List S27, (∀ x ∈ m, x.f1.size ≤ 1000) → (tailJ m).length ≤ 1002 * m.length := by
    intro m
    induction m with
    | nil => intro _; simp [tailJ, Lib.joinTail]
    | cons y r ih =>
      intro h
      have h1 := ih (fun x hx => h x (by simp [hx]))
      have h2 := h y (by simp)
      have h3 := wtext_len y
      rw [tailJ_cons, List.length_append, List.length_cons, List.length_cons]
      omega
  cases l with
  | nil => simp [joined, Lib.join_nil]
  | cons x t =>
    have h1 := ht t (fun y hy => hs y (by simp [hy]))
    have h2 := hs x (by simp)
    have h3 := wtext_len x
    rw [joined_cons, List.length_append]
    rw [List.length_cons] at hl
    omega
end Go.Proofs.Ytegeleijdobmeaa.Pure
