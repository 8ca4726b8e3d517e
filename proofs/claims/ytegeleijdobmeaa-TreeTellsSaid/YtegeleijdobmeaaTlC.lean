/- Words' texts, one behind the other; rows of words that are alike: what the code's functions answer. -/
import Derived.Test.YtegeleijdobmeaaTlB
import Derived.Test.YtegeleijdobmeaaPAllx4
namespace Go.Proofs.Ytegeleijdobmeaa.Pure
open Go.RowKit Go.Proofs.Ytegeleijdobmeaa.PAll Go.Proofs.YtegeleijdobmeaaW.PrintWords Go.Proofs.YtegeleijdobmeaaW.PrintLast
set_option linter.unusedVariables false
/-- A word's text. -/
def wtext (x : S27) : Bs := if x.f0 = 1 then [40] else if x.f0 = 2 then [41] else if x.f0 = 5 then 58 :: T x.f1 else T x.f1
def textsL (l : List S27) : List ByteArray := l.map (fun x => U (wtext x))
theorem rd27 (l : List S27) (i : Nat) (h : i < l.length) : rd_T27 l (i : Int) = l[i] := by simp [rd_T27, h]
theorem wrapS (i : Nat) (h : i < 1000000) : wrap64 ((i : Int) + 1) = ((i + 1 : Nat) : Int) := by unfold wrap64; omega
theorem texts_loop (l : List S27) (hl : l.length ≤ 100000) (hs : ∀ x ∈ l, x.f1.size ≤ 1000000) : ∀ (d i : Nat) (out : List ByteArray), i + d = l.length → out.length = i →
    Ev (fun k => lex_texts.l0 k out l (l.length : Int) (i : Int)) (out ++ textsL (l.drop i)) := by
  intro d
  induction d with
  | zero =>
    intro i out hi ho
    refine Ev.one (fun k => ?_)
    simp only [lex_texts.l0]
    rw [if_neg (by omega), List.drop_of_length_le (by omega)]
    simp [textsL]
  | succ d ih =>
    intro i out hi ho
    have hil : i < l.length := by omega
    have hsz := hs l[i] (List.getElem_mem hil)
    have c1 : (i : Int) < (l.length : Int) := by omega
    have c2 : (0 : Int) ≤ (i : Int) := by omega
    have c3 : out.length < 8796093022208 := by omega
    have c4 : 1 + l[i].f1.size ≤ 9223372036854775807 := by omega
    have e := ih (i + 1) (out ++ [U (wtext l[i])]) (by omega) (by rw [List.length_append, List.length_singleton]; omega)
    have e2 : out ++ [U (wtext l[i])] ++ textsL (l.drop (i + 1)) = out ++ textsL (l.drop i) := by
      rw [List.drop_eq_getElem_cons hil]
      unfold textsL
      rw [List.map_cons, List.append_assoc]
      rfl
    rw [e2] at e
    refine Ev.step (fun k => ?_) e
    simp only [lex_texts.l0]
    rw [if_pos c1, if_pos c2, if_pos c1, rd27 l i hil, wrapS i (by omega)]
    unfold wtext
    by_cases h1 : l[i].f0 = 1
    · rw [if_pos h1, if_pos c3, if_pos h1]; rfl
    rw [if_neg h1]
    by_cases h2 : l[i].f0 = 2
    · rw [if_pos h2, if_pos c3, if_neg h1, if_pos h2]; rfl
    rw [if_neg h2]
    by_cases h5 : l[i].f0 = 5
    · rw [if_pos h5, if_pos c4, if_pos c3, if_neg h1, if_neg h2, if_pos h5]
      have e3 : (⟨#[58]⟩ : ByteArray) ++ l[i].f1 = U (58 :: T l[i].f1) := T_inj (by rw [T_append, T_U]; rfl)
      rw [e3]
    · rw [if_neg h5, if_pos c3, if_neg h1, if_neg h2, if_neg h5]
      rfl
def joined (l : List S27) : Bs := Lib.join (l.map wtext) [32]
theorem Print_ev (l : List S27) (hl : l.length ≤ 100000) (hs : ∀ x ∈ l, x.f1.size ≤ 1000000) (hj : (joined l).length ≤ 100000000) : Ev (fun k => lex_Print.f k l) (U (joined l)) := by
  have e := texts_loop l hl hs l.length 0 [] (by omega) rfl
  rw [List.drop_zero, List.nil_append] at e
  have e1 : Ev (fun k => lex_texts.f k l) (textsL l) := Ev.congr (fun k => by unfold lex_texts.f; rfl) e
  have hm : (textsL l).map (·.data.toList) = l.map wtext := by
    unfold textsL
    rw [List.map_map]
    exact List.map_congr_left (fun x _ => rfl)
  have e2 : strings_Join.f (textsL l) (⟨#[32]⟩ : ByteArray) = some (U (joined l)) := by
    unfold strings_Join.f
    rw [hm, show (⟨#[32]⟩ : ByteArray).data.toList = [32] from rfl]
    rw [if_pos (show (Lib.join (l.map wtext) [32]).length ≤ 140737488355328 by have : (Lib.join (l.map wtext) [32]).length ≤ 100000000 := hj; omega), if_pos (by unfold textsL; rw [List.length_map]; omega)]
    rfl
  refine Ev.congr (f := fun k => (lex_texts.f k l).bind fun t => (strings_Join.f t (⟨#[32]⟩ : ByteArray)).bind fun t2 => some t2) (fun k => by unfold lex_Print.f; rfl) (Ev.bind e1 ?_)
  rw [e2]
  exact Ev.now _
/-- Two rows are alike. -/
theorem S27_ext {a b : S27} (h0 : a.f0 = b.f0) (h1 : T a.f1 = T b.f1) : a = b := by
  cases a; cases b
  simp only at h0 h1
  rw [h0, T_inj h1]
instance : DecidableEq S27 := fun a b => if h : a.f0 = b.f0 ∧ T a.f1 = T b.f1 then .isTrue (S27_ext h.1 h.2) else .isFalse (fun e => h (by rw [e]; exact ⟨rfl, rfl⟩))
theorem ne_tok (a b : S27) : (!(a.f0 == b.f0) || (!(a.f1.toList == b.f1.toList))) = !(decide (a = b)) := by
  rw [toList_T, toList_T]
  by_cases h : a = b
  · subst h; simp
  · have : ¬ (a.f0 = b.f0 ∧ T a.f1 = T b.f1) := fun h2 => h (S27_ext h2.1 h2.2)
    rw [decide_eq_false h]
    by_cases h0 : a.f0 = b.f0
    · have h1 : ¬ T a.f1 = T b.f1 := fun h2 => this ⟨h0, h2⟩
      simp [h0, h1]
    · simp [h0]
theorem eq_drop {a b : List S27} {i : Nat} (ha : i < a.length) (hb : i < b.length) : (a.drop i = b.drop i) ↔ (a[i] = b[i] ∧ a.drop (i + 1) = b.drop (i + 1)) := by
  rw [List.drop_eq_getElem_cons ha, List.drop_eq_getElem_cons hb, List.cons.injEq]
theorem Same_loop (a b : List S27) (hl : a.length = b.length) (hb : a.length ≤ 100000) : ∀ (d i : Nat), i + d = a.length → Ev (fun k => api_Token.l0 k a b (a.length : Int) (i : Int)) (decide (a.drop i = b.drop i)) := by
  intro d
  induction d with
  | zero =>
    intro i hi
    refine Ev.one (fun k => ?_)
    simp only [api_Token.l0]
    rw [if_neg (by omega), List.drop_of_length_le (by omega), List.drop_of_length_le (by omega)]
    rfl
  | succ d ih =>
    intro i hi
    have ha1 : i < a.length := by omega
    have hb1 : i < b.length := by omega
    have hd := eq_drop ha1 hb1
    by_cases he : a[i] = b[i]
    · have e := ih (i + 1) (by omega)
      have e2 : decide (a.drop i = b.drop i) = decide (a.drop (i + 1) = b.drop (i + 1)) := by
        rw [decide_eq_decide, hd]
        exact ⟨fun h => h.2, fun h => ⟨he, h⟩⟩
      rw [e2]
      refine Ev.step (fun k => ?_) e
      simp only [api_Token.l0]
      rw [if_pos (by omega), if_pos (by omega), if_pos (by omega), if_pos (by omega), rd27 a i ha1, rd27 b i hb1, ne_tok, decide_eq_true he, if_neg (by simp), wrapS i (by omega)]
    · have e2 : decide (a.drop i = b.drop i) = false := by
        rw [decide_eq_false_iff_not, hd]
        exact fun h => he h.1
      rw [e2]
      refine Ev.one (fun k => ?_)
      simp only [api_Token.l0]
      rw [if_pos (by omega), if_pos (by omega), if_pos (by omega), if_pos (by omega), rd27 a i ha1, rd27 b i hb1, ne_tok, decide_eq_false he, if_pos (by simp)]
theorem lexSame_ev (a b : List S27) (hb : a.length ≤ 100000) : Ev (fun k => lex_Same.f k a b) (decide (a = b)) := by
  refine Ev.congr (f := fun k => (api_Token.f k a b).bind fun t => some t) (fun k => by unfold lex_Same.f; rfl) (Ev.bind (a := decide (a = b)) ?_ (Ev.now _))
  by_cases hl : a.length = b.length
  · have e := Same_loop a b hl hb a.length 0 (by omega)
    rw [List.drop_zero, List.drop_zero] at e
    refine Ev.congr (fun k => ?_) e
    unfold api_Token.f
    rw [if_pos (by omega)]
    rfl
  · rw [decide_eq_false (fun h => hl (by rw [h]))]
    refine Ev.one (fun k => ?_)
    unfold api_Token.f
    rw [if_neg (by omega)]
end Go.Proofs.Ytegeleijdobmeaa.Pure
