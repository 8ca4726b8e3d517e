/- Of every text its words, or where and what is wrong; of every words their text: the plain law. Conditions: rows no longer than Go's. -/
import Derived.Test.YtegeleijdobmeaaPAllx7
import Derived.Test.YtegeleijdobmeaaLexF
namespace Go.Proofs.Ytegeleijdobmeaa.Pure
open Go.RowKit Go.Proofs.Ytegeleijdobmeaa.PAll Go.Proofs.YtegeleijdobmeaaW.PrintWords Go.Proofs.YtegeleijdobmeaaW.PrintLast
set_option linter.unusedVariables false
theorem scan_len : ∀ (k : Nat) (l : Bs), (scanF k l).1.length ≤ l.length := by
  intro k
  induction k with
  | zero => intro l; simp [scanF]
  | succ k ih =>
    intro l
    cases l with
    | nil => simp [scanF]
    | cons c t =>
      rw [scanF]
      split
      · have := ih t
        rw [List.length_cons]
        show (scanF k t).1.length ≤ _
        omega
      · split
        · have := ih ((c :: t).drop (PAll.runN notnl (c :: t)))
          rw [List.length_drop] at this
          show (scanF k ((c :: t).drop (PAll.runN notnl (c :: t)))).1.length ≤ _
          omega
        · cases ht : tok (c :: t) with
          | none => simp
          | some xm =>
            obtain ⟨x, m⟩ := xm
            have hm := tok_pos ht
            have := ih ((c :: t).drop m)
            rw [List.length_drop] at this
            show ((x :: (scanF k ((c :: t).drop m)).1).length ≤ _)
            rw [List.length_cons]
            omega
theorem resW_len (n : Nat) (r : List S27 × Option Nat) (h : r.1.length ≤ n) : (resW [] 0 n r).1.length ≤ n := by
  unfold resW
  cases r.2 with
  | none => simpa using h
  | some e => simp
/-- Both Words answer the same. -/
theorem words_same (s : ByteArray) (hs : s.size ≤ 4100) : ∃ r : List S27 × Int × Int, r.1.length ≤ 4100 ∧ Ev (fun k => lex_Words.f k s) r ∧ Ev (fun k => mullionref8_Words.f k s) r := by
  by_cases h : s.size ≤ 4000
  · refine ⟨_, ?_, lexWords_ev s h, refWords_ev s h⟩
    have h1 := scan_len (s.size + 1) (T s)
    rw [T_len] at h1
    have h2 := resW_len s.size (scanF (s.size + 1) (T s)) h1
    omega
  · exact ⟨_, by simp, lexWords_big s (by omega), refWords_big s (by omega)⟩
theorem few_bounds {l : List S27} (h : fewB l = true) : l.length ≤ 60 ∧ ∀ x ∈ l, x.f1.size ≤ 40 := by
  unfold fewB at h
  rw [Bool.and_eq_true] at h
  refine ⟨of_decide_eq_true h.2, fun x hx => ?_⟩
  have := List.all_eq_true.mp h.1 x hx
  exact of_decide_eq_true this
theorem LexTells (s : ByteArray) (l m : List S27) (hl : l.length ≤ 9223372036854775807) (hm : m.length ≤ 9223372036854775807) : ∃ k, mullionlaw8_LexTells.f k s l m = some true := by
  refine Ev.rounds (g := fun k => mullionlaw8_LexTells.f k s l m) ?_
  have tl : Ev (fun k => mullionlaw8_LexTells.j0 k s l m true) true := Ev.one (fun k => by simp [mullionlaw8_LexTells.j0])
  refine Ev.congr (fun k => by unfold mullionlaw8_LexTells.f; rfl) (Ev.bind known_ev ?_)
  simp only [if_true]
  by_cases hs : s.size ≤ 4100
  · have c1 : ¬ (s.size : Int) > 4100 := by omega
    simp only [if_neg c1]
    refine Ev.bind (few_ev l hl) ?_
    cases hfl : fewB l with
    | false => simpa using tl
    | true =>
      simp only [if_true]
      refine Ev.bind (few_ev m hm) ?_
      cases hfm : fewB m with
      | false => simpa using tl
      | true =>
        obtain ⟨l1, l2⟩ := few_bounds hfl
        obtain ⟨m1, m2⟩ := few_bounds hfm
        obtain ⟨r, hr, e1, e2⟩ := words_same s hs
        have e3 := refSame_ev r.1 r.1 (by omega)
        rw [decide_eq_true rfl] at e3
        have e4 : Ev (fun k => lex_Symbol.f s) (symB (T s)) := by
          have := Symbol_eq s (by omega)
          simp only [this]
          exact Ev.now _
        have e5 := refSymbol_ev s (by omega)
        have b1 : ∀ x ∈ l, x.f1.size ≤ 1000 := fun x hx => by have := l2 x hx; omega
        have hj := joined_len l (by omega) b1
        have e6 := Print_ev l (by omega) (fun x hx => by have := l2 x hx; omega) (by omega)
        have e7 := refPrint_ev l (by omega) b1
        have e8 := lexSame_ev l m (by omega)
        have e9 := refSame_ev l m (by omega)
        refine Ev.step (fun k => by simp only [mullionlaw8_LexTells.j0, Bool.not_true, Bool.false_eq_true, if_false]; rfl) (Ev.bind e1 (Ev.bind e2 (Ev.bind e3 ?_)))
        simp only [if_true]
        refine Ev.bind e4 (Ev.bind e5 ?_)
        simp only [beq_self_eq_true, if_true]
        refine Ev.bind e6 (Ev.bind e7 ?_)
        simp only [if_true]
        refine Ev.bind e8 (Ev.bind e9 ?_)
        simp only [beq_self_eq_true]
        exact Ev.now _
  · have c1 : (s.size : Int) > 4100 := by omega
    simp only [if_pos c1]
    exact tl
end Go.Proofs.Ytegeleijdobmeaa.Pure
