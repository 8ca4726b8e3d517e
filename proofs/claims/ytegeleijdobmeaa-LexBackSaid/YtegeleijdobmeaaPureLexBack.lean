/- Words that were read are printed and read again; what is told of a beginning of a text is told of it: the plain law. Conditions: the cut is a number of sixteen bits. -/
import Derived.Test.YtegeleijdobmeaaBack
import Derived.Test.YtegeleijdobmeaaLexH
namespace Go.Proofs.Ytegeleijdobmeaa.Pure
open Go.RowKit Go.Proofs.Ytegeleijdobmeaa.PAll Go.Proofs.YtegeleijdobmeaaW.PrintWords Go.Proofs.YtegeleijdobmeaaW.PrintLast
set_option linter.unusedVariables false
/-- What is asked of each word. -/
theorem Back_loop (s : ByteArray) (a1 : Int) (L : List S27) (hs : s.size ≤ 1500) (hL : L.length ≤ 1500) (hv : ∀ x ∈ L, Val x) (hz : ∀ x ∈ L, x.f1.size ≤ 1500) (he : Ev (fun K => mullionlaw8_LexBack.l0 K s a1 L (L.length : Int)) true) : ∀ (d i : Nat), i + d = L.length →
    Ev (fun K => mullionlaw8_LexBack.l0 K s a1 L (i : Int)) true := by
  intro d
  induction d with
  | zero =>
    intro i hi
    have e : i = L.length := by omega
    rw [e]
    exact he
  | succ d ih =>
    intro i hi
    have hil : i < L.length := by omega
    have hx := hv L[i] (List.getElem_mem hil)
    have hsz := hz L[i] (List.getElem_mem hil)
    have hsy := Symbol_eq L[i].f1 (by omega)
    refine Ev.step (fun K => ?_) (ih (i + 1) (by omega))
    simp only [mullionlaw8_LexBack.l0]
    rw [if_pos (by omega), if_pos (by omega), rd27 L i hil, wrapS i (by omega)]
    generalize L[i] = x at *
    cases hx with
    | left =>
      have e1 : ((S 1 []).f1.toList == ([] : List UInt8)) = true := by rw [toList_T]; rfl
      simp only [e1]
      rfl
    | right =>
      have e1 : ((S 2 []).f1.toList == ([] : List UInt8)) = true := by rw [toList_T]; rfl
      simp only [e1]
      rfl
    | num c t hn h0 =>
      have e1 : ((S 3 (c :: t)).f1.toList == ([] : List UInt8)) = false := by rw [toList_T]; rfl
      simp only [e1]
      rfl
    | sym t h =>
      have e2 : lex_Symbol.f (S 4 t).f1 = some true := by rw [hsy]; exact congrArg some h
      have e1 : ((S 4 t).f1.toList == ([] : List UInt8)) = false := by
        obtain ⟨c, t', rfl, _⟩ := sym_parts h
        rw [toList_T]; rfl
      simp only [e1, e2]
      rfl
    | key t h =>
      have e2 : lex_Symbol.f (S 5 t).f1 = some true := by rw [hsy]; exact congrArg some h
      have e1 : ((S 5 t).f1.toList == ([] : List UInt8)) = false := by
        obtain ⟨c, t', rfl, _⟩ := sym_parts h
        rw [toList_T]; rfl
      simp only [e1, e2]
      rfl
theorem Back_end (s : ByteArray) (a1 : Int) (L : List S27) (hs : s.size ≤ 1500) (hL : Sc (T s) L) (h1 : 0 ≤ a1 ∧ a1 ≤ 65535) : Ev (fun K => mullionlaw8_LexBack.l0 K s a1 L (L.length : Int)) true := by
  have key : ∀ c : Nat, c ≤ s.size → ∀ (f : Nat → Option Bool), (∀ K, f K = (lex_Words.f K (s.extract 0 c)).bind fun bt227 => (if bt227.2.2 = 0 then (some (decide ((bt227.1.length : Int) ≤ (L.length : Int)))) else (some true))) → Ev f true := by
    intro c hc f hf
    have ht : T (s.extract 0 c) = (T s).take c := by rw [T_extract, List.drop_zero, Nat.sub_zero]
    have hcs : (s.extract 0 c).size = c := by rw [← T_len, ht, List.length_take, T_len]; omega
    have e := lexWords_ev (s.extract 0 c) (by omega)
    refine Ev.congr hf (Ev.bind e ?_)
    unfold resW
    cases hr : (scanF ((s.extract 0 c).size + 1) (T (s.extract 0 c))).2 with
    | none =>
      have hsc := sc_of_scan _ _ (by rw [T_len]; omega) hr
      rw [ht] at hsc
      have hle := Sc.begin hL c _ hsc
      simp only [List.nil_append, if_true]
      rw [ht, decide_eq_true (by omega)]
      exact Ev.now _
    | some e =>
      have : ¬ ((14 : Int) = 0) := by omega
      simp only [if_neg this]
      exact Ev.now _
  have hstep : ∀ c : Nat, c ≤ s.size → (∀ K, mullionlaw8_LexBack.l0 (K + 1) s a1 L (L.length : Int) = (lex_Words.f K (s.extract 0 c)).bind fun bt227 => (if bt227.2.2 = 0 then (some (decide ((bt227.1.length : Int) ≤ (L.length : Int)))) else (some true))) → Ev (fun K => mullionlaw8_LexBack.l0 K s a1 L (L.length : Int)) true := fun c hc h => Ev.step h (key c hc _ (fun _ => rfl))
  have hw : wrap64 a1 = a1 := by unfold wrap64; omega
  by_cases hp : 0 < s.size
  · have t0 : 0 ≤ Int.tmod a1 (s.size : Int) := Int.tmod_nonneg _ h1.1
    have t1 : Int.tmod a1 (s.size : Int) < (s.size : Int) := Int.tmod_lt_of_pos _ (by omega)
    refine hstep (Int.tmod a1 (s.size : Int)).toNat (by omega) (fun K => ?_)
    simp only [mullionlaw8_LexBack.l0]
    rw [if_neg (by omega), if_pos (by omega), if_neg (by omega), hw, if_pos t0, if_pos (by omega)]
  · refine hstep 0 (by omega) (fun K => ?_)
    simp only [mullionlaw8_LexBack.l0]
    rw [if_neg (by omega), if_neg (by omega), if_pos (by omega), if_pos (by omega)]
theorem LexBack (s : ByteArray) (a1 : Int) (h1 : 0 ≤ a1 ∧ a1 ≤ 65535) : ∃ k, mullionlaw8_LexBack.f k s a1 = some true := by
  refine Ev.rounds (g := fun k => mullionlaw8_LexBack.f k s a1) ?_
  refine Ev.congr (fun k => by unfold mullionlaw8_LexBack.f; rfl) (Ev.bind known_ev ?_)
  simp only [if_true]
  by_cases hs : s.size ≤ 1500
  · have c1 : ¬ (s.size : Int) > 1500 := by omega
    simp only [if_neg c1]
    have e1 := lexWords_ev s (by omega)
    refine Ev.bind e1 ?_
    cases hr : (scanF (s.size + 1) (T s)).2 with
    | some e =>
      have he := scan_err _ _ _ hr
      rw [T_len] at he
      have er : resW [] 0 s.size (scanF (s.size + 1) (T s)) = ([], (e : Int), 14) := by unfold resW; rw [hr]; simp
      rw [er]
      have c2 : ¬ ((14 : Int) = 0) := by omega
      have c3 : ((([] : List S27).length : Nat) : Int) = 0 := rfl
      have c4 : (e : Int) < (s.size : Int) := by omega
      simp only [if_neg c2, if_pos c3, if_pos c4]
      exact Ev.now _
    | none =>
      obtain ⟨L, hLe⟩ : ∃ L, (scanF (s.size + 1) (T s)).1 = L := ⟨_, rfl⟩
      have er : resW [] 0 s.size (scanF (s.size + 1) (T s)) = (L, (s.size : Int), 0) := by unfold resW; rw [hr, hLe]; rfl
      have hsc := sc_of_scan _ _ (by rw [T_len]; omega) hr
      rw [hLe] at hsc
      obtain ⟨hlen, hcount⟩ := hsc.len
      rw [T_len] at hlen hcount
      have hval := hsc.val
      have hz : ∀ x ∈ L, x.f1.size ≤ 1500 := fun x hx => by
        have g1 := val_size (hval x hx)
        have g2 := sum_mem L x hx
        omega
      have hj := joined_le L
      have e2 := Print_ev L (by omega) (fun x hx => by have := hz x hx; omega) (by omega)
      have hsj : (U (joined L)).size = (joined L).length := rfl
      have e3 := lexWords_ev (U (joined L)) (by omega)
      have hsc2 := scan_of_sc (Sc.joined L hval) ((U (joined L)).size + 1) (by omega)
      rw [T_U, hsc2] at e3
      have e4 := lexSame_ev L L (by omega)
      rw [decide_eq_true rfl] at e4
      rw [er]
      simp only [if_true]
      refine Ev.bind e2 (Ev.bind e3 ?_)
      unfold resW
      simp only [List.nil_append, if_true]
      refine Ev.bind e4 ?_
      simp only [if_true]
      have e5 := Back_loop s a1 L hs (by omega) hval hz (Back_end s a1 L hs hsc h1) L.length 0 (by omega)
      refine Ev.step (fun K => ?_) e5
      simp only [mullionlaw8_LexBack.j0]
      rw [if_neg (by simp)]
      rfl
  · have c1 : (s.size : Int) > 1500 := by omega
    simp only [if_pos c1]
    exact Ev.now _
end Go.Proofs.Ytegeleijdobmeaa.Pure
