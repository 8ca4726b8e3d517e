/- Blanks, line ends, remarks between words change nothing: the plain law. Conditions: rows no longer than Go's, the gaps are bytes. -/
import Derived.Test.YtegeleijdobmeaaBlanks
import Derived.Test.YtegeleijdobmeaaLexH
namespace Go.Proofs.Ytegeleijdobmeaa.Pure
open Go.RowKit Go.Proofs.Ytegeleijdobmeaa.PAll Go.Proofs.YtegeleijdobmeaaW.PrintWords Go.Proofs.YtegeleijdobmeaaW.PrintLast
set_option linter.unusedVariables false
/-- What stands ahead has been read: its words come first. -/
def Rd (a : Bs) (L : List S27) : Prop := ∀ rest R, Sc rest R → Sc (a ++ rest) (L ++ R)
/-- What stands between words is passed over. -/
def Skip (g : Bs) : Prop := ∀ rest R, Sc rest R → Sc (g ++ rest) R
theorem Rd.nil : Rd [] [] := fun _ _ h => h
theorem Rd.skip {a g : Bs} {L : List S27} (h : Rd a L) (hg : Skip g) : Rd (a ++ g) L := fun rest R hr => by
  rw [List.append_assoc]
  exact h _ _ (hg _ _ hr)
theorem Rd.word {a g : Bs} {L : List S27} {x : S27} (h : Rd a L) (hx : Val x) (hg : Skip g) (h0 : ∃ c t, g = c :: t ∧ letB (c.toNat : Int) = false) : Rd (a ++ wtext x ++ g) (L ++ [x]) := fun rest R hr => by
  rw [List.append_assoc, List.append_assoc, List.append_assoc]
  refine h _ _ (Sc.word hx (fun _ => ?_) (hg _ _ hr))
  obtain ⟨c, t, e, hc⟩ := h0
  rw [e]
  exact rzero hc
theorem skip_blank (c : UInt8) (hc : blankB (c.toNat : Int) = true) : Skip [c] := fun rest R hr => .blank c rest R hc hr
theorem skip_app {a b : Bs} (ha : Skip a) (hb : Skip b) : Skip (a ++ b) := fun rest R hr => by
  rw [List.append_assoc]
  exact ha _ _ (hb _ _ hr)
theorem skip_rem (b : Bs) (hb : PAll.runN notnl (59 :: b) = (59 :: b).length) : Skip (59 :: b ++ [10]) := fun rest R hr => by
  have e : PAll.runN notnl (59 :: (b ++ (10 :: rest))) = (59 :: b).length := by
    rw [← List.cons_append, run_app notnl (59 :: b) (10 :: rest) hb, rzero (by decide)]
    rfl
  have e2 : (59 :: b ++ [10] ++ rest : Bs) = 59 :: (b ++ (10 :: rest)) := by simp
  rw [e2]
  refine .rem _ _ ?_
  rw [e, ← List.cons_append, List.drop_left' rfl]
  exact .blank 10 rest R (by decide) hr
def gapsL : List ByteArray := [(⟨#[32]⟩ : ByteArray), (⟨#[10]⟩ : ByteArray), (⟨#[9, 32, 13]⟩ : ByteArray), (⟨#[32, 59, 32, 97, 32, 114, 101, 109, 97, 114, 107, 32, 40, 32, 58, 120, 32, 10]⟩ : ByteArray), (⟨#[10, 59, 10]⟩ : ByteArray), (⟨#[32, 32]⟩ : ByteArray)]
def GapOk (g : ByteArray) : Prop := Skip (T g) ∧ (∃ c t, T g = c :: t ∧ letB (c.toNat : Int) = false) ∧ g.size ≤ 18
theorem gap_ok : ∀ n : Nat, n < 6 → GapOk (rdOf ByteArray.empty gapsL (n : Int)) := by
  have b32 := skip_blank 32 (by decide)
  have b10 := skip_blank 10 (by decide)
  have b9 := skip_blank 9 (by decide)
  have b13 := skip_blank 13 (by decide)
  intro n hn
  have h : n = 0 ∨ n = 1 ∨ n = 2 ∨ n = 3 ∨ n = 4 ∨ n = 5 := by omega
  rcases h with rfl | rfl | rfl | rfl | rfl | rfl
  · exact ⟨b32, ⟨32, [], rfl, by decide⟩, by decide⟩
  · exact ⟨b10, ⟨10, [], rfl, by decide⟩, by decide⟩
  · exact ⟨skip_app b9 (skip_app b32 b13), ⟨9, _, rfl, by decide⟩, by decide⟩
  · exact ⟨skip_app b32 (skip_rem [32, 97, 32, 114, 101, 109, 97, 114, 107, 32, 40, 32, 58, 120, 32] (by decide)), ⟨32, _, rfl, by decide⟩, by decide⟩
  · exact ⟨skip_app b10 (skip_rem [] (by decide)), ⟨10, _, rfl, by decide⟩, by decide⟩
  · exact ⟨skip_app b32 b32, ⟨32, _, rfl, by decide⟩, by decide⟩
theorem end_sc : Sc [59, 101, 110, 100] [] := .rem _ _ (by
  have : PAll.runN notnl ((59 : UInt8) :: [101, 110, 100]) = 4 := by decide
  rw [this]
  exact .nil)
theorem words_of_sc (s : ByteArray) (L : List S27) (hs : s.size ≤ 4000) (h : Sc (T s) L) : Ev (fun K => lex_Words.f K s) (L, (s.size : Int), 0) := by
  have e := lexWords_ev s hs
  rw [scan_of_sc h (s.size + 1) (by rw [T_len]; omega)] at e
  exact e
theorem size_app (a b : ByteArray) : (a ++ b).size = a.size + b.size := ByteArray.size_append
theorem Blanks_loop (l : List S27) (gaps : List Int) (hl : l.length ≤ 30) (hs : ∀ x ∈ l, x.f1.size ≤ 40) (hg : ∀ a ∈ gaps, 0 ≤ a ∧ a ≤ 255) : ∀ (d i : Nat) (s t : ByteArray), i + d = l.length → Rd (T s) (l.take i) → Rd (T t) (l.take i) → s.size ≤ 60 * i → t.size ≤ 90 * i →
    Ev (fun K => mullionlaw8_LexBlanks.l0 K l gaps s t (i : Int) (⟨#[32]⟩ : ByteArray) (⟨#[10]⟩ : ByteArray) (⟨#[9, 32, 13]⟩ : ByteArray) (⟨#[32, 59, 32, 97, 32, 114, 101, 109, 97, 114, 107, 32, 40, 32, 58, 120, 32, 10]⟩ : ByteArray) (⟨#[10, 59, 10]⟩ : ByteArray) (⟨#[32, 32]⟩ : ByteArray)) true := by
  intro d
  induction d with
  | zero =>
    intro i s t hi h1 h2 z1 z2
    have hil : i = l.length := by omega
    rw [hil, List.take_length] at h1 h2
    have e1 := h1 [] [] .nil
    rw [List.append_nil, List.append_nil] at e1
    have hts : T (t ++ (⟨#[59, 101, 110, 100]⟩ : ByteArray)) = T t ++ [59, 101, 110, 100] := T_append _ _
    have e2 := h2 _ _ end_sc
    rw [List.append_nil, ← hts] at e2
    have zt : (t ++ (⟨#[59, 101, 110, 100]⟩ : ByteArray)).size = t.size + 4 := by rw [size_app]; rfl
    have w1 := words_of_sc s l (by omega) e1
    have w2 := words_of_sc _ l (by omega) e2
    rw [zt] at w2
    have e3 := lexSame_ev l l (by omega)
    rw [decide_eq_true rfl] at e3
    have c1 : t.size + 4 ≤ 9223372036854775807 := by omega
    refine Ev.step (fun K => by simp only [mullionlaw8_LexBlanks.l0]; rw [if_neg (by omega)]) (Ev.bind w1 (Ev.congr (fun K => if_pos c1) (Ev.bind w2 ?_)))
    simp only [if_true]
    refine Ev.bind e3 ?_
    simp only [if_true]
    refine Ev.bind e3 ?_
    simp only [if_true]
    rw [show wrap64 ((t.size : Int) + 4) = ((t.size + 4 : Nat) : Int) from wrapN t.size 4 (by omega), beq_self_eq_true]
    exact Ev.now _
  | succ d ih =>
    intro i s t hi h1 h2 z1 z2
    have hil : i < l.length := by omega
    have hx := hs l[i] (List.getElem_mem hil)
    have hrd := rd27 l i hil
    have htk : l.take (i + 1) = l.take i ++ [l[i]] := by rw [List.take_add_one]; simp [hil]
    have hcut : (l.take (i + 1)).drop i = [l[i]] := by rw [htk, List.drop_left' (by rw [List.length_take]; omega)]
    have hjo : joined [l[i]] = wtext l[i] := by unfold joined; rw [List.map_cons, List.map_nil, Lib.join_one]
    have hwl : (wtext l[i]).length ≤ l[i].f1.size + 1 := by
      unfold wtext
      split
      · simp
      split
      · simp
      split
      · rw [List.length_cons, T_len]; omega
      · rw [T_len]; omega
    have ep := Print_ev [l[i]] (by simp) (fun y hy => by rw [List.mem_singleton.1 hy]; omega) (by rw [hjo]; omega)
    rw [hjo] at ep
    have hsz : (U (wtext l[i])).size = (wtext l[i]).length := rfl
    have ew := lexWords_ev (U (wtext l[i])) (by omega)
    rw [T_U] at ew
    have out : Ev (fun K => mullionlaw8_LexBlanks.j2 K l gaps s t (i : Int) (U (wtext l[i])) true (⟨#[32]⟩ : ByteArray) (⟨#[10]⟩ : ByteArray) (⟨#[9, 32, 13]⟩ : ByteArray) (⟨#[32, 59, 32, 97, 32, 114, 101, 109, 97, 114, 107, 32, 40, 32, 58, 120, 32, 10]⟩ : ByteArray) (⟨#[10, 59, 10]⟩ : ByteArray) (⟨#[32, 32]⟩ : ByteArray)) true := Ev.one (fun K => by simp [mullionlaw8_LexBlanks.j2])
    have c1 : (i : Int) < (l.length : Int) := by omega
    have c2 : (0 : Int) ≤ (i : Int) := by omega
    have c3 : (i : Int) ≤ ((i + 1 : Nat) : Int) := by omega
    have c4 : ((i + 1 : Nat) : Int) ≤ (l.length : Int) := by omega
    have hcut2 : (l.take (((i + 1 : Nat) : Int)).toNat).drop ((i : Int)).toNat = [l[i]] := hcut
    refine Ev.step (fun K => by simp only [mullionlaw8_LexBlanks.l0]; rw [if_pos c1, if_pos c2, wrapS i (by omega), if_pos c3, if_pos c4, hcut2]) (Ev.bind ep (Ev.bind ew ?_))
    unfold resW
    cases hr : (scanF ((U (wtext l[i])).size + 1) (wtext l[i])).2 with
    | some e =>
      have : ¬ ((14 : Int) = 0) := by omega
      simp only [if_neg this]
      exact out
    | none =>
      have hsc := sc_of_scan _ _ (by omega) hr
      generalize (scanF ((U (wtext l[i])).size + 1) (wtext l[i])).1 = L at hsc
      simp only [List.nil_append, if_true]
      by_cases hL1 : (L.length : Int) = 1
      · have hL0 : (0 : Int) < (L.length : Int) := by omega
        simp only [if_pos hL1, if_pos hL0, hrd]
        have hn : (!((rd_T27 L 0).f0 == l[i].f0) || (!((rd_T27 L 0).f1.toList == l[i].f1.toList))) = !(decide (rd_T27 L 0 = l[i])) := ne_tok _ _
        simp only [hn]
        obtain ⟨y, rfl⟩ : ∃ y, L = [y] := by
          match L, hL1 with
          | [y], _ => exact ⟨y, rfl⟩
        have hy : rd_T27 [y] 0 = y := rfl
        rw [hy]
        by_cases he : y = l[i]
        · rw [decide_eq_true he]
          have hval : Val l[i] := by rw [← he]; exact hsc.val y (by simp)
          have fin : ∀ g1 g2 : ByteArray, GapOk g1 → GapOk g2 → Ev (fun K => mullionlaw8_LexBlanks.l0 K l gaps ((s ++ U (wtext l[i])) ++ (⟨#[32]⟩ : ByteArray)) (((t ++ g1) ++ U (wtext l[i])) ++ g2) ((i + 1 : Nat) : Int) (⟨#[32]⟩ : ByteArray) (⟨#[10]⟩ : ByteArray) (⟨#[9, 32, 13]⟩ : ByteArray) (⟨#[32, 59, 32, 97, 32, 114, 101, 109, 97, 114, 107, 32, 40, 32, 58, 120, 32, 10]⟩ : ByteArray) (⟨#[10, 59, 10]⟩ : ByteArray) (⟨#[32, 32]⟩ : ByteArray)) true := by
            intro g1 g2 hg1 hg2
            have z3 := hg1.2.2
            have z4 := hg2.2.2
            refine ih (i + 1) _ _ (by omega) ?_ ?_ ?_ ?_
            · rw [htk, T_append, T_append, T_U]
              exact Rd.word h1 hval (skip_blank 32 (by decide)) ⟨32, [], rfl, by decide⟩
            · rw [htk, T_append, T_append, T_append, T_U]
              exact Rd.word (Rd.skip h2 hg1.1) hval hg2.1 hg2.2.1
            · rw [size_app, size_app, hsz]
              show s.size + (wtext l[i]).length + 1 ≤ 60 * (i + 1)
              omega
            · rw [size_app, size_app, size_app, hsz]
              omega
          have b1 : s.size + (U (wtext l[i])).size ≤ 9223372036854775807 := by omega
          have b2 : (s ++ U (wtext l[i])).size + 1 ≤ 9223372036854775807 := by rw [size_app]; omega
          by_cases hgi : i < gaps.length
          · have hga := hg gaps[i] (List.getElem_mem hgi)
            have hrg : rd gaps (i : Int) = gaps[i] := by simp [rd, hgi]
            obtain ⟨m, hm⟩ := Int.eq_ofNat_of_zero_le hga.1
            have e1 : wrap64 (Int.tmod gaps[i] 6) = ((m % 6 : Nat) : Int) := by
              rw [hm, show Int.tmod ((m : Nat) : Int) 6 = ((m % 6 : Nat) : Int) from rfl]
              unfold wrap64
              omega
            have e2 : Int.tmod (wrap64 (((m % 6 : Nat) : Int) + 1)) 6 = (((m % 6 + 1) % 6 : Nat) : Int) := by
              rw [wrapS (m % 6) (by omega)]
              rfl
            have hm6 : m % 6 < 6 := Nat.mod_lt _ (by decide)
            have hm7 : (m % 6 + 1) % 6 < 6 := Nat.mod_lt _ (by decide)
            generalize m % 6 = p at *
            generalize (p + 1) % 6 = q at *
            have g1 := gap_ok p hm6
            have g2 := gap_ok q hm7
            have z3 := g1.2.2
            have z4 := g2.2.2
            have hf := fin _ _ g1 g2
            have b3 : t.size + (rdOf ByteArray.empty gapsL (p : Int)).size ≤ 9223372036854775807 := by omega
            have b4 : (t ++ rdOf ByteArray.empty gapsL (p : Int)).size + (U (wtext l[i])).size ≤ 9223372036854775807 := by rw [size_app]; omega
            have b5 : ((t ++ rdOf ByteArray.empty gapsL (p : Int)) ++ U (wtext l[i])).size + (rdOf ByteArray.empty gapsL (q : Int)).size ≤ 9223372036854775807 := by rw [size_app, size_app]; omega
            have k1 : (i : Int) < (gaps.length : Int) := by omega
            have k2 : (0 : Int) ≤ (p : Int) := by omega
            have k3 : (p : Int) < 6 := by omega
            have k4 : (0 : Int) ≤ (q : Int) := by omega
            have k5 : (q : Int) < 6 := by omega
            have hw := wrapS i (by omega)
            clear fin ih
            refine Ev.step (fun K => ?_) hf
            simp only [mullionlaw8_LexBlanks.j2]
            rw [hrg, e1, e2, hw]
            simp only [Bool.not_true, Bool.false_eq_true, if_false]
            rw [if_pos k1, if_pos c2, if_pos b1, if_pos b2, if_pos k2, if_pos k3]
            unfold gapsL at b3 b4 b5
            rw [if_pos b3, if_pos b4, if_pos k4, if_pos k5, if_pos b5]
            rfl
          · have g1 : GapOk (⟨#[32]⟩ : ByteArray) := gap_ok 0 (by omega)
            have g2 : GapOk (⟨#[10]⟩ : ByteArray) := gap_ok 1 (by omega)
            have hf := fin _ _ g1 g2
            have y1 : (⟨#[32]⟩ : ByteArray).size = 1 := rfl
            have y2 : (⟨#[10]⟩ : ByteArray).size = 1 := rfl
            have b3 : t.size + (⟨#[32]⟩ : ByteArray).size ≤ 9223372036854775807 := by omega
            have b4 : (t ++ (⟨#[32]⟩ : ByteArray)).size + (U (wtext l[i])).size ≤ 9223372036854775807 := by rw [size_app]; omega
            have b5 : ((t ++ (⟨#[32]⟩ : ByteArray)) ++ U (wtext l[i])).size + (⟨#[10]⟩ : ByteArray).size ≤ 9223372036854775807 := by rw [size_app, size_app]; omega
            have k1 : ¬ (i : Int) < (gaps.length : Int) := by omega
            have hw := wrapS i (by omega)
            clear fin ih
            refine Ev.step (fun K => ?_) hf
            simp only [mullionlaw8_LexBlanks.j2]
            rw [hw]
            simp only [Bool.not_true, Bool.false_eq_true, if_false]
            rw [if_neg k1, if_pos b1, if_pos b2, if_pos b3, if_pos b4, if_pos b5]
        · rw [decide_eq_false he]
          exact out
      · simp only [if_neg hL1]
        exact out
theorem fewB_bounds {l : List S27} (h : fewB l = true) : l.length ≤ 60 ∧ ∀ x ∈ l, x.f1.size ≤ 40 := by
  unfold fewB at h
  rw [Bool.and_eq_true] at h
  refine ⟨of_decide_eq_true h.2, fun x hx => ?_⟩
  have := List.all_eq_true.mp h.1 x hx
  exact of_decide_eq_true this
theorem LexBlanks (l : List S27) (gaps : List Int) (hl : l.length ≤ 9223372036854775807) (hgl : gaps.length ≤ 9223372036854775807) (hg : ∀ a ∈ gaps, 0 ≤ a ∧ a ≤ 255) : ∃ k, mullionlaw8_LexBlanks.f k l gaps = some true := by
  refine Ev.rounds (g := fun k => mullionlaw8_LexBlanks.f k l gaps) ?_
  have tl : Ev (fun k => mullionlaw8_LexBlanks.j0 k l gaps true) true := Ev.one (fun k => by simp [mullionlaw8_LexBlanks.j0])
  refine Ev.congr (fun k => by unfold mullionlaw8_LexBlanks.f; rfl) (Ev.bind known_ev ?_)
  simp only [if_true]
  refine Ev.bind (few_ev l hl) ?_
  cases hf : fewB l with
  | false => simpa using tl
  | true =>
    simp only [if_true]
    obtain ⟨l1, l2⟩ := fewB_bounds hf
    by_cases h30 : l.length ≤ 30
    · rw [decide_eq_false (show ¬ (l.length : Int) > 30 by omega)]
      refine Ev.step (fun K => ?_) (Blanks_loop l gaps h30 l2 hg l.length 0 (⟨#[]⟩ : ByteArray) (⟨#[]⟩ : ByteArray) (by omega) Rd.nil Rd.nil (by decide) (by decide))
      simp only [mullionlaw8_LexBlanks.j0, Bool.false_eq_true, if_false]
      rfl
    · rw [decide_eq_true (show (l.length : Int) > 30 by omega)]
      exact tl
end Go.Proofs.Ytegeleijdobmeaa.Pure
