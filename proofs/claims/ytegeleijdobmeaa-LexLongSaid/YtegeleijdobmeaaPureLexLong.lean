/- Names as long as may be, and one more; texts as long as may be, and one more: the plain law. Conditions: none beyond the statement's own. -/
import Derived.Test.YtegeleijdobmeaaPAllx9
import Derived.Test.YtegeleijdobmeaaLexC
namespace Go.Proofs.Ytegeleijdobmeaa.Pure
open Go.RowKit Go.Proofs.Ytegeleijdobmeaa.PAll Go.Proofs.YtegeleijdobmeaaW.PrintWords Go.Proofs.YtegeleijdobmeaaW.PrintLast
set_option linter.unusedVariables false
theorem scan_blanks (n : Nat) : ∀ k, scanF k (List.replicate n (32 : UInt8)) = ([], none) := by
  induction n with
  | zero => intro k; cases k <;> rfl
  | succ n ih =>
    intro k
    cases k with
    | zero => rfl
    | succ k =>
      rw [List.replicate_succ, scanF, if_pos (by decide), ih k]
      rfl
theorem strOf_blanks (n : Nat) : T (strOfNums (List.replicate n (32 : Int))) = List.replicate n (32 : UInt8) := by
  unfold strOfNums T
  simp
def nm (n : Nat) : ByteArray := U (List.replicate n (113 : UInt8))
theorem nm_succ (n : Nat) : nm n ++ (⟨#[113]⟩ : ByteArray) = nm (n + 1) := T_inj (by
  rw [T_append]
  show List.replicate n (113 : UInt8) ++ [113] = List.replicate (n + 1) 113
  rw [List.replicate_succ'])
theorem nm_size (n : Nat) : (nm n).size = n := by
  show (List.replicate n (113 : UInt8)).length = n
  exact List.length_replicate
def n1 (n : Nat) : Bs := 97 :: 32 :: List.replicate n 113
def n2 (n : Nat) : Bs := 97 :: 32 :: 58 :: List.replicate n 113
theorem names3 : ∀ n : Nat, n < 22 → 19 ≤ n →
    ((n ≤ 20 → (scanF (n + 3) (n1 n)).1.length = 2 ∧ (scanF (n + 3) (n1 n)).2 = none ∧ (scanF (n + 4) (n2 n)).2 = none) ∧
     (20 < n → (scanF (n + 3) (n1 n)).2 = some 2 ∧ (scanF (n + 4) (n2 n)).2 = some 2)) ∧ symB (List.replicate n 113) = decide (n ≤ 20) := by
  decide +kernel
/-- What Words answers of a text of blanks. -/
theorem blanks_ev (m : Nat) (hm : m ≤ 4100) : Ev (fun K => lex_Words.f K (strOfNums (List.replicate m (32 : Int)))) (if 4000 < m then ([], 0, 11) else ([], (m : Int), 0)) := by
  have hs : (strOfNums (List.replicate m (32 : Int))).size = m := by rw [← T_len, strOf_blanks, List.length_replicate]
  by_cases h : 4000 < m
  · rw [if_pos h]
    exact lexWords_big _ (by omega)
  · rw [if_neg h]
    have e := lexWords_ev (strOfNums (List.replicate m (32 : Int))) (by omega)
    rw [strOf_blanks, scan_blanks, hs] at e
    exact e
theorem n1_ev (n : Nat) (hn : n ≤ 30) : Ev (fun K => lex_Words.f K ((⟨#[97, 32]⟩ : ByteArray) ++ nm n)) (resW [] 0 (n + 2) (scanF (n + 3) (n1 n))) := by
  have ht : T ((⟨#[97, 32]⟩ : ByteArray) ++ nm n) = n1 n := by rw [T_append]; rfl
  have hs : ((⟨#[97, 32]⟩ : ByteArray) ++ nm n).size = n + 2 := by rw [← T_len, ht]; simp [n1]
  have e := lexWords_ev ((⟨#[97, 32]⟩ : ByteArray) ++ nm n) (by omega)
  rw [ht, hs] at e
  exact e
theorem n2_ev (n : Nat) (hn : n ≤ 30) : Ev (fun K => lex_Words.f K ((⟨#[97, 32, 58]⟩ : ByteArray) ++ nm n)) (resW [] 0 (n + 3) (scanF (n + 4) (n2 n))) := by
  have ht : T ((⟨#[97, 32, 58]⟩ : ByteArray) ++ nm n) = n2 n := by rw [T_append]; rfl
  have hs : ((⟨#[97, 32, 58]⟩ : ByteArray) ++ nm n).size = n + 3 := by rw [← T_len, ht]; simp [n2]
  have e := lexWords_ev ((⟨#[97, 32, 58]⟩ : ByteArray) ++ nm n) (by omega)
  rw [ht, hs] at e
  exact e
theorem resW_fst (n : Nat) (r : List S27 × Option Nat) : (r.2 = none → resW [] 0 n r = (r.1, (n : Int), 0)) ∧ (∀ e, r.2 = some e → resW [] 0 n r = ([], (e : Int), 14)) := by
  refine ⟨fun h => ?_, fun e h => ?_⟩
  · unfold resW; rw [h]; simp
  · unfold resW; rw [h]; simp
theorem l1_loop (x5 : Int) (x6 : ByteArray) (x8 : List S27) (x9 x10 x12 x13 : Int) (n : Nat) (hn : n ≤ 5000) (r : Bool)
    (he : Ev (fun K => mullionlaw8_LexLong.l1 K x5 x6 x8 x9 x10 x12 x13 (n : Int) (List.replicate n 32) (n : Int)) r) (d : Nat) : ∀ i : Nat, i + d = n →
    Ev (fun K => mullionlaw8_LexLong.l1 K x5 x6 x8 x9 x10 x12 x13 (n : Int) (List.replicate i 32 ++ List.replicate d 0) (i : Int)) r := by
  induction d with
  | zero =>
    intro i hi
    have e : i = n := by omega
    subst e
    simpa using he
  | succ d ih =>
    intro i hi
    have e := ih (i + 1) (by omega)
    refine Ev.step (fun K => ?_) e
    simp only [mullionlaw8_LexLong.l1]
    have hset : (List.replicate i (32 : Int) ++ List.replicate (d + 1) 0).set i 32 = List.replicate (i + 1) 32 ++ List.replicate d 0 := by
      rw [List.set_append_right _ _ (by simp), List.length_replicate, Nat.sub_self, List.replicate_succ, List.set_cons_zero, List.replicate_succ', List.append_assoc]
      rfl
    rw [if_pos (by omega), if_pos (by omega), if_pos (by rw [List.length_append, List.length_replicate, List.length_replicate]; omega), show ((i : Int)).toNat = i by omega, hset, wrapS i (by omega)]
/-- The last question, whatever the texts were. -/
theorem j2_ev (n : Nat) (hn : n ≤ 30) (x8 : List S27) (x9 x10 x12 x13 : Int) (hsy : symB (List.replicate n 113) = decide (n ≤ 20)) (h1 : n ≤ 20 → x10 = 0 ∧ x8.length = 2 ∧ x13 = 0) (h2 : 20 < n → x10 = 14 ∧ x9 = 2 ∧ x13 = 14 ∧ x12 = 2) :
    Ev (fun K => mullionlaw8_LexLong.j2 K (n : Int) (nm n) x8 x9 x10 x12 x13 false) true := by
  refine Ev.one (fun K => ?_)
  have hs := Symbol_eq (nm n) (by rw [nm_size]; omega)
  have ht : T (nm n) = List.replicate n 113 := rfl
  rw [ht, hsy] at hs
  simp only [mullionlaw8_LexLong.j2, Bool.false_eq_true, if_false]
  by_cases h : n ≤ 20
  · obtain ⟨a1, a2, a3⟩ := h1 h
    rw [if_neg (by omega), if_pos a1, if_pos (by omega), if_pos a3, hs, Option.bind_some, decide_eq_true h]
  · obtain ⟨a1, a2, a3, a4⟩ := h2 (by omega)
    rw [if_pos (by omega), if_pos a1, if_pos a2, if_pos a3, if_pos a4, hs, Option.bind_some, decide_eq_false h]
    rfl
theorem l1_end (n m : Nat) (hn : n ≤ 30) (hm : m ≤ 4100) (x8 : List S27) (x9 x10 x12 x13 : Int) (hsy : symB (List.replicate n 113) = decide (n ≤ 20)) (h1 : n ≤ 20 → x10 = 0 ∧ x8.length = 2 ∧ x13 = 0) (h2 : 20 < n → x10 = 14 ∧ x9 = 2 ∧ x13 = 14 ∧ x12 = 2) :
    Ev (fun K => mullionlaw8_LexLong.l1 K (n : Int) (nm n) x8 x9 x10 x12 x13 (m : Int) (List.replicate m 32) (m : Int)) true := by
  have hj := j2_ev n hn x8 x9 x10 x12 x13 hsy h1 h2
  have hb := blanks_ev m hm
  refine Ev.step (fun K => by simp only [mullionlaw8_LexLong.l1]; rw [if_neg (by omega)]) (Ev.bind hb ?_)
  by_cases h : 4000 < m
  · rw [if_pos h]
    refine Ev.congr (fun K => ?_) hj
    dsimp only
    rw [if_pos (by omega), if_pos (by trivial), if_pos (by trivial), if_neg (by omega)]
  · rw [if_neg h]
    refine Ev.congr (fun K => ?_) hj
    dsimp only
    rw [if_neg (by omega), if_pos (by omega), if_pos (by trivial)]
    simp
theorem l0_loop (a1 : Int) (n : Nat) (hn : n ≤ 30) (r : Bool) (he : Ev (fun K => mullionlaw8_LexLong.l0 K a1 (n : Int) (nm n) (n : Int)) r) (d : Nat) : ∀ i : Nat, i + d = n → Ev (fun K => mullionlaw8_LexLong.l0 K a1 (n : Int) (nm i) (i : Int)) r := by
  induction d with
  | zero =>
    intro i hi
    have e : i = n := by omega
    rw [e]
    exact he
  | succ d ih =>
    intro i hi
    refine Ev.step (fun K => ?_) (ih (i + 1) (by omega))
    simp only [mullionlaw8_LexLong.l0]
    rw [if_pos (by omega), if_pos (by rw [nm_size]; omega), nm_succ, wrapS i (by omega)]
theorem l0_end (a1 : Int) (n m : Nat) (hn : 19 ≤ n ∧ n < 22) (hm : m ≤ 4100) (w2 : wrap64 (3999 + wrap64 (Int.tmod a1 3)) = (m : Int)) : Ev (fun K => mullionlaw8_LexLong.l0 K a1 (n : Int) (nm n) (n : Int)) true := by
  obtain ⟨⟨hsm, hbg⟩, hsy⟩ := names3 n hn.2 hn.1
  have r1 := resW_fst (n + 2) (scanF (n + 3) (n1 n))
  have r2 := resW_fst (n + 3) (scanF (n + 4) (n2 n))
  have h1 : n ≤ 20 → (resW [] 0 (n + 2) (scanF (n + 3) (n1 n))).2.2 = 0 ∧ (resW [] 0 (n + 2) (scanF (n + 3) (n1 n))).1.length = 2 ∧ (resW [] 0 (n + 3) (scanF (n + 4) (n2 n))).2.2 = 0 := by
    intro h
    obtain ⟨b1, b2, b3⟩ := hsm h
    rw [r1.1 b2, r2.1 b3]
    exact ⟨rfl, b1, rfl⟩
  have h2 : 20 < n → (resW [] 0 (n + 2) (scanF (n + 3) (n1 n))).2.2 = 14 ∧ (resW [] 0 (n + 2) (scanF (n + 3) (n1 n))).2.1 = 2 ∧ (resW [] 0 (n + 3) (scanF (n + 4) (n2 n))).2.2 = 14 ∧ (resW [] 0 (n + 3) (scanF (n + 4) (n2 n))).2.1 = 2 := by
    intro h
    obtain ⟨b1, b2⟩ := hbg h
    rw [r1.2 _ b1, r2.2 _ b2]
    exact ⟨rfl, rfl, rfl, rfl⟩
  have hl := l1_loop (n : Int) (nm n) (resW [] 0 (n + 2) (scanF (n + 3) (n1 n))).1 (resW [] 0 (n + 2) (scanF (n + 3) (n1 n))).2.1 (resW [] 0 (n + 2) (scanF (n + 3) (n1 n))).2.2 (resW [] 0 (n + 3) (scanF (n + 4) (n2 n))).2.1 (resW [] 0 (n + 3) (scanF (n + 4) (n2 n))).2.2 m (by omega) true (l1_end n m (by omega) hm _ _ _ _ _ hsy h1 h2) m 0 (by omega)
  have c1 : 2 + (nm n).size ≤ 9223372036854775807 := by rw [nm_size]; omega
  have c2 : 3 + (nm n).size ≤ 9223372036854775807 := by rw [nm_size]; omega
  have c3 : (0 : Int) ≤ (m : Int) := by omega
  have c4 : ((m : Int)).toNat ≤ 281474976710656 := by omega
  refine Ev.step (f := fun K => (lex_Words.f K ((⟨#[97, 32]⟩ : ByteArray) ++ nm n)).bind fun bt288 => (lex_Words.f K ((⟨#[97, 32, 58]⟩ : ByteArray) ++ nm n)).bind fun bt293 => mullionlaw8_LexLong.l1 K (n : Int) (nm n) bt288.1 bt288.2.1 bt288.2.2 bt293.2.1 bt293.2.2 (m : Int) (List.replicate m 0) 0) (fun K => ?_) (Ev.bind (n1_ev n (by omega)) (Ev.bind (n2_ev n (by omega)) hl))
  simp only [mullionlaw8_LexLong.l0]
  rw [if_neg (by omega), if_pos c1]
  simp only [if_pos c2, w2, if_pos c3, if_pos c4]
  rfl
theorem LexLong : mullionlaw8_LexLong.Pure := by
  intro a0 a1 hw0 hw1
  have bnd : ∀ a : Int, (Lit.int .u8 a).wf = true → ∃ m : Nat, m < 3 ∧ Int.tmod a 3 = (m : Int) := by
    intro a hw
    simp [Lit.wf] at hw
    have e1 : IntKind.u8.min = 0 := by decide
    rw [e1] at hw
    obtain ⟨i, rfl⟩ := Int.eq_ofNat_of_zero_le hw.1
    exact ⟨i % 3, Nat.mod_lt _ (by decide), rfl⟩
  obtain ⟨p, hp, ep⟩ := bnd a0 hw0
  obtain ⟨q, hq, eq⟩ := bnd a1 hw1
  have w1 : wrap64 (19 + wrap64 (Int.tmod a0 3)) = ((19 + p : Nat) : Int) := by rw [ep]; unfold wrap64; omega
  have w2 : wrap64 (3999 + wrap64 (Int.tmod a1 3)) = ((3999 + q : Nat) : Int) := by rw [eq]; unfold wrap64; omega
  refine Ev.rounds (g := fun k => mullionlaw8_LexLong.f k a0 a1) ?_
  refine Ev.congr (fun k => by unfold mullionlaw8_LexLong.f; rfl) (Ev.bind known_ev ?_)
  simp only [if_true, w1]
  have := l0_end a1 (19 + p) (3999 + q) ⟨by clear w1 w2; omega, by clear w1 w2; omega⟩ (by clear w1 w2; omega) w2
  exact l0_loop a1 (19 + p) (by clear w1 w2; omega) true this (19 + p) 0 (by clear w1 w2; omega)
end Go.Proofs.Ytegeleijdobmeaa.Pure
