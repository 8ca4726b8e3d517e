/- The words of a text, as a plain function over lists of bytes; what the code's functions answer of it. -/
import Derived.Test.YtegeleijdobmeaaPAllx3
namespace Go.Proofs.Ytegeleijdobmeaa.Pure
open Go.RowKit Go.Proofs.Ytegeleijdobmeaa.PAll Go.Proofs.YtegeleijdobmeaaW.PrintWords Go.Proofs.YtegeleijdobmeaaW.PrintLast
set_option linter.unusedVariables false
theorem Ev.one {α : Type} {g : Nat → Option α} {r : α} (h : ∀ k, g (k + 1) = some r) : Ev g r := ⟨1, fun k hk => by
  obtain ⟨m, rfl⟩ : ∃ m, k = m + 1 := ⟨k - 1, by omega⟩
  exact h m⟩
theorem Ev.uniq {α : Type} {g : Nat → Option α} {a b : α} (h : Ev g a) (h2 : Ev g b) : a = b := by
  obtain ⟨K, hK⟩ := h
  obtain ⟨J, hJ⟩ := h2
  have h3 := hK (max K J) (by omega)
  have h4 := hJ (max K J) (by omega)
  rw [h3] at h4
  exact Option.some.inj h4
abbrev Bs := List UInt8
def T (s : ByteArray) : Bs := s.data.toList
def U (l : Bs) : ByteArray := ⟨l.toArray⟩
theorem T_U (l : Bs) : T (U l) = l := rfl
theorem U_T (s : ByteArray) : U (T s) = s := rfl
theorem T_len (s : ByteArray) : (T s).length = s.size := rfl
theorem T_inj {a b : ByteArray} (h : T a = T b) : a = b := by rw [← U_T a, ← U_T b, h]
theorem toList_T (s : ByteArray) : s.toList = T s := Go.ByteArray.toList_eq s
theorem T_extract (s : ByteArray) (i j : Nat) : T (s.extract i j) = ((T s).drop i).take (j - i) := by
  unfold T
  rw [ByteArray.data_extract, Array.toList_extract]
theorem extract_take (s : ByteArray) (n : Nat) : s.extract 0 n = U ((T s).take n) := T_inj (by rw [T_extract, T_U]; simp)
theorem extract_drop (s : ByteArray) (i : Nat) : s.extract i s.size = U ((T s).drop i) := T_inj (by
  rw [T_extract, T_U, List.take_of_length_le (by rw [List.length_drop, T_len]; omega)])
theorem T_append (a b : ByteArray) : T (a ++ b) = T a ++ T b := by unfold T; rw [ByteArray.data_append]; simp
theorem bt_cons {s : ByteArray} {c : UInt8} {t : Bs} (h : T s = c :: t) : bt s 0 = (c.toNat : Int) := by
  have hs : 0 < s.size := by rw [← T_len, h]; simp
  obtain ⟨b, hb, e⟩ := bt_drop s 0 (by omega) (by omega)
  rw [e]
  have : (T s).drop 0 = b :: (T s).drop 1 := hb
  rw [h, List.drop_zero] at this
  injection this with this _
  rw [this]
theorem bt_at' {s : ByteArray} {i : Nat} {c : UInt8} {t : Bs} (h : (T s).drop i = c :: t) : bt s (i : Int) = (c.toNat : Int) := by
  have hs : i < s.size := by
    have := congrArg List.length h
    rw [List.length_drop, T_len, List.length_cons] at this
    omega
  obtain ⟨b, hb, e⟩ := bt_drop s (i : Int) (by omega) (by omega)
  rw [e]
  have h2 : (T s).drop i = b :: (T s).drop (i + 1) := hb
  rw [h] at h2
  injection h2 with h2 _
  rw [h2]
def blankB (c : Int) : Bool := c == 32 || c == 9 || c == 13 || c == 10
theorem blank_eq (c : Int) : lex_blank.f c = some (blankB c) := by
  unfold lex_blank.f blankB
  by_cases h1 : c = 32
  · simp [h1]
  by_cases h2 : c = 9
  · simp [h2]
  by_cases h3 : c = 13
  · simp [h3]
  rw [if_neg h1, if_neg h2, if_neg h3]
  simp [h1, h2, h3]
theorem digit_eq (c : Int) : lex_digit.f c = some (digB c) := by
  unfold lex_digit.f digB
  by_cases h1 : c ≥ 48
  · simp [h1]
  · simp [h1]
theorem letter_eq (c : Int) : lex_letter.f c = some (letB c) := by
  unfold lex_letter.f letB
  rw [digit_eq, Option.bind_some]
  by_cases h0 : digB c = true
  · simp [h0]
  have h0 : digB c = false := by simpa using h0
  rw [if_neg (by simp [h0])]
  have e : strings_IndexByte.f (⟨#[126, 33, 64, 36, 37, 94, 38, 42, 95, 45, 43, 61, 60, 62, 46, 63, 47]⟩ : ByteArray) c = some (Lib.indexByte othersL c.toNat.toUInt8) := rfl
  rw [e]
  simp only [Option.bind_some]
  by_cases h1 : c ≥ 97
  · by_cases h2 : c ≤ 122
    · simp [h0, h1, h2]
    · have h3 : c ≥ 65 := by omega
      have h4 : ¬ c ≤ 90 := by omega
      simp [h0, h1, h2, h3, h4]
  · by_cases h3 : c ≥ 65
    · by_cases h4 : c ≤ 90
      · simp [h0, h1, h3, h4]
      · simp [h0, h1, h3, h4]
    · simp [h0, h1, h3]
theorem isB51 : isB ((51 : Nat) : Int) = digB := rfl
theorem isB52 : isB ((52 : Nat) : Int) = letB := rfl
def notnl (c : Int) : Bool := c != 10
theorem isB48 : isB ((48 : Nat) : Int) = notnl := rfl
theorem run_eq (s : ByteArray) (hs : s.size ≤ 1000000) (fn : Nat) (h : fn = 51 ∨ fn = 52 ∨ fn = 48) : lex_run.f s fn = some (U ((T s).take (PAll.runN (isB (fn : Int)) (T s)))) := by
  unfold lex_run.f
  rw [if_pos (by omega), if_pos h, extract_take]
  rfl
/-- A symbol. -/
def symB (l : Bs) : Bool := match l with
  | [] => false
  | c :: t => decide (l.length ≤ 20) && !(digB (c.toNat : Int)) && PAll.runN letB l == l.length
theorem take_runN_eq (p : Int → Bool) (l : Bs) : (l.take (PAll.runN p l) == l) = (PAll.runN p l == l.length) := by
  have hle := PAll.runN_le p l
  by_cases h : PAll.runN p l = l.length
  · rw [h, List.take_length, beq_self_eq_true, beq_self_eq_true]
  · have : ¬ (l.take (PAll.runN p l) = l) := by
      intro e
      have := congrArg List.length e
      rw [List.length_take] at this
      omega
    rw [beq_eq_false_iff_ne.mpr this, beq_eq_false_iff_ne.mpr h]
theorem Symbol_eq (s : ByteArray) (hs : s.size ≤ 1000000) : lex_Symbol.f s = some (symB (T s)) := by
  unfold lex_Symbol.f
  rw [toList_T]
  cases hl : T s with
  | nil => simp [symB]
  | cons c t =>
    have hlen : (c :: t).length = s.size := by rw [← hl, T_len]
    have hpos : 0 < s.size := by rw [← hlen]; simp
    rw [if_neg (by simp)]
    unfold symB
    by_cases h20 : (s.size : Int) ≤ 20
    · rw [if_pos h20, if_pos (by omega), bt_cons hl, digit_eq, Option.bind_some]
      have d20 : decide ((c :: t).length ≤ 20) = true := decide_eq_true (by omega)
      rw [d20]
      cases hd : digB (c.toNat : Int)
      · rw [if_neg (by simp), run_eq s hs 52 (by simp), Option.bind_some, toList_T, T_U, isB52, hl, take_runN_eq]
        simp [hd]
      · simp [hd]
    · rw [if_neg h20]
      have d20 : decide ((c :: t).length ≤ 20) = false := decide_eq_false (by omega)
      rw [d20]
      simp
def S (k : Int) (l : Bs) : S27 := ⟨k, U l⟩
/-- The word at the beginning. -/
def tok : Bs → Option (S27 × Nat)
  | [] => none
  | c :: t =>
    if c = 40 then some (S 1 [], 1) else if c = 41 then some (S 2 [], 1)
    else if digB (c.toNat : Int) = true then
      (if PAll.runN digB (c :: t) = PAll.runN letB (c :: t) ∧ ¬ (c = 48 ∧ PAll.runN digB (c :: t) > 1) then some (S 3 ((c :: t).take (PAll.runN digB (c :: t))), PAll.runN digB (c :: t)) else none)
    else if c = 58 then (if symB (t.take (PAll.runN letB t)) = true then some (S 5 (t.take (PAll.runN letB t)), 1 + PAll.runN letB t) else none)
    else if symB ((c :: t).take (PAll.runN letB (c :: t))) = true then some (S 4 ((c :: t).take (PAll.runN letB (c :: t))), PAll.runN letB (c :: t)) else none
theorem tok_cons (c : UInt8) (t : Bs) : tok (c :: t) = (
    if c = 40 then some (S 1 [], 1) else if c = 41 then some (S 2 [], 1)
    else if digB (c.toNat : Int) = true then
      (if PAll.runN digB (c :: t) = PAll.runN letB (c :: t) ∧ ¬ (c = 48 ∧ PAll.runN digB (c :: t) > 1) then some (S 3 ((c :: t).take (PAll.runN digB (c :: t))), PAll.runN digB (c :: t)) else none)
    else if c = 58 then (if symB (t.take (PAll.runN letB t)) = true then some (S 5 (t.take (PAll.runN letB t)), 1 + PAll.runN letB t) else none)
    else if symB ((c :: t).take (PAll.runN letB (c :: t))) = true then some (S 4 ((c :: t).take (PAll.runN letB (c :: t))), PAll.runN letB (c :: t)) else none) := rfl
theorem toInt_eq (c : UInt8) (n : Nat) (hn : n < 256) : ((c.toNat : Int) = (n : Int)) ↔ c = n.toUInt8 := by
  constructor
  · intro h
    have h2 : c.toNat = n := by omega
    rw [← h2]
    exact (UInt8.ofNat_toNat).symm
  · intro h
    rw [h]
    have : (n.toUInt8).toNat = n := by
      show n % 256 = n
      omega
    rw [this]
theorem take_eq_iff {l : Bs} {a b : Nat} (ha : a ≤ l.length) (hb : b ≤ l.length) : (l.take a = l.take b) ↔ a = b := by
  constructor
  · intro h
    have := congrArg List.length h
    rw [List.length_take, List.length_take] at this
    omega
  · intro h; rw [h]
theorem word_eq (s : ByteArray) (hs : s.size ≤ 1000000) (c : UInt8) (t : Bs) (hl : T s = c :: t) :
    lex_word.f s = some (match tok (c :: t) with | none => (0, U [], 0) | some (x, n) => (x.f0, x.f1, (n : Int))) := by
  have hlen : (c :: t).length = s.size := by rw [← hl, T_len]
  have hpos : 0 < s.size := by rw [← hlen]; simp
  unfold lex_word.f
  rw [tok_cons, if_pos (by omega), bt_cons hl]
  by_cases h40 : c = 40
  · subst h40; rfl
  by_cases h41 : c = 41
  · subst h41; rfl
  have n40 : ¬ ((c.toNat : Int) = 40) := fun h => h40 ((toInt_eq c 40 (by omega)).mp h)
  have n41 : ¬ ((c.toNat : Int) = 41) := fun h => h41 ((toInt_eq c 41 (by omega)).mp h)
  rw [if_neg n40, if_neg n41, if_neg h40, if_neg h41, digit_eq, Option.bind_some]
  by_cases hd : digB (c.toNat : Int) = true
  · rw [if_pos hd, if_pos hd, run_eq s hs 51 (by simp), Option.bind_some, run_eq s hs 52 (by simp), Option.bind_some, toList_T, toList_T, T_U, T_U, isB51, isB52, hl]
    by_cases he : PAll.runN digB (c :: t) = PAll.runN letB (c :: t)
    · rw [if_pos (by rw [he])]
      have hsz : ((U ((c :: t).take (PAll.runN digB (c :: t)))).size : Int) = (PAll.runN digB (c :: t) : Int) := by
        rw [← T_len, T_U, List.length_take]
        have := PAll.runN_le digB (c :: t)
        omega
      by_cases h48 : c = 48
      · rw [if_pos (by rw [h48]; rfl), hsz]
        by_cases h1 : PAll.runN digB (c :: t) > 1
        · rw [if_pos (by omega), if_neg (by intro h; exact h.2 ⟨h48, h1⟩)]
          rfl
        · rw [if_neg (by omega), if_pos ⟨he, fun h => h1 h.2⟩]
          rfl
      · rw [if_neg (show ¬ ((c.toNat : Int) = 48) from fun h => h48 ((toInt_eq c 48 (by omega)).mp h)), if_pos ⟨he, fun h => h48 h.1⟩, hsz]
        rfl
    · rw [if_neg (fun h => he ((take_eq_iff (PAll.runN_le _ _) (PAll.runN_le _ _)).mp h)), if_neg (fun h => he h.1)]
      rfl
  · rw [if_neg hd, if_neg hd]
    by_cases h58 : c = 58
    · rw [if_pos (by rw [h58]; rfl), if_pos h58, if_pos (by omega)]
      have e1 : s.extract 1 s.size = U t := by rw [extract_drop, hl]; rfl
      have hts : (U t).size ≤ 1000000 := by
        rw [← T_len, T_U]
        rw [List.length_cons] at hlen
        omega
      have hle := PAll.runN_le letB t
      have hts2 : (U (t.take (PAll.runN letB t))).size ≤ 1000000 := by
        rw [← T_len, T_U, List.length_take]
        rw [List.length_cons] at hlen
        omega
      rw [e1, run_eq (U t) hts 52 (by simp), Option.bind_some, T_U, isB52, Symbol_eq _ hts2, Option.bind_some, T_U]
      have hsz : ((U (t.take (PAll.runN letB t))).size : Int) = (PAll.runN letB t : Int) := by
        rw [← T_len, T_U, List.length_take]
        omega
      have hw : wrap64 (1 + (PAll.runN letB t : Int)) = ((1 + PAll.runN letB t : Nat) : Int) := by
        rw [List.length_cons] at hlen
        unfold wrap64
        omega
      by_cases hy : symB (t.take (PAll.runN letB t)) = true
      · rw [if_pos hy, if_pos hy, hsz, hw]
        rfl
      · rw [if_neg hy, if_neg hy]
        rfl
    · rw [if_neg (show ¬ ((c.toNat : Int) = 58) from fun h => h58 ((toInt_eq c 58 (by omega)).mp h)), if_neg h58, run_eq s hs 52 (by simp), Option.bind_some, isB52, hl]
      have hle := PAll.runN_le letB (c :: t)
      have hts2 : (U ((c :: t).take (PAll.runN letB (c :: t)))).size ≤ 1000000 := by
        rw [← T_len, T_U, List.length_take]
        omega
      have hsz : ((U ((c :: t).take (PAll.runN letB (c :: t)))).size : Int) = (PAll.runN letB (c :: t) : Int) := by
        rw [← T_len, T_U, List.length_take]
        omega
      rw [Symbol_eq _ hts2, Option.bind_some, T_U]
      by_cases hy : symB ((c :: t).take (PAll.runN letB (c :: t))) = true
      · rw [if_pos hy, if_pos hy, hsz]
        rfl
      · rw [if_neg hy, if_neg hy]
        rfl
end Go.Proofs.Ytegeleijdobmeaa.Pure
