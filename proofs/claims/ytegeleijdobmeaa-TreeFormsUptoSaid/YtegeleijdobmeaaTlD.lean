/- The document's words: what its functions answer, by the same plain function. -/
import Derived.Test.YtegeleijdobmeaaTlC
import Derived.Test.YtegeleijdobmeaaPAllx14
namespace Go.Proofs.Ytegeleijdobmeaa.Pure
open Go.RowKit Go.Proofs.Ytegeleijdobmeaa.PAll Go.Proofs.YtegeleijdobmeaaW.PrintWords Go.Proofs.YtegeleijdobmeaaW.PrintLast
set_option linter.unusedVariables false
theorem rdigit_eq (c : Int) : mullionref8_digit.f c = some (digB c) := by
  unfold mullionref8_digit.f digB
  by_cases h1 : c ≥ 48
  · simp [h1]
  · simp [h1]
theorem sign_all : ∀ n : Nat, n < 256 → mullionref8_sign.f 30 (n : Int) = some (letB (n : Int)) := by decide +kernel
theorem sign_ev (c : UInt8) : Ev (fun k => mullionref8_sign.f k (c.toNat : Int)) (letB (c.toNat : Int)) :=
  Ev.of (g := fun k => mullionref8_sign.f k (c.toNat : Int)) (fun k => mullionref8_sign.mono _ k) (k := 30) (sign_all c.toNat c.toNat_lt)
theorem dig_let (c : Int) (h : digB c = true) : letB c = true := by unfold letB; rw [h]; simp
theorem runN_split (l : Bs) : PAll.runN letB l = PAll.runN digB l + PAll.runN letB (l.drop (PAll.runN digB l)) := by
  induction l with
  | nil => rfl
  | cons c t ih =>
    by_cases hd : digB (c.toNat : Int) = true
    · have hl := dig_let _ hd
      rw [PAll.runN, if_pos hl, PAll.runN, if_pos hd, List.drop_succ_cons]
      omega
    · rw [show PAll.runN digB (c :: t) = 0 from by rw [PAll.runN, if_neg hd]]
      simp
/-- Whether a text is a symbol, all bytes told. -/
def symE : Bs → Bool → Bool
  | [], _ => false
  | c :: t, b => decide ((c :: t).length ≤ 20) && !(digB (c.toNat : Int)) && b
theorem symE_cons (c : UInt8) (t : Bs) (b : Bool) : symE (c :: t) b = (decide ((c :: t).length ≤ 20) && !(digB (c.toNat : Int)) && b) := rfl
theorem symB_E (l : Bs) : symB l = symE l (PAll.runN letB l == l.length) := by cases l <;> rfl
theorem symE_false (l : Bs) : symE l false = false := by cases l <;> simp [symE]
theorem refSymbol_loop (s : ByteArray) (hs : s.size ≤ 100000) : ∀ (d i : Nat), i + d = s.size → Ev (fun K => mullionref8_Symbol.l0 K s (i : Int)) (symE (T s) (PAll.runN letB ((T s).drop i) == d)) := by
  intro d
  induction d with
  | zero =>
    intro i hi
    rw [List.drop_of_length_le (by rw [T_len]; omega)]
    refine Ev.one (fun K => ?_)
    simp only [mullionref8_Symbol.l0]
    rw [if_neg (by omega)]
    cases hl : T s with
    | nil =>
      have hz : s.size = 0 := by rw [← T_len, hl]; rfl
      rw [if_neg (by omega)]
      rfl
    | cons c t =>
      have hlen : (c :: t).length = s.size := by rw [← hl, T_len]
      have hpos : 0 < s.size := by rw [← hlen]; simp
      rw [if_pos (by omega), symE_cons]
      by_cases h20 : s.size ≤ 20
      · rw [if_pos (by omega), if_pos (by omega), bt_cons hl, rdigit_eq, Option.bind_some, hlen, decide_eq_true h20]
        simp [PAll.runN]
      · rw [if_neg (by omega), hlen, decide_eq_false h20]
        simp
  | succ d ih =>
    intro i hi
    have hil : i < (T s).length := by rw [T_len]; omega
    have hd := List.drop_eq_getElem_cons hil
    have hb := bt_at' hd
    have hsg := sign_ev (T s)[i]
    rw [hd]
    by_cases hl : letB (((T s)[i]).toNat : Int) = true
    · rw [show PAll.runN letB ((T s)[i] :: (T s).drop (i + 1)) = PAll.runN letB ((T s).drop (i + 1)) + 1 from by rw [PAll.runN, if_pos hl]]
      have e2 : (PAll.runN letB ((T s).drop (i + 1)) + 1 == d + 1) = (PAll.runN letB ((T s).drop (i + 1)) == d) := by simp
      rw [e2]
      refine Ev.step (f := fun K => (mullionref8_sign.f K (((T s)[i]).toNat : Int)).bind fun t => if t = true then mullionref8_Symbol.l0 K s ((i + 1 : Nat) : Int) else some false) (fun K => ?_) (Ev.bind hsg ?_)
      · simp only [mullionref8_Symbol.l0]
        rw [if_pos (by rw [T_len] at hil; omega), if_pos (by omega), hb, wrapS i (by rw [T_len] at hil; omega)]
      · rw [hl]
        simp only [if_true]
        exact ih (i + 1) (by omega)
    · rw [show PAll.runN letB ((T s)[i] :: (T s).drop (i + 1)) = 0 from by rw [PAll.runN, if_neg hl]]
      rw [show ((0 : Nat) == d + 1) = false from by simp, symE_false]
      refine Ev.step (f := fun K => (mullionref8_sign.f K (((T s)[i]).toNat : Int)).bind fun t => if t = true then mullionref8_Symbol.l0 K s ((i + 1 : Nat) : Int) else some false) (fun K => ?_) (Ev.bind hsg ?_)
      · simp only [mullionref8_Symbol.l0]
        rw [if_pos (by rw [T_len] at hil; omega), if_pos (by omega), hb, wrapS i (by rw [T_len] at hil; omega)]
      · simp only [if_neg hl]
        exact Ev.now _
theorem refSymbol_ev (s : ByteArray) (hs : s.size ≤ 100000) : Ev (fun K => mullionref8_Symbol.f K s) (symB (T s)) := by
  have e := refSymbol_loop s hs s.size 0 (by omega)
  rw [List.drop_zero] at e
  rw [symB_E, T_len]
  exact Ev.congr (fun K => by unfold mullionref8_Symbol.f; rfl) e
theorem row_loop (s : ByteArray) (hs : s.size ≤ 100000) : ∀ (d i : Nat), i + d = s.size → Ev (fun K => mullionref8_row.l0 K s (i : Int)) ((i + PAll.runN letB ((T s).drop i) : Nat) : Int) := by
  intro d
  induction d with
  | zero =>
    intro i hi
    rw [List.drop_of_length_le (by rw [T_len]; omega)]
    refine Ev.one (fun K => ?_)
    simp only [mullionref8_row.l0]
    rw [if_neg (by omega)]
    rfl
  | succ d ih =>
    intro i hi
    have hil : i < (T s).length := by rw [T_len]; omega
    have hd := List.drop_eq_getElem_cons hil
    have hb := bt_at' hd
    have hsg := sign_ev (T s)[i]
    rw [hd]
    refine Ev.step (f := fun K => (mullionref8_sign.f K (((T s)[i]).toNat : Int)).bind fun t => if t = true then mullionref8_row.l0 K s ((i + 1 : Nat) : Int) else some (i : Int)) (fun K => ?_) (Ev.bind hsg ?_)
    · simp only [mullionref8_row.l0]
      rw [if_pos (by rw [T_len] at hil; omega), if_pos (by omega), hb, wrapS i (by rw [T_len] at hil; omega)]
    · by_cases hl : letB (((T s)[i]).toNat : Int) = true
      · rw [show PAll.runN letB ((T s)[i] :: (T s).drop (i + 1)) = PAll.runN letB ((T s).drop (i + 1)) + 1 from by rw [PAll.runN, if_pos hl], hl]
        simp only [if_true]
        have e := ih (i + 1) (by omega)
        rw [show i + (PAll.runN letB ((T s).drop (i + 1)) + 1) = i + 1 + PAll.runN letB ((T s).drop (i + 1)) by omega]
        exact e
      · rw [show PAll.runN letB ((T s)[i] :: (T s).drop (i + 1)) = 0 from by rw [PAll.runN, if_neg hl]]
        simp only [if_neg hl]
        exact Ev.now _
theorem row_ev (s : ByteArray) (hs : s.size ≤ 100000) (i : Nat) (hi : i ≤ s.size) : Ev (fun K => mullionref8_row.f K s (i : Int)) ((i + PAll.runN letB ((T s).drop i) : Nat) : Int) :=
  Ev.congr (fun K => by unfold mullionref8_row.f; rfl) (row_loop s hs (s.size - i) i (by omega))
theorem extract_U (s : ByteArray) (i j : Nat) : s.extract i j = U (((T s).drop i).take (j - i)) := T_inj (by rw [T_extract, T_U])
end Go.Proofs.Ytegeleijdobmeaa.Pure
