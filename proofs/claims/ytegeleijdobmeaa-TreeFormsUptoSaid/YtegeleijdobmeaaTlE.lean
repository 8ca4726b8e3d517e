/- The document's words, one behind the other: the same plain function tells them. -/
import Derived.Test.YtegeleijdobmeaaTlD
import Derived.Test.YtegeleijdobmeaaPAllx15
namespace Go.Proofs.Ytegeleijdobmeaa.Pure
open Go.RowKit Go.Proofs.Ytegeleijdobmeaa.PAll Go.Proofs.YtegeleijdobmeaaW.PrintWords Go.Proofs.YtegeleijdobmeaaW.PrintLast
set_option linter.unusedVariables false
/-- What the document's 'one' tells at a number's end. -/
theorem one_end (s : ByteArray) (hs : s.size ≤ 100000) (at_ n : Nat) (c : UInt8) (t : Bs) (hl : (T s).drop at_ = c :: t) (hd : digB (c.toNat : Int) = true) (hn : n = PAll.runN digB (c :: t)) (b : Bool)
    (hb : b = (PAll.runN digB (c :: t) == PAll.runN letB (c :: t))) (hb2 : at_ + n = s.size → b = true)
    (hsg : at_ + n < s.size → ∃ e : UInt8, bt s ((at_ + n : Nat) : Int) = (e.toNat : Int) ∧ b = !(letB (e.toNat : Int))) (hle : at_ + n ≤ s.size) :
    Ev (fun K => if (0 : Int) ≤ (at_ : Int) then (if (at_ : Int) ≤ ((at_ + n : Nat) : Int) then (if ((at_ + n : Nat) : Int) ≤ (s.size : Int) then (if (s.extract ((at_ : Int)).toNat (((at_ + n : Nat) : Int)).toNat).toList = ([48] : List UInt8) then (if ((at_ + n : Nat) : Int) = (s.size : Int) then (some ((3 : Int), s.extract ((at_ : Int)).toNat (((at_ + n : Nat) : Int)).toNat, ((at_ + n : Nat) : Int), true)) else ((mullionref8_sign.f K (bt s ((at_ + n : Nat) : Int))).bind fun t172 => (some ((3 : Int), s.extract ((at_ : Int)).toNat (((at_ + n : Nat) : Int)).toNat, ((at_ + n : Nat) : Int), !t172)))) else (if 0 < ((s.extract ((at_ : Int)).toNat (((at_ + n : Nat) : Int)).toNat).size : Int) then (if (bt (s.extract ((at_ : Int)).toNat (((at_ + n : Nat) : Int)).toNat) 0) = 48 then (some ((3 : Int), s.extract ((at_ : Int)).toNat (((at_ + n : Nat) : Int)).toNat, ((at_ + n : Nat) : Int), false)) else (if ((at_ + n : Nat) : Int) = (s.size : Int) then (some ((3 : Int), s.extract ((at_ : Int)).toNat (((at_ + n : Nat) : Int)).toNat, ((at_ + n : Nat) : Int), true)) else ((mullionref8_sign.f K (bt s ((at_ + n : Nat) : Int))).bind fun t173 => (some ((3 : Int), s.extract ((at_ : Int)).toNat (((at_ + n : Nat) : Int)).toNat, ((at_ + n : Nat) : Int), !t173))))) else (none))) else (none)) else (none)) else (none))
      ((3 : Int), U ((c :: t).take n), ((at_ + n : Nat) : Int), b && !(decide (c = 48 ∧ n > 1))) := by
  have hn1 : 1 ≤ n := by rw [hn, PAll.runN, if_pos hd]; omega
  have hx : s.extract ((at_ : Int)).toNat (((at_ + n : Nat) : Int)).toNat = U ((c :: t).take n) := by
    rw [extract_U, show ((at_ : Int)).toNat = at_ by omega, show (((at_ + n : Nat) : Int)).toNat = at_ + n by omega, hl, show at_ + n - at_ = n by omega]
  rw [hx]
  have hcons : (c :: t).take n = c :: t.take (n - 1) := by
    obtain ⟨m, rfl⟩ : ∃ m, n = m + 1 := ⟨n - 1, by omega⟩
    simp
  have hbt : bt (U ((c :: t).take n)) 0 = (c.toNat : Int) := bt_cons (t := t.take (n - 1)) (by rw [T_U, hcons])
  have hsz : (U ((c :: t).take n)).size = n := by
    rw [U_size, List.length_take]
    have := PAll.runN_le digB (c :: t)
    omega
  have c1 : (0 : Int) ≤ (at_ : Int) := by omega
  have c2 : (at_ : Int) ≤ ((at_ + n : Nat) : Int) := by omega
  have c3 : ((at_ + n : Nat) : Int) ≤ (s.size : Int) := by omega
  simp only [if_pos c1, if_pos c2, if_pos c3, toList_T, T_U, hsz, hbt]
  have fin : ∀ v : Bool, v = b → Ev (fun K => if ((at_ + n : Nat) : Int) = (s.size : Int) then (some ((3 : Int), U ((c :: t).take n), ((at_ + n : Nat) : Int), true)) else ((mullionref8_sign.f K (bt s ((at_ + n : Nat) : Int))).bind fun t172 => (some ((3 : Int), U ((c :: t).take n), ((at_ + n : Nat) : Int), !t172)))) ((3 : Int), U ((c :: t).take n), ((at_ + n : Nat) : Int), v) := by
    intro v hv
    by_cases he : at_ + n = s.size
    · have e : ((at_ + n : Nat) : Int) = (s.size : Int) := by omega
      simp only [if_pos e]
      rw [hv, hb2 he]
      exact Ev.now _
    · have e : ¬ ((at_ + n : Nat) : Int) = (s.size : Int) := by omega
      simp only [if_neg e]
      obtain ⟨z, hz, hbz⟩ := hsg (by omega)
      simp only [hz]
      rw [hv, hbz]
      exact Ev.bind (sign_ev z) (Ev.now _)
  by_cases h1 : (c :: t).take n = [48]
  · have hc : c = 48 := by rw [hcons] at h1; injection h1
    have hn2 : n = 1 := by
      have := congrArg List.length h1
      rw [← T_U ((c :: t).take n), T_len, hsz] at this
      exact this
    have e2 : decide (c = 48 ∧ n > 1) = false := decide_eq_false (by omega)
    rw [e2]
    simp only [if_pos h1]
    exact fin _ (by simp)
  · simp only [if_neg h1, if_pos (show (0 : Int) < ((n : Nat) : Int) by omega)]
    by_cases h2 : c = 48
    · have h3 : (c.toNat : Int) = 48 := by rw [h2]; rfl
      simp only [if_pos h3]
      have hn2 : n > 1 := by
        by_cases hz : n = 1
        · exfalso
          apply h1
          rw [hcons, h2, hz]
          rfl
        · omega
      rw [decide_eq_true ⟨h2, hn2⟩]
      simp
      exact Ev.now _
    · have h3 : ¬ (c.toNat : Int) = 48 := fun h => h2 ((toInt_eq c 48 (by omega)).mp h)
      simp only [if_neg h3]
      have e2 : decide (c = 48 ∧ n > 1) = false := decide_eq_false (fun h => h2 h.1)
      rw [e2]
      exact fin _ (by simp)
theorem runN_pos {p : Int → Bool} {b : UInt8} {l : Bs} (h : p (b.toNat : Int) = true) : PAll.runN p (b :: l) = PAll.runN p l + 1 := by rw [PAll.runN, if_pos h]
theorem runN_zero {p : Int → Bool} {b : UInt8} {l : Bs} (h : p (b.toNat : Int) = false) : PAll.runN p (b :: l) = 0 := by rw [PAll.runN, if_neg (by rw [h]; simp)]
theorem runN_drop (p : Int → Bool) (l : Bs) (j : Nat) (h : j ≤ PAll.runN p l) : PAll.runN p l = j + PAll.runN p (l.drop j) := by
  induction j generalizing l with
  | zero => simp
  | succ j ih =>
    cases l with
    | nil => simp [PAll.runN] at h
    | cons c t =>
      by_cases hp : p (c.toNat : Int) = true
      · rw [PAll.runN, if_pos hp] at h ⊢
        rw [List.drop_succ_cons]
        have := ih t (by omega)
        omega
      · rw [PAll.runN, if_neg hp] at h
        omega
theorem one_loop (s : ByteArray) (hs : s.size ≤ 100000) (at_ : Nat) (c : UInt8) (t : Bs) (hl : (T s).drop at_ = c :: t) (hd : digB (c.toNat : Int) = true) : ∀ (d j : Nat), j + d = PAll.runN digB (c :: t) →
    Ev (fun K => mullionref8_one.l0 K s (at_ : Int) ((at_ + j : Nat) : Int)) ((3 : Int), U ((c :: t).take (PAll.runN digB (c :: t))), ((at_ + PAll.runN digB (c :: t) : Nat) : Int), (PAll.runN digB (c :: t) == PAll.runN letB (c :: t)) && !(decide (c = 48 ∧ PAll.runN digB (c :: t) > 1))) := by
  have hlen := congrArg List.length hl
  rw [List.length_drop, T_len] at hlen
  have hrl := PAll.runN_le digB (c :: t)
  have hpos : (c :: t).length = t.length + 1 := List.length_cons
  intro d
  induction d with
  | zero =>
    intro j hj
    have hj' : j = PAll.runN digB (c :: t) := by omega
    rw [hj']
    generalize hn : PAll.runN digB (c :: t) = n at *
    have hsp := runN_split (c :: t)
    rw [hn] at hsp
    have hdr : (T s).drop (at_ + n) = (c :: t).drop n := by rw [← hl, List.drop_drop]
    have hend := fun b hb hb2 hsg => one_end s hs at_ n c t hl hd hn.symm b hb hb2 hsg (by omega)
    rw [hn] at hend
    by_cases he : at_ + n = s.size
    · have hz : (c :: t).drop n = [] := List.drop_of_length_le (by omega)
      rw [hz] at hsp
      have hb : (n == PAll.runN letB (c :: t)) = true := by rw [hsp]; simp [PAll.runN]
      have e := hend true (by rw [hb]) (fun _ => rfl) (fun h => by omega)
      rw [hb]
      refine Ev.step (fun K => ?_) e
      simp only [mullionref8_one.l0]
      rw [if_neg (by omega)]
      have c4 : ((at_ + n : Nat) : Int) = (s.size : Int) := by omega
      simp only [if_pos c4]
    · have hlt : n < (c :: t).length := by omega
      have hcd := List.drop_eq_getElem_cons hlt
      have hb := bt_at' (hdr.trans hcd)
      have hnd : digB (((c :: t)[n]).toNat : Int) = false := by
        cases hh : digB (((c :: t)[n]).toNat : Int)
        · rfl
        · exfalso
          have h2 := runN_drop digB (c :: t) n (by omega)
          rw [hcd, runN_pos hh] at h2
          omega
      have e := hend (!(letB (((c :: t)[n]).toNat : Int))) (by
        rw [hsp, hcd, PAll.runN]
        cases hh : letB (((c :: t)[n]).toNat : Int)
        · simp
        · simp) (fun h => absurd h he) (fun _ => ⟨(c :: t)[n], hb, rfl⟩)
      have hbb : (n == PAll.runN letB (c :: t)) = !(letB (((c :: t)[n]).toNat : Int)) := by
        rw [hsp, hcd, PAll.runN]
        cases hh : letB (((c :: t)[n]).toNat : Int)
        · simp
        · simp
      rw [hbb]
      refine Ev.step (fun K => ?_) e
      simp only [mullionref8_one.l0]
      rw [if_pos (by omega), if_pos (by omega), hb, rdigit_eq, Option.bind_some, hnd, if_neg (by simp)]
  | succ d ih =>
    intro j hj
    have hlt : j < (c :: t).length := by omega
    have hdr : (T s).drop (at_ + j) = (c :: t).drop j := by rw [← hl, List.drop_drop]
    have hcd := List.drop_eq_getElem_cons hlt
    have hb := bt_at' (hdr.trans hcd)
    have hyd : digB (((c :: t)[j]).toNat : Int) = true := by
      cases hh : digB (((c :: t)[j]).toNat : Int)
      · exfalso
        have h2 := runN_drop digB (c :: t) j (by omega)
        rw [hcd, runN_zero hh] at h2
        omega
      · rfl
    refine Ev.step (fun K => ?_) (ih (j + 1) (by omega))
    simp only [mullionref8_one.l0]
    rw [if_pos (by omega), if_pos (by omega), hb, rdigit_eq, Option.bind_some, hyd, if_pos rfl, wrapS (at_ + j) (by omega)]
    rfl
theorem one_ev (s : ByteArray) (hs : s.size ≤ 100000) (at_ : Nat) (c : UInt8) (t : Bs) (hl : (T s).drop at_ = c :: t) :
    (∀ x m, tok (c :: t) = some (x, m) → Ev (fun K => mullionref8_one.f K s (at_ : Int)) (x.f0, x.f1, ((at_ + m : Nat) : Int), true)) ∧
    (tok (c :: t) = none → ∃ a b e, Ev (fun K => mullionref8_one.f K s (at_ : Int)) (a, b, e, false)) := by
  have hlen := congrArg List.length hl
  rw [List.length_drop, T_len, List.length_cons] at hlen
  have hb := bt_at' hl
  have c1 : (0 : Int) ≤ (at_ : Int) := by omega
  have c2 : (at_ : Int) < (s.size : Int) := by omega
  have w1 : wrap64 ((at_ : Int) + 1) = ((at_ + 1 : Nat) : Int) := wrapS at_ (by omega)
  rw [tok_cons]
  by_cases h40 : c = 40
  · subst h40
    rw [if_pos rfl]
    refine ⟨fun x m h => ?_, fun h => by cases h⟩
    injection h with h
    injection h with hx hm
    subst hx
    subst hm
    refine Ev.one (fun K => ?_)
    unfold mullionref8_one.f
    rw [if_pos c1, if_pos c2, hb, if_pos (by rfl), w1]
    rfl
  have n40 : ¬ ((c.toNat : Int) = 40) := fun h => h40 ((toInt_eq c 40 (by omega)).mp h)
  rw [if_neg h40]
  by_cases h41 : c = 41
  · subst h41
    rw [if_pos rfl]
    refine ⟨fun x m h => ?_, fun h => by cases h⟩
    injection h with h
    injection h with hx hm
    subst hx
    subst hm
    refine Ev.one (fun K => ?_)
    unfold mullionref8_one.f
    rw [if_pos c1, if_pos c2, hb, if_neg (by decide), if_pos (by rfl), w1]
    rfl
  have n41 : ¬ ((c.toNat : Int) = 41) := fun h => h41 ((toInt_eq c 41 (by omega)).mp h)
  rw [if_neg h41]
  by_cases hd : digB (c.toNat : Int) = true
  · rw [if_pos hd]
    have e := one_loop s hs at_ c t hl hd (PAll.runN digB (c :: t)) 0 (by omega)
    have e2 : Ev (fun K => mullionref8_one.f K s (at_ : Int)) ((3 : Int), U ((c :: t).take (PAll.runN digB (c :: t))), ((at_ + PAll.runN digB (c :: t) : Nat) : Int), (PAll.runN digB (c :: t) == PAll.runN letB (c :: t)) && !(decide (c = 48 ∧ PAll.runN digB (c :: t) > 1))) := by
      refine Ev.congr (fun K => ?_) e
      unfold mullionref8_one.f
      rw [if_pos c1, if_pos c2, hb, if_neg n40, if_neg n41, rdigit_eq, Option.bind_some, if_pos hd]
      rfl
    by_cases hok : PAll.runN digB (c :: t) = PAll.runN letB (c :: t) ∧ ¬(c = 48 ∧ PAll.runN digB (c :: t) > 1)
    · rw [if_pos hok]
      refine ⟨fun x m h => ?_, fun h => by cases h⟩
      injection h with h
      injection h with hx hm
      subst hx
      subst hm
      rw [decide_eq_false hok.2, beq_iff_eq.mpr hok.1] at e2
      exact e2
    · rw [if_neg hok]
      refine ⟨(fun x m h => by cases h), fun _ => ⟨(3 : Int), U ((c :: t).take (PAll.runN digB (c :: t))), ((at_ + PAll.runN digB (c :: t) : Nat) : Int), ?_⟩⟩
      have hf : ((PAll.runN digB (c :: t) == PAll.runN letB (c :: t)) && !(decide (c = 48 ∧ PAll.runN digB (c :: t) > 1))) = false := by
        by_cases g1 : PAll.runN digB (c :: t) = PAll.runN letB (c :: t)
        · have g2 : c = 48 ∧ PAll.runN digB (c :: t) > 1 := by
            by_cases g : c = 48 ∧ PAll.runN digB (c :: t) > 1
            · exact g
            · exact absurd ⟨g1, g⟩ hok
          rw [decide_eq_true g2]; simp
        · rw [beq_eq_false_iff_ne.mpr g1]; rfl
      rw [hf] at e2
      exact e2
  rw [if_neg hd]
  by_cases h58 : c = 58
  · rw [if_pos h58]
    have hle := PAll.runN_le letB t
    have hdr : (T s).drop (at_ + 1) = t := by rw [← List.drop_drop, hl]; rfl
    have hr := row_ev s hs (at_ + 1) (by omega)
    rw [hdr] at hr
    have hx : s.extract (((at_ + 1 : Nat) : Int)).toNat (((at_ + 1 + PAll.runN letB t : Nat) : Int)).toNat = U (t.take (PAll.runN letB t)) := by
      rw [extract_U, show (((at_ + 1 : Nat) : Int)).toNat = at_ + 1 by omega, show (((at_ + 1 + PAll.runN letB t : Nat) : Int)).toNat = at_ + 1 + PAll.runN letB t by omega, hdr, show at_ + 1 + PAll.runN letB t - (at_ + 1) = PAll.runN letB t by omega]
    have hsy := refSymbol_ev (U (t.take (PAll.runN letB t))) (by rw [U_size, List.length_take]; omega)
    rw [T_U] at hsy
    have n58 : (c.toNat : Int) = 58 := by rw [h58]; rfl
    have e2 : Ev (fun K => mullionref8_one.f K s (at_ : Int)) ((5 : Int), U (t.take (PAll.runN letB t)), ((at_ + 1 + PAll.runN letB t : Nat) : Int), symB (t.take (PAll.runN letB t))) := by
      have c3 : (0 : Int) ≤ ((at_ + 1 : Nat) : Int) := by omega
      have c4 : ((at_ + 1 : Nat) : Int) ≤ ((at_ + 1 + PAll.runN letB t : Nat) : Int) := by omega
      have c5 : ((at_ + 1 + PAll.runN letB t : Nat) : Int) ≤ (s.size : Int) := by omega
      refine Ev.congr (f := fun K => (mullionref8_row.f K s ((at_ + 1 : Nat) : Int)).bind fun t174 => (if (0 : Int) ≤ ((at_ + 1 : Nat) : Int) then (if ((at_ + 1 : Nat) : Int) ≤ t174 then (if t174 ≤ (s.size : Int) then ((mullionref8_Symbol.f K (s.extract (((at_ + 1 : Nat) : Int)).toNat (t174 : Int).toNat)).bind fun t175 => (some ((5 : Int), s.extract (((at_ + 1 : Nat) : Int)).toNat (t174 : Int).toNat, t174, t175))) else (none)) else (none)) else (none))) (fun K => ?_) (Ev.bind hr ?_)
      · unfold mullionref8_one.f
        rw [if_pos c1, if_pos c2, hb, if_neg n40, if_neg n41, rdigit_eq, Option.bind_some, if_neg hd, if_pos n58, w1]
      · simp only [if_pos c3, if_pos c4, if_pos c5, hx]
        exact Ev.bind hsy (Ev.now _)
    by_cases hy : symB (t.take (PAll.runN letB t)) = true
    · rw [if_pos hy]
      refine ⟨fun x m h => ?_, fun h => by cases h⟩
      injection h with h
      injection h with hx' hm
      subst hx'
      subst hm
      rw [hy] at e2
      rw [← Nat.add_assoc]
      exact e2
    · rw [if_neg hy]
      refine ⟨(fun x m h => by cases h), fun _ => ⟨(5 : Int), U (t.take (PAll.runN letB t)), ((at_ + 1 + PAll.runN letB t : Nat) : Int), ?_⟩⟩
      have hy' : symB (t.take (PAll.runN letB t)) = false := by simpa using hy
      rw [hy'] at e2
      exact e2
  rw [if_neg h58]
  have n58 : ¬ (c.toNat : Int) = 58 := fun h => h58 ((toInt_eq c 58 (by omega)).mp h)
  have hle := PAll.runN_le letB (c :: t)
  have hlc : (c :: t).length = t.length + 1 := List.length_cons
  have hsg := sign_ev c
  by_cases hlt : letB (c.toNat : Int) = true
  · have hr := row_ev s hs at_ (by omega)
    rw [hl] at hr
    have hx : s.extract ((at_ : Int)).toNat (((at_ + PAll.runN letB (c :: t) : Nat) : Int)).toNat = U ((c :: t).take (PAll.runN letB (c :: t))) := by
      rw [extract_U, show ((at_ : Int)).toNat = at_ by omega, show (((at_ + PAll.runN letB (c :: t) : Nat) : Int)).toNat = at_ + PAll.runN letB (c :: t) by omega, hl, show at_ + PAll.runN letB (c :: t) - at_ = PAll.runN letB (c :: t) by omega]
    have hsy := refSymbol_ev (U ((c :: t).take (PAll.runN letB (c :: t)))) (by rw [U_size, List.length_take]; omega)
    rw [T_U] at hsy
    have e2 : Ev (fun K => mullionref8_one.f K s (at_ : Int)) ((4 : Int), U ((c :: t).take (PAll.runN letB (c :: t))), ((at_ + PAll.runN letB (c :: t) : Nat) : Int), symB ((c :: t).take (PAll.runN letB (c :: t)))) := by
      have c4 : (at_ : Int) ≤ ((at_ + PAll.runN letB (c :: t) : Nat) : Int) := by omega
      have c5 : ((at_ + PAll.runN letB (c :: t) : Nat) : Int) ≤ (s.size : Int) := by omega
      refine Ev.congr (f := fun K => (mullionref8_sign.f K (c.toNat : Int)).bind fun t176 => (if t176 = true then ((mullionref8_row.f K s (at_ : Int)).bind fun t177 => (if (at_ : Int) ≤ t177 then (if t177 ≤ (s.size : Int) then ((mullionref8_Symbol.f K (s.extract ((at_ : Int)).toNat (t177 : Int).toNat)).bind fun t178 => (some ((4 : Int), s.extract ((at_ : Int)).toNat (t177 : Int).toNat, t177, t178))) else (none)) else (none))) else (some ((0 : Int), (⟨#[]⟩ : ByteArray), (at_ : Int), false)))) (fun K => ?_) (Ev.bind hsg ?_)
      · unfold mullionref8_one.f
        rw [if_pos c1, if_pos c2, hb, if_neg n40, if_neg n41, rdigit_eq, Option.bind_some, if_neg hd, if_neg n58]
      · simp only [hlt, if_true]
        refine Ev.bind hr ?_
        simp only [if_pos c4, if_pos c5, hx]
        exact Ev.bind hsy (Ev.now _)
    by_cases hy : symB ((c :: t).take (PAll.runN letB (c :: t))) = true
    · rw [if_pos hy]
      refine ⟨fun x m h => ?_, fun h => by cases h⟩
      injection h with h
      injection h with hx' hm
      subst hx'
      subst hm
      rw [hy] at e2
      exact e2
    · rw [if_neg hy]
      refine ⟨(fun x m h => by cases h), fun _ => ⟨(4 : Int), U ((c :: t).take (PAll.runN letB (c :: t))), ((at_ + PAll.runN letB (c :: t) : Nat) : Int), ?_⟩⟩
      have hy' : symB ((c :: t).take (PAll.runN letB (c :: t))) = false := by simpa using hy
      rw [hy'] at e2
      exact e2
  · have hz : PAll.runN letB (c :: t) = 0 := by rw [PAll.runN, if_neg hlt]
    have hy : ¬ symB ((c :: t).take (PAll.runN letB (c :: t))) = true := by rw [hz]; simp [symB]
    rw [if_neg hy]
    refine ⟨(fun x m h => by cases h), fun _ => ⟨0, (⟨#[]⟩ : ByteArray), (at_ : Int), ?_⟩⟩
    refine Ev.congr (f := fun K => (mullionref8_sign.f K (c.toNat : Int)).bind fun t176 => (if t176 = true then ((mullionref8_row.f K s (at_ : Int)).bind fun t177 => (if (at_ : Int) ≤ t177 then (if t177 ≤ (s.size : Int) then ((mullionref8_Symbol.f K (s.extract ((at_ : Int)).toNat (t177 : Int).toNat)).bind fun t178 => (some ((4 : Int), s.extract ((at_ : Int)).toNat (t177 : Int).toNat, t177, t178))) else (none)) else (none))) else (some ((0 : Int), (⟨#[]⟩ : ByteArray), (at_ : Int), false)))) (fun K => ?_) (Ev.bind hsg ?_)
    · unfold mullionref8_one.f
      rw [if_pos c1, if_pos c2, hb, if_neg n40, if_neg n41, rdigit_eq, Option.bind_some, if_neg hd, if_neg n58]
    · simp only [if_neg hlt]
      exact Ev.now _
end Go.Proofs.Ytegeleijdobmeaa.Pure
