/- A text's words, one behind the other: the plain function; what the code's Words answers of it. -/
import Derived.Test.YtegeleijdobmeaaTlA
namespace Go.Proofs.Ytegeleijdobmeaa.Pure
open Go.RowKit Go.Proofs.Ytegeleijdobmeaa.PAll Go.Proofs.YtegeleijdobmeaaW.PrintWords Go.Proofs.YtegeleijdobmeaaW.PrintLast
set_option linter.unusedVariables false
/-- The words; where a byte is that begins none. -/
def scanF : Nat → Bs → List S27 × Option Nat
  | 0, _ => ([], none)
  | _ + 1, [] => ([], none)
  | k + 1, c :: t =>
    if blankB (c.toNat : Int) = true then ((scanF k t).1, (scanF k t).2.map (· + 1))
    else if c = 59 then ((scanF k ((c :: t).drop (PAll.runN notnl (c :: t)))).1, (scanF k ((c :: t).drop (PAll.runN notnl (c :: t)))).2.map (· + PAll.runN notnl (c :: t)))
    else match tok (c :: t) with
      | none => ([], some 0)
      | some (x, m) => (x :: (scanF k ((c :: t).drop m)).1, (scanF k ((c :: t).drop m)).2.map (· + m))
theorem tok_pos {l : Bs} {x : S27} {m : Nat} (h : tok l = some (x, m)) : 1 ≤ m ∧ m ≤ l.length := by
  cases l with
  | nil => simp [tok] at h
  | cons c t =>
    rw [tok_cons] at h
    have hd0 : digB (c.toNat : Int) = true → 1 ≤ PAll.runN digB (c :: t) := fun hd => by rw [PAll.runN, if_pos hd]; omega
    have hle := PAll.runN_le digB (c :: t)
    have hle2 := PAll.runN_le letB (c :: t)
    have hle3 := PAll.runN_le letB t
    have hlc : (c :: t).length = t.length + 1 := List.length_cons
    by_cases h1 : c = 40
    · rw [if_pos h1] at h
      injection h with h
      injection h with _ h
      omega
    rw [if_neg h1] at h
    by_cases h2 : c = 41
    · rw [if_pos h2] at h
      injection h with h
      injection h with _ h
      omega
    rw [if_neg h2] at h
    by_cases hd : digB (c.toNat : Int) = true
    · rw [if_pos hd] at h
      split at h
      · injection h with h
        injection h with _ h
        have := hd0 hd
        omega
      · cases h
    rw [if_neg hd] at h
    by_cases h3 : c = 58
    · rw [if_pos h3] at h
      split at h
      · injection h with h
        injection h with _ h
        omega
      · cases h
    rw [if_neg h3] at h
    split at h
    · rename_i hy
      injection h with h
      injection h with _ h
      subst h
      refine ⟨?_, hle2⟩
      by_cases hz : PAll.runN letB (c :: t) = 0
      · rw [hz] at hy
        simp [symB] at hy
      · omega
    · cases h
theorem rem_pos (t : Bs) : 1 ≤ PAll.runN notnl ((59 : UInt8) :: t) := by
  rw [PAll.runN, if_pos (by decide)]
  omega
def resW (out : List S27) (at_ n : Nat) (r : List S27 × Option Nat) : List S27 × Int × Int := match r.2 with
  | none => (out ++ r.1, (n : Int), 0)
  | some e => ([], ((at_ + e : Nat) : Int), 14)
theorem resW_shift (out : List S27) (at_ m n : Nat) (x : List S27) (r : List S27 × Option Nat) : resW out at_ n (x ++ r.1, r.2.map (· + m)) = resW (out ++ x) (at_ + m) n r := by
  unfold resW
  cases h : r.2 with
  | none => simp
  | some e =>
    have : at_ + (e + m) = at_ + m + e := by omega
    simp [this]
theorem wrapN (a b : Nat) (h : a + b ≤ 1000000) : wrap64 ((a : Int) + (b : Int)) = ((a + b : Nat) : Int) := by unfold wrap64; omega
theorem U_size (l : Bs) : (U l).size = l.length := rfl
theorem lexWords_loop (s : ByteArray) (hs : s.size ≤ 4100) : ∀ (k at_ : Nat) (out : List S27), s.size - at_ < k → at_ ≤ s.size → out.length ≤ at_ →
    Ev (fun K => lex_Words.l0 K s out (at_ : Int)) (resW out at_ s.size (scanF k ((T s).drop at_))) := by
  intro k
  induction k with
  | zero => intro at_ out h; omega
  | succ k ih =>
    intro at_ out hk hat hout
    cases hl : (T s).drop at_ with
    | nil =>
      have hlen := congrArg List.length hl
      rw [List.length_drop, T_len, List.length_nil] at hlen
      refine Ev.one (fun K => ?_)
      simp only [lex_Words.l0]
      rw [if_neg (by omega), scanF]
      simp [resW]
    | cons c t =>
      have hlen := congrArg List.length hl
      rw [List.length_drop, T_len, List.length_cons] at hlen
      have hb := bt_at' hl
      have hdrop : ∀ m : Nat, (T s).drop (at_ + m) = (c :: t).drop m := fun m => by rw [← hl, List.drop_drop]
      have c1 : (at_ : Int) < (s.size : Int) := by omega
      have c2 : (0 : Int) ≤ (at_ : Int) := by omega
      rw [scanF]
      by_cases hbl : blankB (c.toNat : Int) = true
      · rw [if_pos hbl]
        have e := ih (at_ + 1) out (by omega) (by omega) (by omega)
        rw [hdrop 1] at e
        have e2 := resW_shift out at_ 1 s.size [] (scanF k t)
        rw [List.append_nil] at e2
        rw [show ((scanF k t).1, Option.map (fun x => x + 1) (scanF k t).2) = ([] ++ (scanF k t).1, Option.map (fun x => x + 1) (scanF k t).2) from rfl, e2]
        refine Ev.step (fun K => ?_) e
        simp only [lex_Words.l0]
        rw [if_pos c1, if_pos c2, hb, blank_eq, Option.bind_some, if_pos hbl, show wrap64 ((at_ : Int) + 1) = ((at_ + 1 : Nat) : Int) from wrapN at_ 1 (by omega)]
      · rw [if_neg hbl]
        by_cases h59 : c = 59
        · rw [if_pos h59]
          have hm := rem_pos t
          have hm2 := PAll.runN_le notnl (c :: t)
          rw [← h59] at hm
          have hlc : (c :: t).length = t.length + 1 := List.length_cons
          have e := ih (at_ + PAll.runN notnl (c :: t)) out (by omega) (by omega) (by omega)
          rw [hdrop] at e
          have e2 := resW_shift out at_ (PAll.runN notnl (c :: t)) s.size [] (scanF k ((c :: t).drop (PAll.runN notnl (c :: t))))
          rw [List.append_nil] at e2
          rw [List.nil_append] at e2
          rw [e2]
          refine Ev.step (fun K => ?_) e
          simp only [lex_Words.l0]
          have hx : s.extract ((at_ : Int)).toNat s.size = U (c :: t) := by rw [extract_drop]; exact congrArg U hl
          have hxs : (U (c :: t)).size ≤ 1000000 := by rw [U_size]; omega
          rw [if_pos c1, if_pos c2, hb, blank_eq, Option.bind_some, if_neg hbl, if_pos (by rw [h59]; rfl), if_pos (by omega), hx, run_eq _ hxs 48 (by simp), Option.bind_some, isB48, T_U, U_size, List.length_take, Nat.min_eq_left hm2, wrapN at_ _ (by omega)]
        · rw [if_neg h59]
          have n59 : ¬ ((c.toNat : Int) = 59) := fun h => h59 ((toInt_eq c 59 (by omega)).mp h)
          have hx : s.extract ((at_ : Int)).toNat s.size = U (c :: t) := by rw [extract_drop]; exact congrArg U hl
          have hxs : (U (c :: t)).size ≤ 1000000 := by rw [U_size, List.length_cons]; omega
          have hw := word_eq (U (c :: t)) hxs c t rfl
          cases ht : tok (c :: t) with
          | none =>
            rw [ht] at hw
            refine Ev.one (fun K => ?_)
            simp only [lex_Words.l0]
            rw [if_pos c1, if_pos c2, hb, blank_eq, Option.bind_some, if_neg hbl, if_neg n59, if_pos (by omega), hx, hw, Option.bind_some]
            simp [resW]
          | some xm =>
            obtain ⟨x, m⟩ := xm
            obtain ⟨hm1, hm2⟩ := tok_pos ht
            have hlc : (c :: t).length = t.length + 1 := List.length_cons
            rw [ht] at hw
            have e := ih (at_ + m) (out ++ [x]) (by omega) (by omega) (by rw [List.length_append, List.length_singleton]; omega)
            rw [hdrop] at e
            have e2 := resW_shift out at_ m s.size [x] (scanF k ((c :: t).drop m))
            rw [show [x] ++ (scanF k ((c :: t).drop m)).1 = x :: (scanF k ((c :: t).drop m)).1 from rfl] at e2
            dsimp only
            rw [e2]
            refine Ev.step (fun K => ?_) e
            simp only [lex_Words.l0]
            rw [if_pos c1, if_pos c2, hb, blank_eq, Option.bind_some, if_neg hbl, if_neg n59, if_pos (by omega), hx, hw, Option.bind_some]
            dsimp only
            rw [if_neg (by omega), if_pos (by omega), wrapN at_ m (by omega)]
/-- What Words answers. -/
theorem lexWords_ev (s : ByteArray) (hs : s.size ≤ 4000) : Ev (fun K => lex_Words.f K s) (resW [] 0 s.size (scanF (s.size + 1) (T s))) := by
  have e := lexWords_loop s (by omega) (s.size + 1) 0 [] (by omega) (by omega) (by simp)
  rw [List.drop_zero] at e
  refine Ev.congr (fun K => ?_) e
  unfold lex_Words.f
  rw [if_neg (by omega)]
  rfl
theorem lexWords_big (s : ByteArray) (hs : 4000 < s.size) : Ev (fun K => lex_Words.f K s) ([], 0, 11) := by
  refine Ev.one (fun K => ?_)
  unfold lex_Words.f
  rw [if_pos (by omega)]
end Go.Proofs.Ytegeleijdobmeaa.Pure
