/- What Of, Is, held, trim, Even, Cmp, SameNat and the reference's own tell, in plain Lean. -/
import Derived.Test.YtdjefkdebobpmaaNatA
import Derived.Test.YtdjefkdebobpmaaPAllx10
import Derived.Test.YtdjefkdebobpmaaPAllx8
import Derived.Test.YtdjefkdebobpmaaPAllx6
namespace Go.Proofs.Ytdjefkdebobpmaa.NatB
open Go.RowKit Go.Proofs.Ytdjefkdebobpmaa.PAll Go.Proofs.YtdjefkdebobpmaaW.PrintWords Go.Proofs.Ytdjefkdebobpmaa.NatA

theorem Ev.of_eq {α : Type} {g : Nat → Option α} {r : α} (h : ∀ k, g k = some r) : Ev g r := ⟨0, fun k _ => h k⟩
theorem Ev.one {α : Type} {g : Nat → Option α} {r : α} (h : ∀ k, g (k + 1) = some r) : Ev g r := ⟨1, fun k hk => by
  obtain ⟨m, rfl⟩ : ∃ m, k = m + 1 := ⟨k - 1, by omega⟩
  exact h m⟩
theorem tmod_nat (a b : Nat) : Int.tmod (a : Int) (b : Int) = ((a % b : Nat) : Int) := by
  rw [Int.tmod_eq_emod_of_nonneg (by omega)]
  rfl
theorem tdiv_nat (a b : Nat) : Int.tdiv (a : Int) (b : Int) = ((a / b : Nat) : Int) := by
  rw [Int.tdiv_eq_ediv_of_nonneg (by omega)]
  rfl
theorem tmod_B (a : Nat) : Int.tmod (a : Int) 1000000000 = ((a % 1000000000 : Nat) : Int) := tmod_nat a 1000000000
theorem tdiv_B (a : Nat) : Int.tdiv (a : Int) 1000000000 = ((a / 1000000000 : Nat) : Int) := tdiv_nat a 1000000000
theorem low (a : Nat) : (((a % 1000000000 : Nat) : Int)) % 4294967296 = ((a % 1000000000 : Nat) : Int) := by omega

theorem Of_loop (m : Nat) : ∀ (n : Nat) (acc : List Int), n < P m → n < 18446744073709551616 → acc.length + m < 100000 → Ev (fun k => nat_Of.l0 k n acc) (acc ++ digs n) := by
  induction m with
  | zero =>
    intro n acc h _ _
    rw [P_zero] at h
    obtain rfl : n = 0 := by omega
    refine Ev.one (fun k => ?_)
    simp only [nat_Of.l0]
    rw [if_neg (by omega), digs_zero, List.append_nil]
  | succ m ih =>
    intro n acc h h64 ha
    by_cases e : n = 0
    · subst e
      refine Ev.one (fun k => ?_)
      simp only [nat_Of.l0]
      rw [if_neg (by omega), digs_zero, List.append_nil]
    · have := ih (n / 1000000000) (acc ++ [((n % 1000000000 : Nat) : Int)]) (by rw [P_succ] at h; omega) (by omega) (by simp; omega)
      rw [List.append_assoc, show [((n % 1000000000 : Nat) : Int)] ++ digs (n / 1000000000) = digs n by rw [digs_pos (n := n) (by omega)]; rfl] at this
      refine Ev.step (fun k => ?_) this
      simp only [nat_Of.l0]
      rw [if_pos (by omega), if_pos (by omega), tdiv_B, tmod_B, low, u64w (by omega) (by omega)]
theorem Of_ev (n : Nat) (h : n < 18446744073709551616) : Ev (fun k => nat_Of.f k n) (digs n) := by
  have := Of_loop 3 n [] (by unfold P; omega) h (by simp)
  rw [List.nil_append] at this
  exact Ev.congr (fun k => by rw [nat_Of.f]) this
theorem NatOf_loop (m : Nat) : ∀ (n : Nat) (acc : List Int), n < P m → n < 18446744073709551616 → acc.length + m < 100000 → Ev (fun k => mullionref1_NatOf.l0 k n acc) (acc ++ digs n) := by
  induction m with
  | zero =>
    intro n acc h _ _
    rw [P_zero] at h
    obtain rfl : n = 0 := by omega
    refine Ev.one (fun k => ?_)
    simp only [mullionref1_NatOf.l0]
    rw [if_neg (by omega), digs_zero, List.append_nil]
  | succ m ih =>
    intro n acc h h64 ha
    by_cases e : n = 0
    · subst e
      refine Ev.one (fun k => ?_)
      simp only [mullionref1_NatOf.l0]
      rw [if_neg (by omega), digs_zero, List.append_nil]
    · have := ih (n / 1000000000) (acc ++ [((n % 1000000000 : Nat) : Int)]) (by rw [P_succ] at h; omega) (by omega) (by simp; omega)
      rw [List.append_assoc, show [((n % 1000000000 : Nat) : Int)] ++ digs (n / 1000000000) = digs n by rw [digs_pos (n := n) (by omega)]; rfl] at this
      refine Ev.step (fun k => ?_) this
      simp only [mullionref1_NatOf.l0]
      rw [if_pos (by omega), if_pos (by omega), tdiv_B, tmod_B, low, u64w (by omega) (by omega)]
theorem NatOf_ev (n : Nat) (h : n < 18446744073709551616) : Ev (fun k => mullionref1_NatOf.f k n) (digs n) := by
  have := NatOf_loop 3 n [] (by unfold P; omega) h (by simp)
  rw [List.nil_append] at this
  exact Ev.congr (fun k => by rw [mullionref1_NatOf.f]) this

theorem getD_mem {l : List Int} {i : Nat} (h : i < l.length) : l.getD i 0 ∈ l := by
  rw [List.getD_eq_getElem?_getD, List.getElem?_eq_getElem h]
  exact List.getElem_mem h
theorem isNatB_big {l : List Int} {i : Nat} (h : i < l.length) (hb : l.getD i 0 ≥ 1000000000) : isNatB l = false := by
  unfold isNatB
  rw [Bool.and_eq_false_iff]
  left
  rw [decide_eq_false_iff_not]
  intro hh
  have := hh _ (getD_mem h)
  omega
theorem all_of {l : List Int} {p : Int → Prop} (h : ∀ i, i < l.length → p (l.getD i 0)) : ∀ x ∈ l, p x := by
  intro x hx
  obtain ⟨i, hi, rfl⟩ := List.mem_iff_getElem.1 hx
  have := h i hi
  rw [List.getD_eq_getElem?_getD, List.getElem?_eq_getElem hi] at this
  exact this
theorem last_ne {l : List Int} (h0 : NonNeg l) (h : 0 < l.length) : (l.getD (l.length - 1) 0 != 0) = (limb l (l.length - 1) != 0) := by
  have := h0 _ (getD_mem (l := l) (i := l.length - 1) (by omega))
  unfold limb
  rw [Bool.eq_iff_iff, bne_iff_ne, bne_iff_ne]
  omega
theorem isNatB_all {l : List Int} (h : ∀ x ∈ l, x < 1000000000) : isNatB l = (decide (l.length = 0) || limb l (l.length - 1) != 0) := by
  unfold isNatB
  rw [decide_eq_true h, Bool.true_and]
theorem Is_loop (l : List Int) (h0 : NonNeg l) (hl : l.length < 100000) (d : Nat) : ∀ i : Nat, i + d = l.length → (∀ j, j < i → l.getD j 0 < 1000000000) → Ev (fun k => nat_Is.l0 k l l (l.length : Int) (i : Int)) (isNatB l) := by
  induction d with
  | zero =>
    intro i hi hb
    obtain rfl : i = l.length := by omega
    refine Ev.one (fun k => ?_)
    simp only [nat_Is.l0]
    rw [if_neg (by omega)]
    have hall : (∀ x ∈ l, x < 1000000000) := all_of (p := fun x => x < 1000000000) hb
    by_cases e : l.length = 0
    · rw [if_pos (by omega)]
      rw [isNatB_all hall]
      simp [e]
    · rw [if_neg (by omega), w64 (by omega) (by omega), if_pos (by omega), if_pos (by omega), show ((l.length : Int) - 1) = ((l.length - 1 : Nat) : Int) by omega, rd_nat, last_ne h0 (by omega)]
      rw [isNatB_all hall]
      simp [e]
  | succ d ih =>
    intro i hi hb
    by_cases e : l.getD i 0 ≥ 1000000000
    · refine Ev.one (fun k => ?_)
      simp only [nat_Is.l0]
      rw [if_pos (by omega), if_pos (by omega), if_pos (by omega), rd_nat, if_pos e, isNatB_big (by omega) e]
    · refine Ev.step (fun k => ?_) (ih (i + 1) (by omega) (fun j hj => by
        by_cases e2 : j = i
        · subst e2
          omega
        · exact hb j (by omega)))
      simp only [nat_Is.l0]
      rw [if_pos (by omega), if_pos (by omega), if_pos (by omega), rd_nat, if_neg e, w64 (by omega) (by omega)]
      rfl
theorem Is_ev (l : List Int) (h0 : NonNeg l) (hl : l.length < 100000) : Ev (fun k => nat_Is.f k l) (isNatB l) :=
  Ev.congr (fun k => by rw [nat_Is.f]; rfl) (Is_loop l h0 hl l.length 0 (by omega) (fun _ h => by omega))
theorem IsNat_loop (l : List Int) (h0 : NonNeg l) (hl : l.length < 100000) (d : Nat) : ∀ i : Nat, i + d = l.length → (∀ j, j < i → l.getD j 0 < 1000000000) → Ev (fun k => mullionref1_IsNat.l0 k l (i : Int)) (isNatB l) := by
  induction d with
  | zero =>
    intro i hi hb
    obtain rfl : i = l.length := by omega
    refine Ev.one (fun k => ?_)
    simp only [mullionref1_IsNat.l0]
    rw [if_neg (by omega)]
    have hall : (∀ x ∈ l, x < 1000000000) := all_of (p := fun x => x < 1000000000) hb
    by_cases e : l.length = 0
    · rw [if_pos (by omega)]
      rw [isNatB_all hall]
      simp [e]
    · rw [if_neg (by omega), w64 (by omega) (by omega), if_pos (by omega), if_pos (by omega), show ((l.length : Int) - 1) = ((l.length - 1 : Nat) : Int) by omega, rd_nat, last_ne h0 (by omega)]
      rw [isNatB_all hall]
      simp [e]
  | succ d ih =>
    intro i hi hb
    by_cases e : l.getD i 0 ≥ 1000000000
    · refine Ev.one (fun k => ?_)
      simp only [mullionref1_IsNat.l0]
      rw [if_pos (by omega), if_pos (by omega), rd_nat, if_pos e, isNatB_big (by omega) e]
    · refine Ev.step (fun k => ?_) (ih (i + 1) (by omega) (fun j hj => by
        by_cases e2 : j = i
        · subst e2
          omega
        · exact hb j (by omega)))
      simp only [mullionref1_IsNat.l0]
      rw [if_pos (by omega), if_pos (by omega), rd_nat, if_neg e, w64 (by omega) (by omega)]
      rfl
theorem IsNat_ev (l : List Int) (h0 : NonNeg l) (hl : l.length < 100000) : Ev (fun k => mullionref1_IsNat.f k l) (isNatB l) :=
  Ev.congr (fun k => by rw [mullionref1_IsNat.f]; rfl) (IsNat_loop l h0 hl l.length 0 (by omega) (fun _ h => by omega))
theorem held_ev (l : List Int) (h0 : NonNeg l) (hl : l.length < 100000) : Ev (fun k => nat_held.f k l) (digs (V l)) := by
  refine Ev.congr (fun k => by rw [nat_held.f]) (Ev.bind (Is_ev l h0 hl) (Ev.of_eq (fun k => ?_)))
  rw [digs_V h0]
  split <;> rfl
theorem nat_ev (l : List Int) (h0 : NonNeg l) (hl : l.length < 100000) : Ev (fun k => mullionref1_nat.f k l) (digs (V l)) := by
  refine Ev.congr (fun k => by rw [mullionref1_nat.f]) (Ev.bind (IsNat_ev l h0 hl) (Ev.of_eq (fun k => ?_)))
  rw [digs_V h0]
  split <;> rfl

theorem trim_ev (d : Nat) : ∀ l : List Int, Limbs l → l.length = d → d < 100000 → Ev (fun k => nat_trim.f k l) (digs (val l)) := by
  induction d with
  | zero =>
    intro l _ h _
    obtain rfl := List.length_eq_zero_iff.1 h
    refine Ev.congr (fun k => by rw [nat_trim.f]) (Ev.one (fun k => ?_))
    simp only [nat_trim.l0]
    rw [if_neg (by simp), val_nil, digs_zero]
  | succ d ih =>
    intro l hL h hd
    have hrd : rd l ((l.length : Int) - 1) = (limb l d : Int) := by
      rw [show ((l.length : Int) - 1) = (d : Int) by omega, rd_limb hL]
    refine Ev.congr (f := fun k => nat_trim.l0 k l) (fun k => by rw [nat_trim.f]) ?_
    by_cases e : limb l d = 0
    · have h1 := ih (l.take d) (hL.take d) (by simp; omega) (by omega)
      have h2 : val l = val (l.take d) := by
        rw [val_take (by omega)]
        show S (limb l) l.length = _
        rw [h, S_succ, e, Nat.zero_mul, Nat.add_zero]
      rw [h2]
      refine Ev.step (f := fun k => nat_trim.l0 k (l.take d)) (fun k => ?_) (Ev.congr (fun k => by rw [nat_trim.f]) h1)
      simp only [nat_trim.l0]
      rw [w64 (by omega) (by omega), if_pos (by omega), if_pos (by omega), if_pos (by omega), hrd, e, if_pos (by rfl), if_pos (by omega), show ((l.length : Int) - 1).toNat = d by omega]
    · refine Ev.one (fun k => ?_)
      simp only [nat_trim.l0]
      rw [w64 (by omega) (by omega), if_pos (by omega), if_pos (by omega), if_pos (by omega), hrd, if_neg (by omega), digs_val hL (.inr (by rw [h]; exact e))]
theorem rtrim_loop (l : List Int) (hL : Limbs l) (hl : l.length < 100000) (d : Nat) : d ≤ l.length → Ev (fun k => mullionref1_trim.l0 k l (d : Int)) (digs (val (l.take d))) := by
  induction d with
  | zero =>
    intro _
    refine Ev.one (fun k => ?_)
    simp only [mullionref1_trim.l0]
    rw [if_neg (by omega), if_pos (by omega), if_pos (by omega)]
    simp [val_nil, digs_zero]
  | succ d ih =>
    intro hd
    have hrd : rd l (((d + 1 : Nat) : Int) - 1) = (limb l d : Int) := by
      rw [show (((d + 1 : Nat) : Int) - 1) = (d : Int) by omega, rd_limb hL]
    by_cases e : limb l d = 0
    · have h2 : val (l.take (d + 1)) = val (l.take d) := by
        rw [val_take hd, val_take (by omega), S_succ, e, Nat.zero_mul, Nat.add_zero]
      rw [h2]
      refine Ev.step (fun k => ?_) (ih (by omega))
      simp only [mullionref1_trim.l0]
      rw [if_pos (by omega), w64 (by omega) (by omega), if_pos (by omega), if_pos (by omega), hrd, e, if_pos (by rfl), show ((d + 1 : Nat) : Int) - 1 = (d : Int) by omega]
    · refine Ev.one (fun k => ?_)
      simp only [mullionref1_trim.l0]
      rw [if_pos (by omega), w64 (by omega) (by omega), if_pos (by omega), if_pos (by omega), hrd, if_neg (by omega), if_pos (by omega), if_pos (by omega)]
      rw [digs_val (hL.take _) (.inr (by
        rw [List.length_take, Nat.min_eq_left hd, Nat.add_sub_cancel]
        unfold limb at e ⊢
        rw [List.getD_eq_getElem?_getD, List.getElem?_take_of_lt (by omega), ← List.getD_eq_getElem?_getD]
        exact e))]
      rfl
theorem rtrim_ev (l : List Int) (hL : Limbs l) (hl : l.length < 100000) : Ev (fun k => mullionref1_trim.f k l) (digs (val l)) := by
  have := rtrim_loop l hL hl l.length (Nat.le_refl _)
  rw [List.take_length] at this
  exact Ev.congr (fun k => by rw [mullionref1_trim.f]) this

theorem Even_ev (l : List Int) (h0 : NonNeg l) (hl : l.length < 100000) : Ev (fun k => nat_Even.f k l) (decide (V l % 2 = 0)) := by
  refine Ev.congr (fun k => by rw [nat_Even.f]) (Ev.bind (held_ev l h0 hl) (Ev.of_eq (fun k => ?_)))
  by_cases e : V l = 0
  · rw [e, digs_zero]
    rfl
  · have h1 := digs_len_pos (n := V l) (by omega)
    rw [if_neg (by omega), if_pos (by omega)]
    have h2 : rd (digs (V l)) 0 = ((V l % 1000000000 : Nat) : Int) := by
      rw [digs_pos (by omega)]
      rfl
    have h3 : Int.tmod ((V l % 1000000000 : Nat) : Int) 2 = ((V l % 1000000000 % 2 : Nat) : Int) := tmod_nat _ 2
    rw [h2, h3]
    congr 1
    rw [Bool.eq_iff_iff, beq_iff_eq, decide_eq_true_eq]
    omega

theorem cmpZ_self (x : Nat) : cmpZ x x = 0 := by simp [cmpZ]
theorem S_top {f g : Nat → Nat} (n : Nat) (hf : ∀ i, f i < 1000000000) (h : f n < g n) : S f (n + 1) < S g (n + 1) := by
  have h1 := S_lt n (fun i _ => hf i)
  rw [S_succ, S_succ]
  have h2 : (f n + 1) * P n ≤ g n * P n := Nat.mul_le_mul_right _ h
  rw [Nat.add_mul] at h2
  omega
theorem Cmp_loop (a b : List Int) (hA : Limbs a) (hB : Limbs b) (hl : a.length = b.length) (hl2 : a.length < 100000) (d : Nat) : d ≤ a.length → Ev (fun k => nat_Cmp.l0 k a b ((d : Int) - 1)) (cmpZ (S (limb a) d) (S (limb b) d)) := by
  induction d with
  | zero =>
    intro _
    refine Ev.one (fun k => ?_)
    simp only [nat_Cmp.l0]
    rw [if_neg (by omega)]
    rfl
  | succ d ih =>
    intro hd
    have e1 : (((d + 1 : Nat) : Int) - 1) = (d : Int) := by omega
    have ha := rd_limb hA d
    have hb := rd_limb hB d
    by_cases e : limb a d = limb b d
    · have e2 : cmpZ (S (limb a) (d + 1)) (S (limb b) (d + 1)) = cmpZ (S (limb a) d) (S (limb b) d) := by
        unfold cmpZ
        rw [S_succ, S_succ, e]
        simp only [Nat.add_lt_add_iff_right]
      rw [e2]
      refine Ev.step (fun k => ?_) (ih (by omega))
      simp only [nat_Cmp.l0]
      rw [e1, if_pos (by omega), if_pos (by omega), if_pos (by omega), if_pos (by omega), ha, hb, if_pos (by rw [e]), w64 (by omega) (by omega)]
    · refine Ev.one (fun k => ?_)
      simp only [nat_Cmp.l0, cmp_Compare_uint32.f, cmp_isNaN_uint32.f]
      rw [e1, if_pos (by omega), if_pos (by omega), if_pos (by omega), if_pos (by omega), ha, hb, if_neg (by omega)]
      simp only [bne_self_eq_false, Option.bind_some, Bool.false_eq_true, if_false]
      unfold cmpZ
      by_cases e3 : limb a d < limb b d
      · have := S_top d (limb_lt hA) e3
        rw [if_pos (by omega), if_pos this]
        rfl
      · have := S_top (g := limb a) d (limb_lt hB) (by omega)
        rw [if_neg (by omega), if_pos (by omega), if_neg (by omega), if_pos this]
        rfl
theorem len_cmp {x y : Nat} (h : (digs x).length < (digs y).length) : x < y := by
  have := digs_len_le y (digs x).length
  have h2 := (digs_len_le x (digs x).length).1 (Nat.le_refl _)
  omega
theorem Cmp_ev (a b : List Int) (ha : NonNeg a) (hb : NonNeg b) (hla : a.length < 100000) (hlb : b.length < 100000) : Ev (fun k => nat_Cmp.f k a b) (cmpZ (V a) (V b)) := by
  refine Ev.congr (fun k => by rw [nat_Cmp.f]) (Ev.bind (held_ev a ha hla) (Ev.bind (held_ev b hb hlb) ?_))
  have h1 := digs_V_len ha
  by_cases e : (digs (V a)).length = (digs (V b)).length
  · have h2 := Cmp_loop (digs (V a)) (digs (V b)) (Limbs_digs _) (Limbs_digs _) e (by omega) (digs (V a)).length (Nat.le_refl _)
    rw [show S (limb (digs (V a))) (digs (V a)).length = V a from val_digs _, e, show S (limb (digs (V b))) (digs (V b)).length = V b from val_digs _] at h2
    refine Ev.congr (fun k => ?_) h2
    rw [if_pos (by omega), w64 (by omega) (by omega), e]
  · refine Ev.of_eq (fun k => ?_)
    rw [if_neg (by omega)]
    simp only [cmp_Compare_int.f, cmp_isNaN_int.f, bne_self_eq_false, Option.bind_some, Bool.false_eq_true, if_false]
    unfold cmpZ
    by_cases e3 : (digs (V a)).length < (digs (V b)).length
    · have := len_cmp e3
      rw [if_pos (by omega), if_pos this]
      rfl
    · have := len_cmp (x := V b) (y := V a) (by omega)
      rw [if_neg (by omega), if_pos (by omega), if_neg (by omega), if_pos this]
      rfl
theorem CmpNat_loop (a b : List Int) (hA : Limbs a) (hB : Limbs b) (hl : a.length = b.length) (hl2 : a.length < 100000) (d : Nat) : d ≤ a.length → Ev (fun k => mullionref1_CmpNat.l0 k a b ((d : Int) - 1)) (cmpZ (S (limb a) d) (S (limb b) d)) := by
  induction d with
  | zero =>
    intro _
    refine Ev.one (fun k => ?_)
    simp only [mullionref1_CmpNat.l0]
    rw [if_neg (by omega)]
    rfl
  | succ d ih =>
    intro hd
    have e1 : (((d + 1 : Nat) : Int) - 1) = (d : Int) := by omega
    have ha := rd_limb hA d
    have hb := rd_limb hB d
    by_cases e : limb a d = limb b d
    · have e2 : cmpZ (S (limb a) (d + 1)) (S (limb b) (d + 1)) = cmpZ (S (limb a) d) (S (limb b) d) := by
        unfold cmpZ
        rw [S_succ, S_succ, e]
        simp only [Nat.add_lt_add_iff_right]
      rw [e2]
      refine Ev.step (fun k => ?_) (ih (by omega))
      simp only [mullionref1_CmpNat.l0]
      rw [e1, if_pos (by omega), if_pos (by omega), if_pos (by omega), if_pos (by omega), ha, hb, if_neg (by omega), if_neg (by omega), w64 (by omega) (by omega)]
    · refine Ev.one (fun k => ?_)
      simp only [mullionref1_CmpNat.l0]
      rw [e1, if_pos (by omega), if_pos (by omega), if_pos (by omega), if_pos (by omega), ha, hb]
      unfold cmpZ
      by_cases e3 : limb a d < limb b d
      · have := S_top d (limb_lt hA) e3
        rw [if_pos (by omega), if_pos this]
      · have := S_top (g := limb a) d (limb_lt hB) (by omega)
        rw [if_neg (by omega), if_pos (by omega), if_neg (by omega), if_pos this]
theorem CmpNat_ev (a b : List Int) (ha : NonNeg a) (hb : NonNeg b) (hla : a.length < 100000) (hlb : b.length < 100000) : Ev (fun k => mullionref1_CmpNat.f k a b) (cmpZ (V a) (V b)) := by
  refine Ev.congr (fun k => by rw [mullionref1_CmpNat.f]) (Ev.bind (nat_ev a ha hla) (Ev.bind (nat_ev b hb hlb) ?_))
  have h1 := digs_V_len ha
  by_cases e : (digs (V a)).length = (digs (V b)).length
  · have h2 := CmpNat_loop (digs (V a)) (digs (V b)) (Limbs_digs _) (Limbs_digs _) e (by omega) (digs (V a)).length (Nat.le_refl _)
    rw [show S (limb (digs (V a))) (digs (V a)).length = V a from val_digs _, e, show S (limb (digs (V b))) (digs (V b)).length = V b from val_digs _] at h2
    refine Ev.congr (fun k => ?_) h2
    rw [if_pos (by omega), w64 (by omega) (by omega), e]
  · refine Ev.of_eq (fun k => ?_)
    rw [if_neg (by omega)]
    unfold cmpZ
    by_cases e3 : (digs (V a)).length < (digs (V b)).length
    · have := len_cmp e3
      rw [if_pos (by omega), if_pos this]
    · have := len_cmp (x := V b) (y := V a) (by omega)
      rw [if_neg (by omega), if_neg (by omega), if_pos this]

theorem SameNat_loop (a : List Int) (hl : a.length < 100000) (d : Nat) : ∀ i : Nat, i + d = a.length → Ev (fun k => mullionref1_SameNat.l0 k a a (i : Int)) true := by
  induction d with
  | zero =>
    intro i hi
    refine Ev.one (fun k => ?_)
    simp only [mullionref1_SameNat.l0]
    rw [if_neg (by omega)]
  | succ d ih =>
    intro i hi
    refine Ev.step (fun k => ?_) (ih (i + 1) (by omega))
    simp only [mullionref1_SameNat.l0]
    rw [if_pos (by omega), if_pos (by omega), if_pos (by omega), if_pos (by trivial), w64 (by omega) (by omega)]
    rfl
theorem SameNat_ev (a : List Int) (hl : a.length < 100000) : Ev (fun k => mullionref1_SameNat.f k a a) true := by
  refine Ev.congr (fun k => by rw [mullionref1_SameNat.f, if_pos rfl]; rfl) (SameNat_loop a hl a.length 0 (by omega))
theorem shift_ev (l : List Int) (x : Nat) (hL : Limbs l) (hx : x < 1000000000) (hl : l.length < 50000) : Ev (fun k => mullionref1_shift.f k l x) (digs (x + 1000000000 * val l)) := by
  have h1 := rtrim_ev ([(x : Int)] ++ l) (Limbs.append (Limbs.one (by omega) (by omega)) hL) (by simp; omega)
  rw [val_append, val_one] at h1
  refine Ev.congr (f := fun k => (mullionref1_trim.f k ([(x : Int)] ++ l)).bind fun t => some t) (fun k => ?_) (Ev.bind h1 (Ev.of_eq (fun k => ?_)))
  · rw [mullionref1_shift.f]
    simp only [Option.bind_some]
    rw [if_pos (by simp; omega)]
  · simp [P_one]
end Go.Proofs.Ytdjefkdebobpmaa.NatB
