/- What Sub, Mul, by and the reference's SubNat, small, MulNat, DivNat tell, in plain Lean. -/
import Derived.Test.YtdjefkdebobpmaaNatC
namespace Go.Proofs.Ytdjefkdebobpmaa.NatD
open Go.RowKit Go.Proofs.Ytdjefkdebobpmaa.PAll Go.Proofs.YtdjefkdebobpmaaW.PrintWords Go.Proofs.Ytdjefkdebobpmaa.NatA Go.Proofs.Ytdjefkdebobpmaa.NatB Go.Proofs.Ytdjefkdebobpmaa.NatC

theorem cmpZ_le {x y : Nat} : cmpZ x y ≤ 0 ↔ x ≤ y := by
  unfold cmpZ
  split
  · omega
  · split <;> omega
theorem cmpZ_lt {x y : Nat} : cmpZ x y < 0 ↔ x < y := by
  unfold cmpZ
  split
  · omega
  · split <;> omega
theorem borrow_zero {va vb s c p : Nat} (h : s + vb = va + c * p) (hs : s < p) (hv : vb < va) (hc : c ≤ 1) : c = 0 := by
  rcases Nat.eq_zero_or_pos c with h0 | h0
  · exact h0
  · obtain rfl : c = 1 := by omega
    omega

/-! Sub -/
theorem Sub_loop (a b : List Int) (hA : Limbs a) (hB : Limbs b) (hla : a.length < 50000) (hlb : b.length ≤ a.length) (hv : val b < val a) (d : Nat) :
    ∀ (i c : Nat) (out : List Int), i + d = a.length → out.length = a.length → Limbs out → c ≤ 1 → S (limb out) i + S (limb b) i = S (limb a) i + c * P i →
    Ev (fun k => nat_Sub.l0 k b out (c : Int) a (a.length : Int) (i : Int)) (digs (val a - val b)) := by
  induction d with
  | zero =>
    intro i c out hi ho hO hc hS
    obtain rfl : i = a.length := by omega
    rw [S_ge_len hlb, val_full] at hS
    obtain rfl := borrow_zero hS (S_lt _ (fun j _ => limb_lt hO j)) hv hc
    have h1 := trim_ev a.length out hO ho (by omega)
    rw [show val out = val a - val b by
      have : S (limb out) a.length = val out := by rw [← ho]; rfl
      omega] at h1
    refine Ev.step (f := fun k => (nat_trim.f k out).bind fun t => some t) (fun k => ?_) (Ev.bind h1 (Ev.of_eq (fun k => rfl)))
    simp only [nat_Sub.l0]
    rw [if_neg (by omega)]
  | succ d ih =>
    intro i c out hi ho hO hc hS
    have ha := limb_lt hA i
    have hb := limb_lt hB i
    have hm : ∀ k : Nat, nat_Sub.l0 (k + 1) b out (c : Int) a (a.length : Int) (i : Int) = if (limb a i : Int) < ((c + limb b i : Nat) : Int) then nat_Sub.l0 k b (out.set i (((limb a i + 1000000000 - (c + limb b i) : Nat)) : Int)) 1 a (a.length : Int) ((i + 1 : Nat) : Int) else nat_Sub.l0 k b (out.set i ((limb a i - (c + limb b i) : Nat) : Int)) 0 a (a.length : Int) ((i + 1 : Nat) : Int) := by
      intro k
      simp only [nat_Sub.l0]
      rw [rd_limb hA, rd_limb hB, if_pos (show (i : Int) < (a.length : Int) by omega), if_pos (show 0 ≤ (i : Int) by omega), if_pos (show (i : Int) < (a.length : Int) by omega), w64 (x := (i : Int) + 1) (by omega) (by omega)]
      simp only [if_pos (show (i : Int) < (out.length : Int) by omega), Int.toNat_natCast]
      by_cases e2 : i < b.length
      · rw [if_pos (show (i : Int) < (b.length : Int) by omega), show (((c : Int) + (limb b i : Int)) % 4294967296) = ((c + limb b i : Nat) : Int) by omega]
        by_cases e3 : (limb a i : Int) < ((c + limb b i : Nat) : Int)
        · rw [if_pos e3, if_pos e3, show (((limb a i : Int) + 1000000000) % 4294967296 - ((c + limb b i : Nat) : Int)) % 4294967296 = ((limb a i + 1000000000 - (c + limb b i) : Nat) : Int) by omega]
          rfl
        · rw [if_neg e3, if_neg e3, show ((limb a i : Int) - ((c + limb b i : Nat) : Int)) % 4294967296 = ((limb a i - (c + limb b i) : Nat) : Int) by omega]
          rfl
      · rw [if_neg (show ¬ (i : Int) < (b.length : Int) by omega), limb_out (l := b) (by omega), Nat.add_zero]
        by_cases e3 : (limb a i : Int) < (c : Int)
        · rw [if_pos e3, if_pos e3, show (((limb a i : Int) + 1000000000) % 4294967296 - (c : Int)) % 4294967296 = ((limb a i + 1000000000 - c : Nat) : Int) by omega]
          rfl
        · rw [if_neg e3, if_neg e3, show ((limb a i : Int) - (c : Int)) % 4294967296 = ((limb a i - c : Nat) : Int) by omega]
          rfl
    by_cases e : limb a i < c + limb b i
    · refine Ev.step (fun k => ?_) (ih (i + 1) 1 (out.set i ((limb a i + 1000000000 - (c + limb b i) : Nat) : Int)) (by omega) (by simp [ho]) (hO.set i (by omega) (by omega)) (by omega) ?_)
      · rw [hm, if_pos (by omega)]
        rfl
      · rw [S_store (by omega), S_succ, S_succ, P_succ]
        obtain ⟨x, hx⟩ : ∃ x, x = limb a i + 1000000000 - (c + limb b i) := ⟨_, rfl⟩
        have hx2 : x + c + limb b i = limb a i + 1000000000 := by omega
        rw [← hx]
        grind
    · refine Ev.step (fun k => ?_) (ih (i + 1) 0 (out.set i ((limb a i - (c + limb b i) : Nat) : Int)) (by omega) (by simp [ho]) (hO.set i (by omega) (by omega)) (by omega) ?_)
      · rw [hm, if_neg (by omega)]
        rfl
      · rw [S_store (by omega), S_succ, S_succ, P_succ]
        obtain ⟨x, hx⟩ : ∃ x, x = limb a i - (c + limb b i) := ⟨_, rfl⟩
        have hx2 : x + c + limb b i = limb a i := by omega
        rw [← hx]
        grind
theorem digs_len_mono {x y : Nat} (h : x ≤ y) : (digs x).length ≤ (digs y).length := by
  have := (digs_len_le y (digs y).length).1 (Nat.le_refl _)
  exact (digs_len_le _ _).2 (by omega)
theorem Sub_ev (a b : List Int) (ha : NonNeg a) (hb : NonNeg b) (hla : a.length < 50000) (hlb : b.length < 50000) : Ev (fun k => nat_Sub.f k a b) (digs (V a - V b)) := by
  have hl1 := digs_V_len ha
  have hl2 := digs_V_len hb
  have hc := Cmp_ev (digs (V a)) (digs (V b)) (NonNeg_digs _) (NonNeg_digs _) (by omega) (by omega)
  rw [V_digs, V_digs] at hc
  refine Ev.congr (fun k => by rw [nat_Sub.f]) (Ev.bind (held_ev a ha (by omega)) (Ev.bind (held_ev b hb (by omega)) (Ev.bind hc ?_)))
  by_cases e : V a ≤ V b
  · refine Ev.of_eq (fun k => ?_)
    rw [if_pos (cmpZ_le.2 e), show V a - V b = 0 by omega, digs_zero]
  · have h1 := Sub_loop (digs (V a)) (digs (V b)) (Limbs_digs _) (Limbs_digs _) (by omega) (digs_len_mono (by omega)) (by rw [val_digs, val_digs]; omega) (digs (V a)).length 0 0 (List.replicate (digs (V a)).length 0) (by omega) (by simp) (Limbs.zeros _) (by omega) (by simp [S])
    rw [val_digs, val_digs] at h1
    refine Ev.congr (fun k => ?_) h1
    rw [if_neg (fun h => e (cmpZ_le.1 h)), if_pos (by omega), if_pos (by omega), Int.toNat_natCast]
    rfl

/-! SubNat -/
theorem SubNat_loop (a b : List Int) (hA : Limbs a) (hB : Limbs b) (hla : a.length < 50000) (hlb : b.length ≤ a.length) (hv : val b < val a) (d : Nat) :
    ∀ (i c : Nat) (out : List Int), i + d = a.length → out.length = i → Limbs out → c ≤ 1 → val out + S (limb b) i = S (limb a) i + c * P i →
    Ev (fun k => mullionref1_SubNat.l0 k a b out (c : Int) (i : Int)) (digs (val a - val b)) := by
  induction d with
  | zero =>
    intro i c out hi ho hO hc hS
    obtain rfl : i = a.length := by omega
    rw [S_ge_len hlb, val_full] at hS
    have hlt := val_lt hO
    rw [ho] at hlt
    obtain rfl := borrow_zero hS hlt hv hc
    have h1 := rtrim_ev out hO (by omega)
    rw [show val out = val a - val b by omega] at h1
    refine Ev.step (f := fun k => (mullionref1_trim.f k out).bind fun t => some t) (fun k => ?_) (Ev.bind h1 (Ev.of_eq (fun k => rfl)))
    simp only [mullionref1_SubNat.l0]
    rw [if_neg (by omega)]
  | succ d ih =>
    intro i c out hi ho hO hc hS
    have ha := limb_lt hA i
    have hb := limb_lt hB i
    have hm : ∀ k : Nat, mullionref1_SubNat.l0 (k + 1) a b out (c : Int) (i : Int) = if (limb a i : Int) < ((c + limb b i : Nat) : Int) then mullionref1_SubNat.l0 k a b (out ++ [((limb a i + 1000000000 - (c + limb b i) : Nat) : Int)]) 1 ((i + 1 : Nat) : Int) else mullionref1_SubNat.l0 k a b (out ++ [((limb a i - (c + limb b i) : Nat) : Int)]) 0 ((i + 1 : Nat) : Int) := by
      intro k
      simp only [mullionref1_SubNat.l0]
      rw [rd_limb hA, rd_limb hB, if_pos (show (i : Int) < (a.length : Int) by omega), if_pos (show 0 ≤ (i : Int) by omega), w64 (x := (i : Int) + 1) (by omega) (by omega), w64 (x := (limb a i : Int)) (by omega) (by omega), w64 (x := (limb b i : Int)) (by omega) (by omega), w64 (x := (limb a i : Int) - (c : Int)) (by omega) (by omega), w64 (x := (limb a i : Int) - (c : Int) - (limb b i : Int)) (by omega) (by omega)]
      simp only [if_pos (show out.length < 35184372088832 by omega)]
      by_cases e2 : i < b.length
      · rw [if_pos (show (i : Int) < (b.length : Int) by omega)]
        by_cases e3 : (limb a i : Int) < ((c + limb b i : Nat) : Int)
        · rw [if_pos (by omega), if_pos e3, w64 (by omega) (by omega), show ((limb a i : Int) - (c : Int) - (limb b i : Int) + 1000000000) % 4294967296 = ((limb a i + 1000000000 - (c + limb b i) : Nat) : Int) by omega]
          rfl
        · rw [if_neg (by omega), if_neg e3, show ((limb a i : Int) - (c : Int) - (limb b i : Int)) % 4294967296 = ((limb a i - (c + limb b i) : Nat) : Int) by omega]
          rfl
      · rw [if_neg (show ¬ (i : Int) < (b.length : Int) by omega), limb_out (l := b) (by omega), Nat.add_zero]
        by_cases e3 : (limb a i : Int) < (c : Int)
        · rw [if_pos (by omega), if_pos e3, w64 (by omega) (by omega), show ((limb a i : Int) - (c : Int) + 1000000000) % 4294967296 = ((limb a i + 1000000000 - c : Nat) : Int) by omega]
          rfl
        · rw [if_neg (by omega), if_neg e3, show ((limb a i : Int) - (c : Int)) % 4294967296 = ((limb a i - c : Nat) : Int) by omega]
          rfl
    by_cases e : limb a i < c + limb b i
    · refine Ev.step (fun k => ?_) (ih (i + 1) 1 (out ++ [((limb a i + 1000000000 - (c + limb b i) : Nat) : Int)]) (by omega) (by simp [ho]) (hO.append (Limbs.one (by omega) (by omega))) (by omega) ?_)
      · rw [hm, if_pos (by omega)]
        rfl
      · rw [val_append, val_one, ho, S_succ, S_succ, P_succ, Int.toNat_natCast]
        obtain ⟨x, hx⟩ : ∃ x, x = limb a i + 1000000000 - (c + limb b i) := ⟨_, rfl⟩
        have hx2 : x + c + limb b i = limb a i + 1000000000 := by omega
        rw [← hx]
        grind
    · refine Ev.step (fun k => ?_) (ih (i + 1) 0 (out ++ [((limb a i - (c + limb b i) : Nat) : Int)]) (by omega) (by simp [ho]) (hO.append (Limbs.one (by omega) (by omega))) (by omega) ?_)
      · rw [hm, if_neg (by omega)]
        rfl
      · rw [val_append, val_one, ho, S_succ, S_succ, P_succ, Int.toNat_natCast]
        obtain ⟨x, hx⟩ : ∃ x, x = limb a i - (c + limb b i) := ⟨_, rfl⟩
        have hx2 : x + c + limb b i = limb a i := by omega
        rw [← hx]
        grind
theorem SubNat_ev (a b : List Int) (ha : NonNeg a) (hb : NonNeg b) (hla : a.length < 50000) (hlb : b.length < 50000) : Ev (fun k => mullionref1_SubNat.f k a b) (digs (V a - V b)) := by
  have hl1 := digs_V_len ha
  have hl2 := digs_V_len hb
  have hc := CmpNat_ev (digs (V a)) (digs (V b)) (NonNeg_digs _) (NonNeg_digs _) (by omega) (by omega)
  rw [V_digs, V_digs] at hc
  refine Ev.congr (fun k => by rw [mullionref1_SubNat.f]) (Ev.bind (nat_ev a ha (by omega)) (Ev.bind (nat_ev b hb (by omega)) (Ev.bind hc ?_)))
  by_cases e : V a ≤ V b
  · refine Ev.of_eq (fun k => ?_)
    rw [if_pos (cmpZ_le.2 e), show V a - V b = 0 by omega, digs_zero]
  · have h1 := SubNat_loop (digs (V a)) (digs (V b)) (Limbs_digs _) (Limbs_digs _) (by omega) (digs_len_mono (by omega)) (by rw [val_digs, val_digs]; omega) (digs (V a)).length 0 0 [] (by omega) rfl Limbs.nil (by omega) (by simp [S, val_nil])
    rw [val_digs, val_digs] at h1
    refine Ev.congr (fun k => ?_) h1
    rw [if_neg (fun h => e (cmpZ_le.1 h))]
    rfl

/-! Mul -/
theorem S_set {l : List Int} {p n x : Nat} (hp : p < l.length) (hn : p < n) : S (limb (l.set p (x : Int))) n + limb l p * P p = S (limb l) n + x * P p := by
  induction n with
  | zero => omega
  | succ n ih =>
    by_cases e : p = n
    · subst e
      rw [S_store hp, S_succ]
      omega
    · rw [S_succ, S_succ, limb_set_ne e]
      have := ih (by omega)
      omega
theorem val_set {l : List Int} {p x : Nat} (hp : p < l.length) : val (l.set p (x : Int)) + limb l p * P p = val l + x * P p := by
  unfold val
  rw [List.length_set]
  exact S_set hp hp
theorem prod_lt {x y : Nat} (hx : x < 1000000000) (hy : y < 1000000000) : x * y ≤ 999999998000000001 := by
  have h1 : x * y ≤ 999999999 * y := Nat.mul_le_mul_right _ (by omega)
  omega
theorem Mul_inner (a b : List Int) (hB : Limbs b) (hla : a.length < 20000) (hlb : b.length < 20000) (i n : Nat) (hi : i < a.length) (hn : n < 1000000000) (r : List Int) (T : Nat)
    (hnext : ∀ out : List Int, out.length = a.length + b.length → Limbs out → (∀ j, i + 1 + b.length ≤ j → limb out j = 0) → val out = T + n * P i * val b → Ev (fun k => nat_Mul.l0 k b out a (a.length : Int) ((i + 1 : Nat) : Int)) r) (d : Nat) :
    ∀ (j c : Nat) (out : List Int), j + d = b.length → out.length = a.length + b.length → Limbs out → c < 1000000000 → (∀ j, i + b.length ≤ j → limb out j = 0) → val out + c * P (i + j) = T + n * P i * S (limb b) j →
    Ev (fun k => nat_Mul.l1 k b out (i : Int) (n : Int) (c : Int) a (a.length : Int) (i : Int) b (b.length : Int) (j : Int)) r := by
  induction d with
  | zero =>
    intro j c out hj ho hO hc hz hS
    obtain rfl : j = b.length := by omega
    rw [val_full] at hS
    have h0 := hz (i + b.length) (Nat.le_refl _)
    have hv := val_set (l := out) (p := i + b.length) (x := c) (by omega)
    rw [h0, Nat.zero_mul, Nat.add_zero] at hv
    refine Ev.step (fun k => ?_) (hnext (out.set (i + b.length) (c : Int)) (by simp [ho]) (hO.set _ (by omega) (by omega)) (fun j hj => by rw [limb_set_ne (by omega)]; exact hz j (by omega)) (by omega))
    simp only [nat_Mul.l1]
    rw [if_neg (by omega), w64 (by omega) (by omega), if_pos (by omega), if_pos (by omega), show ((i : Int) + (b.length : Int)).toNat = i + b.length by omega, show (c : Int) % 4294967296 = (c : Int) by omega, w64 (by omega) (by omega)]
    rfl
  | succ d ih =>
    intro j c out hj ho hO hc hz hS
    have hb := limb_lt hB j
    have hp := prod_lt hn hb
    have hx := limb_lt hO (i + j)
    have hd := Nat.div_add_mod (c + (limb out (i + j) + n * limb b j)) 1000000000
    have hq : (c + (limb out (i + j) + n * limb b j)) / 1000000000 < 1000000000 := by omega
    have hv := val_set (l := out) (p := i + j) (x := (c + (limb out (i + j) + n * limb b j)) % 1000000000) (by omega)
    refine Ev.step (fun k => ?_) (ih (j + 1) ((c + (limb out (i + j) + n * limb b j)) / 1000000000) (out.set (i + j) (((c + (limb out (i + j) + n * limb b j)) % 1000000000 : Nat) : Int)) (by omega) (by simp [ho]) (hO.set _ (by omega) (by omega)) hq (fun j2 hj2 => by rw [limb_set_ne (by omega)]; exact hz j2 hj2) ?_)
    · simp only [nat_Mul.l1]
      rw [if_pos (by omega), if_pos (by omega), if_pos (by omega), w64 (x := (i : Int) + (j : Int)) (by omega) (by omega), if_pos (by omega), if_pos (by omega), show ((i : Int) + (j : Int)) = ((i + j : Nat) : Int) by omega, rd_limb hO, rd_limb hB, u64w (x := (n : Int)) (by omega) (by omega), u64w (x := (limb b j : Int)) (by omega) (by omega), u64w (x := (limb out (i + j) : Int)) (by omega) (by omega),
        show (n : Int) * (limb b j : Int) = ((n * limb b j : Nat) : Int) by simp, u64w (x := ((n * limb b j : Nat) : Int)) (by omega) (by omega), u64w (x := (limb out (i + j) : Int) + ((n * limb b j : Nat) : Int)) (by omega) (by omega), u64w (x := (c : Int) + ((limb out (i + j) : Int) + ((n * limb b j : Nat) : Int))) (by omega) (by omega),
        show (c : Int) + ((limb out (i + j) : Int) + ((n * limb b j : Nat) : Int)) = ((c + (limb out (i + j) + n * limb b j) : Nat) : Int) by omega, tmod_B, tdiv_B, low, u64w (by omega) (by omega), w64 (by omega) (by omega)]
      rfl
    · rw [S_succ, show i + (j + 1) = i + j + 1 by omega, P_succ, P_add]
      rw [P_add] at hS hv
      generalize (c + (limb out (i + j) + n * limb b j)) / 1000000000 = q at *
      generalize (c + (limb out (i + j) + n * limb b j)) % 1000000000 = m at *
      generalize val (out.set (i + j) (m : Int)) = vo at *
      generalize val out = v1 at *
      generalize limb out (i + j) = x at *
      generalize limb b j = y at *
      generalize S (limb b) j = s at *
      generalize P i = p at *
      generalize P j = p2 at *
      clear ih hnext hz hO hB
      grind
theorem Mul_loop (a b : List Int) (hA : Limbs a) (hB : Limbs b) (hla : a.length < 20000) (hlb : b.length < 20000) (d : Nat) :
    ∀ (i : Nat) (out : List Int), i + d = a.length → out.length = a.length + b.length → Limbs out → (∀ j, i + b.length ≤ j → limb out j = 0) → val out = S (limb a) i * val b →
    Ev (fun k => nat_Mul.l0 k b out a (a.length : Int) (i : Int)) (digs (val a * val b)) := by
  induction d with
  | zero =>
    intro i out hi ho hO hz hS
    obtain rfl : i = a.length := by omega
    have h1 := trim_ev out.length out hO rfl (by omega)
    rw [hS, val_full] at h1
    refine Ev.step (f := fun k => (nat_trim.f k out).bind fun t => some t) (fun k => ?_) (Ev.bind h1 (Ev.of_eq (fun k => rfl)))
    simp only [nat_Mul.l0]
    rw [if_neg (by omega)]
  | succ d ih =>
    intro i out hi ho hO hz hS
    have h1 := Mul_inner a b hB hla hlb i (limb a i) (by omega) (limb_lt hA i) (digs (val a * val b)) (val out) (fun out2 h1 h2 h3 h4 => ih (i + 1) out2 (by omega) h1 h2 h3 (by rw [h4, hS, S_succ, Nat.add_mul])) b.length 0 0 out (by omega) ho hO (by omega) hz (by simp [S])
    refine Ev.step (fun k => ?_) h1
    simp only [nat_Mul.l0]
    rw [if_pos (by omega), if_pos (by omega), if_pos (by omega), rd_limb hA]
    rfl
theorem Mul_ev (a b : List Int) (ha : NonNeg a) (hb : NonNeg b) (hla : a.length < 20000) (hlb : b.length < 20000) : Ev (fun k => nat_Mul.f k a b) (digs (V a * V b)) := by
  have hl1 := digs_V_len ha
  have hl2 := digs_V_len hb
  refine Ev.congr (fun k => by rw [nat_Mul.f]) (Ev.bind (held_ev a ha (by omega)) (Ev.bind (held_ev b hb (by omega)) ?_))
  by_cases e : V a = 0
  · refine Ev.step (f := fun _ => some []) (fun k => ?_) (Ev.of_eq (fun k => by rw [e, Nat.zero_mul, digs_zero]))
    rw [e, digs_zero, if_pos (by simp)]
    simp only [nat_Mul.j0]
    rfl
  · have h1 := digs_len_pos (n := V a) (by omega)
    by_cases e2 : V b = 0
    · refine Ev.step (f := fun _ => some []) (fun k => ?_) (Ev.of_eq (fun k => by rw [e2, Nat.mul_zero, digs_zero]))
      rw [if_neg (by omega), e2, digs_zero]
      simp only [nat_Mul.j0]
      rfl
    · have h2 := digs_len_pos (n := V b) (by omega)
      have h3 := Mul_loop (digs (V a)) (digs (V b)) (Limbs_digs _) (Limbs_digs _) (by omega) (by omega) (digs (V a)).length 0 (List.replicate ((digs (V a)).length + (digs (V b)).length) 0) (by omega) (by simp) (Limbs.zeros _) (fun j _ => by
        unfold limb
        rw [List.getD_eq_getElem?_getD, List.getElem?_replicate]
        split <;> rfl) (by simp [val_zeros, S])
      rw [val_digs, val_digs] at h3
      refine Ev.step (fun k => ?_) h3
      rw [if_neg (by omega)]
      simp only [nat_Mul.j0]
      rw [if_neg (by simp only [beq_iff_eq]; omega), w64 (by omega) (by omega), if_pos (by omega), if_pos (by omega), show (((digs (V a)).length : Int) + ((digs (V b)).length : Int)).toNat = (digs (V a)).length + (digs (V b)).length by omega]
      rfl
end Go.Proofs.Ytdjefkdebobpmaa.NatD
