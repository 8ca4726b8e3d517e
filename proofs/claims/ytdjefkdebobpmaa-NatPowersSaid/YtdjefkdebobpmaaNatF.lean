/- Long division: what less, more, digit and Div tell, in plain Lean. -/
import Derived.Test.YtdjefkdebobpmaaNatE
namespace Go.Proofs.Ytdjefkdebobpmaa.NatF
open Go.RowKit Go.Proofs.Ytdjefkdebobpmaa.PAll Go.Proofs.YtdjefkdebobpmaaW.PrintWords Go.Proofs.Ytdjefkdebobpmaa.NatA Go.Proofs.Ytdjefkdebobpmaa.NatB Go.Proofs.Ytdjefkdebobpmaa.NatC Go.Proofs.Ytdjefkdebobpmaa.NatD Go.Proofs.Ytdjefkdebobpmaa.NatE

theorem less_loop (u v : List Int) (hU : Limbs u) (hV : Limbs v) (q : Nat) (hq : q < 1000000000) (hl : u.length < 30000) (hlv : v.length < u.length) (d : Nat) :
    ∀ (i c b : Nat) (x : List Int), i + d = u.length → x.length = u.length → Limbs x → c < 1000000000 → b ≤ 1 → (∀ j, i ≤ j → limb x j = limb u j) → c * P i ≤ q * S (limb v) i → S (limb x) i + q * S (limb v) i = S (limb u) i + b * P i + c * P i →
    ∃ (b' : Nat) (x' : List Int), b' ≤ 1 ∧ x'.length = u.length ∧ Limbs x' ∧ val x' + q * val v = val u + b' * P u.length ∧ Ev (fun k => nat_less.l0 k x v (q : Int) (c : Int) (b : Int) (u.length : Int) (i : Int)) (decide (0 < b'), x') := by
  induction d with
  | zero =>
    intro i c b x hi hx hX hc hb hsame hcP hS
    obtain rfl : i = u.length := by omega
    have hz : c = 0 := by
      rcases Nat.eq_zero_or_pos c with h | h
      · exact h
      · have h1 : 1 * P u.length ≤ c * P u.length := Nat.mul_le_mul_right _ h
        have h2 : q * S (limb v) u.length < P u.length := by
          rw [S_ge_len (l := v) (by omega)]
          have h3 := val_lt hV
          have h4 : q * val v ≤ 999999999 * val v := Nat.mul_le_mul_right _ (by omega)
          have h5 := P_mono (show v.length + 1 ≤ u.length by omega)
          rw [P_succ] at h5
          omega
        omega
    subst hz
    refine ⟨b, x, hb, hx, hX, ?_, Ev.one (fun k => ?_)⟩
    · rw [S_ge_len (l := v) (by omega), S_ge_len (l := x) (by omega), S_ge_len (l := u) (by omega)] at hS
      omega
    · simp only [nat_less.l0]
      rw [if_neg (by omega)]
      congr 2
      rw [Bool.eq_iff_iff, decide_eq_true_eq, decide_eq_true_eq]
      omega
  | succ d ih =>
    intro i c b x hi hx hX hc hb hsame hcP hS
    have hv := limb_lt hV i
    have hp := prod_lt hq hv
    have hu := limb_lt hU i
    have hxi := hsame i (Nat.le_refl _)
    obtain ⟨t, Et⟩ : ∃ t, c + q * limb v i = t := ⟨_, rfl⟩
    have hdm := Nat.div_add_mod t 1000000000
    obtain ⟨c2, Ec2⟩ : ∃ c2, t / 1000000000 = c2 := ⟨_, rfl⟩
    obtain ⟨m, Em⟩ : ∃ m, t % 1000000000 = m := ⟨_, rfl⟩
    have hm : m < 1000000000 := by omega
    have hc2 : c2 < 1000000000 := by omega
    rw [Ec2, Em] at hdm
    have hcP2 : c2 * P (i + 1) ≤ q * S (limb v) (i + 1) := by
      rw [S_succ, P_succ]
      have h1 : c2 * 1000000000 * P i ≤ t * P i := Nat.mul_le_mul_right _ (by omega)
      rw [← Et, Nat.add_mul] at h1
      rw [Nat.mul_add, ← Nat.mul_assoc, ← Nat.mul_assoc]
      omega
    have hround : ∀ k : Nat, nat_less.l0 (k + 1) x v (q : Int) (c : Int) (b : Int) (u.length : Int) (i : Int) = if limb u i < m + b then nat_less.l0 k (x.set i ((limb u i + 1000000000 - (m + b) : Nat) : Int)) v (q : Int) (c2 : Int) 1 (u.length : Int) ((i + 1 : Nat) : Int) else nat_less.l0 k (x.set i ((limb u i - (m + b) : Nat) : Int)) v (q : Int) (c2 : Int) 0 (u.length : Int) ((i + 1 : Nat) : Int) := by
      intro k
      simp only [nat_less.l0]
      rw [rd_limb hX, rd_limb hV, hxi, if_pos (show (i : Int) < (u.length : Int) by omega), w64 (x := (i : Int) + 1) (by omega) (by omega), u64w (x := (limb v i : Int)) (by omega) (by omega), show (q : Int) * (limb v i : Int) = ((q * limb v i : Nat) : Int) by simp, u64w (x := ((q * limb v i : Nat) : Int)) (by omega) (by omega), u64w (x := (c : Int) + ((q * limb v i : Nat) : Int)) (by omega) (by omega), show (c : Int) + ((q * limb v i : Nat) : Int) = (t : Int) by omega, w64 (x := (limb u i : Int)) (by omega) (by omega)]
      simp only [tmod_B, tdiv_B, if_pos (show 0 ≤ (i : Int) by omega), if_pos (show (i : Int) < (x.length : Int) by omega), Int.toNat_natCast]
      by_cases e2 : i < v.length
      · rw [if_pos (show (i : Int) < (v.length : Int) by omega), Ec2, Em, u64w (x := (c2 : Int)) (by omega) (by omega), w64 (x := (m : Int)) (by omega) (by omega), w64 (x := (limb u i : Int) - (m : Int)) (by omega) (by omega), w64 (x := (limb u i : Int) - (m : Int) - (b : Int)) (by omega) (by omega)]
        by_cases e3 : limb u i < m + b
        · rw [if_pos (by omega), if_pos e3, w64 (by omega) (by omega), show ((limb u i : Int) - (m : Int) - (b : Int) + 1000000000) % 4294967296 = ((limb u i + 1000000000 - (m + b) : Nat) : Int) by omega]
          rfl
        · rw [if_neg (by omega), if_neg e3, show ((limb u i : Int) - (m : Int) - (b : Int)) % 4294967296 = ((limb u i - (m + b) : Nat) : Int) by omega]
          rfl
      · have h0 := limb_out (l := v) (i := i) (by omega)
        rw [h0, Nat.mul_zero, Nat.add_zero] at Et
        subst Et
        rw [if_neg (show ¬ (i : Int) < (v.length : Int) by omega), Ec2, Em, u64w (x := (c2 : Int)) (by omega) (by omega), w64 (x := (m : Int)) (by omega) (by omega), w64 (x := (limb u i : Int) - (m : Int)) (by omega) (by omega), w64 (x := (limb u i : Int) - (m : Int) - (b : Int)) (by omega) (by omega)]
        by_cases e3 : limb u i < m + b
        · rw [if_pos (by omega), if_pos e3, w64 (by omega) (by omega), show ((limb u i : Int) - (m : Int) - (b : Int) + 1000000000) % 4294967296 = ((limb u i + 1000000000 - (m + b) : Nat) : Int) by omega]
          rfl
        · rw [if_neg (by omega), if_neg e3, show ((limb u i : Int) - (m : Int) - (b : Int)) % 4294967296 = ((limb u i - (m + b) : Nat) : Int) by omega]
          rfl
    by_cases e : limb u i < m + b
    · obtain ⟨w, Ew⟩ : ∃ w, limb u i + 1000000000 - (m + b) = w := ⟨_, rfl⟩
      have hw : w + m + b = limb u i + 1000000000 := by omega
      obtain ⟨b', x', h1, h2, h3, h4, h5⟩ := ih (i + 1) c2 1 (x.set i (w : Int)) (by omega) (by simp [hx]) (hX.set i (by omega) (by omega)) hc2 (by omega) (fun j hj => by rw [limb_set_ne (by omega)]; exact hsame j (by omega)) hcP2 (by
        rw [S_store (by omega), S_succ, S_succ, P_succ]
        clear ih hround hsame hX hU hV hcP2
        grind)
      refine ⟨b', x', h1, h2, h3, h4, Ev.step (fun k => ?_) h5⟩
      rw [hround, if_pos e, Ew]
      rfl
    · obtain ⟨w, Ew⟩ : ∃ w, limb u i - (m + b) = w := ⟨_, rfl⟩
      have hw : w + m + b = limb u i := by omega
      obtain ⟨b', x', h1, h2, h3, h4, h5⟩ := ih (i + 1) c2 0 (x.set i (w : Int)) (by omega) (by simp [hx]) (hX.set i (by omega) (by omega)) hc2 (by omega) (fun j hj => by rw [limb_set_ne (by omega)]; exact hsame j (by omega)) hcP2 (by
        rw [S_store (by omega), S_succ, S_succ, P_succ]
        clear ih hround hsame hX hU hV hcP2
        grind)
      refine ⟨b', x', h1, h2, h3, h4, Ev.step (fun k => ?_) h5⟩
      rw [hround, if_neg e, Ew]
      rfl
theorem less_ev (u v : List Int) (hU : Limbs u) (hV : Limbs v) (q : Nat) (hq : q < 1000000000) (hl : u.length < 30000) (hlv : v.length < u.length) :
    ∃ (b' : Nat) (x' : List Int), b' ≤ 1 ∧ x'.length = u.length ∧ Limbs x' ∧ val x' + q * val v = val u + b' * P u.length ∧ Ev (fun k => nat_less.f k u v (q : Int)) (decide (0 < b'), x') := by
  obtain ⟨b', x', h1, h2, h3, h4, h5⟩ := less_loop u v hU hV q hq hl hlv u.length 0 0 0 u (by omega) rfl hU (by omega) (by omega) (fun _ _ => rfl) (by simp [S]) (by simp [S])
  exact ⟨b', x', h1, h2, h3, h4, Ev.congr (fun k => by rw [nat_less.f]; rfl) h5⟩

theorem more_loop (u v : List Int) (hU : Limbs u) (hV : Limbs v) (hl : u.length < 30000) (hlv : v.length < u.length) (d : Nat) :
    ∀ (i c : Nat) (x : List Int), i + d = u.length → x.length = u.length → Limbs x → c ≤ 1 → (∀ j, i ≤ j → limb x j = limb u j) → S (limb x) i + c * P i = S (limb u) i + S (limb v) i →
    ∃ (c' : Nat) (x' : List Int), x'.length = u.length ∧ Limbs x' ∧ val x' + c' * P u.length = val u + val v ∧ Ev (fun k => nat_more.l0 k x v (c : Int) (u.length : Int) (i : Int)) x' := by
  induction d with
  | zero =>
    intro i c x hi hx hX hc hsame hS
    obtain rfl : i = u.length := by omega
    refine ⟨c, x, hx, hX, ?_, Ev.one (fun k => ?_)⟩
    · rw [S_ge_len (l := v) (by omega), S_ge_len (l := x) (by omega), S_ge_len (l := u) (by omega)] at hS
      omega
    · simp only [nat_more.l0]
      rw [if_neg (by omega)]
  | succ d ih =>
    intro i c x hi hx hX hc hsame hS
    have hv := limb_lt hV i
    have hu := limb_lt hU i
    have hxi := hsame i (Nat.le_refl _)
    obtain ⟨t, Et⟩ : ∃ t, limb u i + c + limb v i = t := ⟨_, rfl⟩
    have hdm := Nat.div_add_mod t 1000000000
    obtain ⟨c2, Ec2⟩ : ∃ c2, t / 1000000000 = c2 := ⟨_, rfl⟩
    obtain ⟨m, Em⟩ : ∃ m, t % 1000000000 = m := ⟨_, rfl⟩
    have hm : m < 1000000000 := by omega
    have hc2 : c2 ≤ 1 := by omega
    rw [Ec2, Em] at hdm
    obtain ⟨c', x', h2, h3, h4, h5⟩ := ih (i + 1) c2 (x.set i (m : Int)) (by omega) (by simp [hx]) (hX.set i (by omega) (by omega)) hc2 (fun j hj => by rw [limb_set_ne (by omega)]; exact hsame j (by omega)) (by
      rw [S_store (by omega), S_succ, S_succ, P_succ]
      clear ih hsame hX hU hV
      grind)
    refine ⟨c', x', h2, h3, h4, Ev.step (fun k => ?_) h5⟩
    simp only [nat_more.l0]
    rw [rd_limb hX, rd_limb hV, hxi, if_pos (show (i : Int) < (u.length : Int) by omega), if_pos (by omega), if_pos (by omega), w64 (x := (i : Int) + 1) (by omega) (by omega), show (((limb u i : Int) + (c : Int)) % 4294967296 + (limb v i : Int)) % 4294967296 = (t : Int) by omega]
    by_cases e2 : i < v.length
    · rw [if_pos (by omega), show (t : Int) % 1000000000 = (m : Int) by omega, show (t : Int) / 1000000000 = (c2 : Int) by omega]
      rfl
    · rw [if_neg (by omega), limb_out (l := v) (by omega)] at *
      rw [show ((limb u i : Int) + (c : Int)) % 4294967296 = (t : Int) by omega, show (t : Int) % 1000000000 = (m : Int) by omega, show (t : Int) / 1000000000 = (c2 : Int) by omega]
      rfl
theorem more_ev (u v : List Int) (hU : Limbs u) (hV : Limbs v) (hl : u.length < 30000) (hlv : v.length < u.length) :
    ∃ (c' : Nat) (x' : List Int), x'.length = u.length ∧ Limbs x' ∧ val x' + c' * P u.length = val u + val v ∧ Ev (fun k => nat_more.f k u v) x' := by
  obtain ⟨c', x', h2, h3, h4, h5⟩ := more_loop u v hU hV hl hlv u.length 0 0 u (by omega) rfl hU (by omega) (fun _ _ => rfl) (by simp [S])
  exact ⟨c', x', h2, h3, h4, Ev.congr (fun k => by rw [nat_more.f]; rfl) h5⟩

/-- digit's end: a guess that is right, or one too great. -/
theorem digit_end (u v : List Int) (hU : Limbs u) (hV : Limbs v) (q : Nat) (hq : q < 1000000000) (hl : u.length < 30000) (hlv : v.length < u.length) (hv0 : 0 < val v) (h1 : val u / val v ≤ q) (h2 : q ≤ val u / val v + 1) :
    ∃ x' : List Int, x'.length = u.length ∧ Limbs x' ∧ val x' = val u % val v ∧ Ev (fun k => nat_digit.j1 k u v (q : Int)) (((val u / val v : Nat) : Int), x') := by
  obtain ⟨b, x, hb, hx, hX, hS, hE⟩ := less_ev u v hU hV q hq hl hlv
  have hdm := Nat.div_add_mod (val u) (val v)
  have hmod := Nat.mod_lt (val u) hv0
  have hxlt := val_lt hX
  have hult := val_lt hU
  rw [hx] at hxlt
  obtain ⟨Q, EQ⟩ : ∃ Q, val u / val v = Q := ⟨_, rfl⟩
  obtain ⟨R, ER⟩ : ∃ R, val u % val v = R := ⟨_, rfl⟩
  rw [EQ] at h1 h2 hdm ⊢
  rw [ER] at hdm hmod ⊢
  have hvu := val_lt hV
  have hPu := P_mono (show v.length ≤ u.length by omega)
  by_cases e : q = Q
  · subst e
    have hb0 : b = 0 := by
      rcases Nat.eq_zero_or_pos b with h | h
      · exact h
      · obtain rfl : b = 1 := by omega
        rw [Nat.mul_comm] at hdm
        omega
    subst hb0
    refine ⟨x, hx, hX, by rw [Nat.mul_comm] at hdm; omega, Ev.step (fun k => by simp only [nat_digit.j1]; rfl) (Ev.bind hE (Ev.of_eq (fun k => ?_)))⟩
    rw [if_neg (by simp), show (q : Int) % 4294967296 = (q : Int) by omega]
  · obtain rfl : q = Q + 1 := by omega
    rw [Nat.add_mul, Nat.one_mul] at hS
    rw [Nat.mul_comm] at hdm
    have hb1 : b = 1 := by
      rcases Nat.eq_zero_or_pos b with h | h
      · subst h
        omega
      · omega
    subst hb1
    obtain ⟨c', x2, hx2, hX2, hS2, hE2⟩ := more_ev x v hX hV (by omega) (by omega)
    have hx2lt := val_lt hX2
    rw [hx2, hx] at hx2lt
    rw [hx] at hS2
    have hfin : val x2 = R := by
      have : c' = 1 := by
        rcases Nat.lt_or_ge c' 1 with h | h
        · obtain rfl : c' = 0 := by omega
          omega
        · rcases Nat.lt_or_ge 1 c' with h3 | h3
          · have : 2 * P u.length ≤ c' * P u.length := Nat.mul_le_mul_right _ h3
            omega
          · omega
      subst this
      omega
    refine ⟨x2, by omega, hX2, hfin, Ev.step (fun k => by simp only [nat_digit.j1]; rfl) (Ev.bind hE ?_)⟩
    refine Ev.congr (f := fun k => (nat_more.f k x v).bind fun t => some ((Q : Int), t)) (fun k => ?_) (Ev.bind hE2 (Ev.of_eq (fun k => rfl)))
    rw [if_pos (by simp), u64w (by omega) (by omega), show (((Q + 1 : Nat) : Int) - 1) % 4294967296 = (Q : Int) by omega]
/-- Two limbs of a row from the top. -/
theorem top_two {l : List Int} (n : Nat) (h : l.length = n + 2) : val l = S (limb l) n + limb l n * P n + limb l (n + 1) * (1000000000 * P n) := by
  unfold val
  rw [h, S_succ, S_succ, P_succ]
/-- As long as the guess is too great by its first two limbs, it is too great. -/
theorem too_great {U V tU tV u2 v1 v2 q r p : Nat} (hU : U < tU * (1000000000 * p) + (u2 + 1) * p) (hV : v1 * (1000000000 * p) + v2 * p ≤ V) (hqr : q * v1 + r = tU) (hc : r * 1000000000 + u2 < q * v2) (_ : tV = 0) : U < q * V := by
  have h1 : q * (v1 * (1000000000 * p) + v2 * p) ≤ q * V := Nat.mul_le_mul_left _ hV
  have h2 : (r * 1000000000 + u2 + 1) * p ≤ q * v2 * p := Nat.mul_le_mul_right _ hc
  have h3 : q * (v1 * (1000000000 * p) + v2 * p) = q * v1 * (1000000000 * p) + q * v2 * p := by grind
  have h4 : tU * (1000000000 * p) = q * v1 * (1000000000 * p) + r * (1000000000 * p) := by rw [← hqr, Nat.add_mul]
  have h5 : (r * 1000000000 + u2 + 1) * p = r * (1000000000 * p) + (u2 + 1) * p := by grind
  omega
/-- Where the test stops, the guess is at most one too great. -/
theorem not_much {U V tU u2 v1 v2 q r p : Nat} (hU : tU * (1000000000 * p) + u2 * p ≤ U) (hV : V < v1 * (1000000000 * p) + (v2 + 1) * p) (hV2 : v1 * (1000000000 * p) ≤ V) (hv1 : 0 < v1) (hv2 : v2 < 1000000000) (hq : q < 1000000000) (hqr : q * v1 + r = tU) (hc : 1000000000 ≤ r ∨ q * v2 ≤ r * 1000000000 + u2) : q * V ≤ U + V := by
  have h1 : q * V ≤ q * (v1 * (1000000000 * p) + (v2 + 1) * p) := Nat.mul_le_mul_left _ (Nat.le_of_lt hV)
  have h3 : q * (v1 * (1000000000 * p) + (v2 + 1) * p) = q * v1 * (1000000000 * p) + q * (v2 + 1) * p := by grind
  have h4 : tU * (1000000000 * p) = q * v1 * (1000000000 * p) + r * (1000000000 * p) := by rw [← hqr, Nat.add_mul]
  have h6 : 1 * (1000000000 * p) ≤ v1 * (1000000000 * p) := Nat.mul_le_mul_right _ hv1
  have h7 : q * p ≤ 1000000000 * p := Nat.mul_le_mul_right _ (by omega)
  have h8 : q * (v2 + 1) * p = q * v2 * p + q * p := by grind
  rcases hc with hc | hc
  · have h9 : q * (v2 + 1) ≤ q * 1000000000 := Nat.mul_le_mul_left _ (by omega)
    have h10 : q * (v2 + 1) * p ≤ q * 1000000000 * p := Nat.mul_le_mul_right _ h9
    have h11 : 1000000000 * (1000000000 * p) ≤ r * (1000000000 * p) := Nat.mul_le_mul_right _ hc
    have h12 : q * 1000000000 * p = 1000000000 * (q * p) := by grind
    omega
  · have h9 : q * v2 * p ≤ (r * 1000000000 + u2) * p := Nat.mul_le_mul_right _ hc
    have h10 : (r * 1000000000 + u2) * p = r * (1000000000 * p) + u2 * p := by grind
    omega
theorem div_ge_of {U V q : Nat} (hV : 0 < V) (h : q * V ≤ U + V) : q ≤ U / V + 1 := by
  have h2 := Nat.div_add_mod U V
  have h3 := Nat.mod_lt U hV
  rcases Nat.lt_or_ge (U / V + 1) q with h4 | h4
  · have h5 : (U / V + 2) * V ≤ q * V := Nat.mul_le_mul_right _ h4
    rw [Nat.add_mul, Nat.mul_comm (U / V) V] at h5
    omega
  · exact h4
theorem div_lt_of {U V q : Nat} (hV : 0 < V) (h : U < q * V) : U / V < q := (Nat.div_lt_iff_lt_mul hV).2 h
theorem digit_loop (u v : List Int) (hU : Limbs u) (hV : Limbs v) (n : Nat) (hl : u.length < 30000) (hlv : v.length = n + 2) (hlu : u.length = n + 3) (hv1 : 0 < limb v (n + 1)) (hlt : val u < val v * 1000000000) (q : Nat) :
    ∀ r : Nat, val u / val v ≤ q → q * limb v (n + 1) + r = limb u (n + 2) * 1000000000 + limb u (n + 1) →
    ∃ x' : List Int, x'.length = u.length ∧ Limbs x' ∧ val x' = val u % val v ∧ Ev (fun k => nat_digit.l0 k u v (v.length : Int) (q : Int) (r : Int)) (((val u / val v : Nat) : Int), x') := by
  have hv2 := limb_lt hV n
  have hvb := limb_lt hV (n + 1)
  have hu2 := limb_lt hU n
  have hub := limb_lt hU (n + 1)
  have huc := limb_lt hU (n + 2)
  have hP := P_pos n
  have hval : val v = S (limb v) n + limb v n * P n + limb v (n + 1) * (1000000000 * P n) := top_two n hlv
  have hSv := S_lt (f := limb v) n (fun i _ => limb_lt hV i)
  have hvalu : val u = S (limb u) n + limb u n * P n + (limb u (n + 2) * 1000000000 + limb u (n + 1)) * (1000000000 * P n) := by
    unfold val
    rw [hlu, S_succ, S_succ, S_succ, P_succ (n + 1), P_succ n]
    grind
  have hSu := S_lt (f := limb u) n (fun i _ => limb_lt hU i)
  have hV0 : 0 < val v := by
    have : 1 * (1000000000 * P n) ≤ limb v (n + 1) * (1000000000 * P n) := Nat.mul_le_mul_right _ hv1
    omega
  have hQ : val u / val v < 1000000000 := (Nat.div_lt_iff_lt_mul hV0).2 (by rw [Nat.mul_comm]; exact hlt)
  have dec : ∀ q r : Nat, (q + 1) * limb v (n + 1) + r = limb u (n + 2) * 1000000000 + limb u (n + 1) → q * limb v (n + 1) + (r + limb v (n + 1)) = limb u (n + 2) * 1000000000 + limb u (n + 1) := by
    intro q r h
    rw [Nat.add_mul] at h
    omega
  have i1 : wrap64 ((v.length : Int) - 1) = ((n + 1 : Nat) : Int) := by rw [w64 (by omega) (by omega)]; omega
  have i2 : wrap64 ((v.length : Int) - 2) = (n : Int) := by rw [w64 (by omega) (by omega)]; omega
  induction q with
  | zero =>
    intro r hq hqr
    obtain ⟨x, h1, h2, h3, h4⟩ := digit_end u v hU hV 0 (by omega) hl (by omega) hV0 hq (Nat.zero_le _)
    refine ⟨x, h1, h2, h3, Ev.step (fun k => ?_) h4⟩
    simp only [nat_digit.l0]
    rw [if_neg (by omega)]
    by_cases e : (r : Int) < 1000000000
    · rw [if_pos e, i2, if_pos (by omega), if_pos (by omega), if_pos (by omega), rd_limb hV, rd_limb hU, if_neg]
      rw [show ((0 : Nat) : Int) = 0 by rfl, Int.zero_mul, u64w (x := 0) (by omega) (by omega), u64w (x := (limb u n : Int)) (by omega) (by omega), u64w (x := (r : Int) * 1000000000) (by omega) (by omega), u64w (by omega) (by omega)]
      omega
    · rw [if_neg e]
  | succ q ih =>
    intro r hq hqr
    have hr : r ≤ limb u (n + 2) * 1000000000 + limb u (n + 1) := by omega
    have hqle : (q + 1) * 1 ≤ (q + 1) * limb v (n + 1) := Nat.mul_le_mul_left _ hv1
    by_cases e1 : 1000000000 ≤ q + 1
    · obtain ⟨x, h1, h2, h3, h4⟩ := ih (r + limb v (n + 1)) (by omega) (dec q r hqr)
      refine ⟨x, h1, h2, h3, Ev.step (fun k => ?_) h4⟩
      simp only [nat_digit.l0]
      rw [if_pos (by omega), i1, if_pos (by omega), if_pos (by omega), rd_limb hV, u64w (x := (limb v (n + 1) : Int)) (by omega) (by omega), u64w (x := (r : Int) + (limb v (n + 1) : Int)) (by omega) (by omega), u64w (by omega) (by omega)]
      congr 1
      omega
    · by_cases e2 : r < 1000000000 ∧ r * 1000000000 + limb u n < (q + 1) * limb v n
      · have hgt := too_great (tV := 0) (U := val u) (V := val v) (u2 := limb u n) (v1 := limb v (n + 1)) (v2 := limb v n) (p := P n) (by rw [hvalu, Nat.add_mul (limb u n) 1]; omega) (by rw [hval]; omega) hqr e2.2 rfl
        have := div_lt_of hV0 hgt
        obtain ⟨x, h1, h2, h3, h4⟩ := ih (r + limb v (n + 1)) (by omega) (dec q r hqr)
        have hp := prod_lt (x := q + 1) (by omega) hv2
        refine ⟨x, h1, h2, h3, Ev.step (fun k => ?_) h4⟩
        simp only [nat_digit.l0]
        rw [if_neg (by omega), if_pos (by omega), i2, if_pos (by omega), if_pos (by omega), if_pos (by omega), rd_limb hV, rd_limb hU, u64w (x := (limb v n : Int)) (by omega) (by omega), show ((q + 1 : Nat) : Int) * (limb v n : Int) = (((q + 1) * limb v n : Nat) : Int) by simp, u64w (x := (((q + 1) * limb v n : Nat) : Int)) (by omega) (by omega), u64w (x := (limb u n : Int)) (by omega) (by omega), u64w (x := (r : Int) * 1000000000) (by omega) (by omega), u64w (x := (r : Int) * 1000000000 + (limb u n : Int)) (by omega) (by omega), if_pos (by omega),
          i1, if_pos (by omega), if_pos (by omega), rd_limb hV, u64w (x := (limb v (n + 1) : Int)) (by omega) (by omega), u64w (x := (r : Int) + (limb v (n + 1) : Int)) (by omega) (by omega), u64w (by omega) (by omega)]
        congr 1
        omega
      · have hle := not_much (U := val u) (V := val v) (tU := limb u (n + 2) * 1000000000 + limb u (n + 1)) (u2 := limb u n) (v1 := limb v (n + 1)) (v2 := limb v n) (q := q + 1) (r := r) (p := P n) (by rw [hvalu]; omega) (by rw [hval, Nat.add_mul (limb v n) 1]; omega) (by rw [hval]; omega) hv1 hv2 (by omega) hqr (by omega)
        obtain ⟨x, h1, h2, h3, h4⟩ := digit_end u v hU hV (q + 1) (by omega) hl (by omega) hV0 hq (div_ge_of hV0 hle)
        have hp := prod_lt (x := q + 1) (by omega) hv2
        refine ⟨x, h1, h2, h3, Ev.step (fun k => ?_) h4⟩
        simp only [nat_digit.l0]
        rw [if_neg (by omega)]
        by_cases e : (r : Int) < 1000000000
        · rw [if_pos e, i2, if_pos (by omega), if_pos (by omega), if_pos (by omega), rd_limb hV, rd_limb hU, u64w (x := (limb v n : Int)) (by omega) (by omega), show ((q + 1 : Nat) : Int) * (limb v n : Int) = (((q + 1) * limb v n : Nat) : Int) by simp, u64w (x := (((q + 1) * limb v n : Nat) : Int)) (by omega) (by omega), u64w (x := (limb u n : Int)) (by omega) (by omega), u64w (x := (r : Int) * 1000000000) (by omega) (by omega), u64w (x := (r : Int) * 1000000000 + (limb u n : Int)) (by omega) (by omega), if_neg (by omega)]
        · rw [if_neg e]
theorem digit_ev (u v : List Int) (hU : Limbs u) (hV : Limbs v) (n : Nat) (hl : u.length < 30000) (hlv : v.length = n + 2) (hlu : u.length = n + 3) (hv1 : 0 < limb v (n + 1)) (hlt : val u < val v * 1000000000) :
    ∃ x' : List Int, x'.length = u.length ∧ Limbs x' ∧ val x' = val u % val v ∧ Ev (fun k => nat_digit.f k u v) (((val u / val v : Nat) : Int), x') := by
  have hvb := limb_lt hV (n + 1)
  have hub := limb_lt hU (n + 1)
  have huc := limb_lt hU (n + 2)
  have hdm := Nat.div_add_mod (limb u (n + 2) * 1000000000 + limb u (n + 1)) (limb v (n + 1))
  obtain ⟨T, ET⟩ : ∃ T, limb u (n + 2) * 1000000000 + limb u (n + 1) = T := ⟨_, rfl⟩
  have hT : T < 1000000000000000000 := by omega
  have hmod := Nat.mod_lt (limb u (n + 2) * 1000000000 + limb u (n + 1)) hv1
  rw [ET] at hdm hmod
  have hq0 : val u / val v ≤ T / limb v (n + 1) := by
    have hval : val v = S (limb v) n + limb v n * P n + limb v (n + 1) * (1000000000 * P n) := top_two n hlv
    have hvalu : val u = S (limb u) n + limb u n * P n + T * (1000000000 * P n) := by
      rw [← ET]
      unfold val
      rw [hlu, S_succ, S_succ, S_succ, P_succ (n + 1), P_succ n]
      grind
    have hSu := S_lt (f := limb u) n (fun i _ => limb_lt hU i)
    have hu2 := limb_lt hU n
    have hV0 : 0 < val v := by
      have : 1 * (1000000000 * P n) ≤ limb v (n + 1) * (1000000000 * P n) := Nat.mul_le_mul_right _ hv1
      have := P_pos n
      omega
    refine Nat.le_of_lt_succ (div_lt_of hV0 ?_)
    have h1 : (T / limb v (n + 1) + 1) * (limb v (n + 1) * (1000000000 * P n)) ≤ (T / limb v (n + 1) + 1) * val v := Nat.mul_le_mul_left _ (by omega)
    have h2 : (T + 1) * (1000000000 * P n) ≤ (T / limb v (n + 1) + 1) * limb v (n + 1) * (1000000000 * P n) := Nat.mul_le_mul_right _ (by rw [Nat.add_mul, Nat.one_mul, Nat.mul_comm (T / limb v (n + 1))]; omega)
    have h3 : limb u n * P n ≤ 999999999 * P n := Nat.mul_le_mul_right _ (by omega)
    rw [Nat.mul_assoc] at h2
    rw [Nat.add_mul T 1] at h2
    show val u < (T / limb v (n + 1) + 1) * val v
    omega
  obtain ⟨q, Eq⟩ : ∃ q, T / limb v (n + 1) = q := ⟨_, rfl⟩
  obtain ⟨r, Er⟩ : ∃ r, T % limb v (n + 1) = r := ⟨_, rfl⟩
  rw [Eq] at hdm hq0
  rw [Er] at hdm hmod
  have hqT : q ≤ T := by rw [← Eq]; exact Nat.div_le_self _ _
  obtain ⟨x, h1, h2, h3, h4⟩ := digit_loop u v hU hV n hl hlv hlu hv1 hlt q r hq0 (by rw [ET, Nat.mul_comm]; exact hdm)
  rw [hlv] at h4
  refine ⟨x, h1, h2, h3, Ev.congr (fun k => ?_) h4⟩
  rw [nat_digit.f, hlv, if_pos (by omega), if_pos (by omega), w64 (by omega) (by omega), show (((n + 2 : Nat) : Int) - 1) = ((n + 1 : Nat) : Int) by omega, if_pos (by omega), if_pos (by omega), if_pos (by omega)]
  simp only [rd_limb hV, rd_limb hU]
  rw [u64w (x := (limb v (n + 1) : Int)) (by omega) (by omega), if_neg (by omega), u64w (x := (limb u (n + 2) : Int)) (by omega) (by omega), u64w (x := (limb u (n + 2) : Int) * 1000000000) (by omega) (by omega), u64w (x := (limb u (n + 1) : Int)) (by omega) (by omega), u64w (x := (limb u (n + 2) : Int) * 1000000000 + (limb u (n + 1) : Int)) (by omega) (by omega), show (limb u (n + 2) : Int) * 1000000000 + (limb u (n + 1) : Int) = (T : Int) by omega, tdiv_nat, tmod_nat, Eq, Er, u64w (by omega) (by omega)]

/-! Div -/
theorem val_drop_zero {l : List Int} {n : Nat} (h : n ≤ l.length) (hv : val l < P n) : val (l.drop n) = 0 := by
  have h1 := val_take_drop l n h
  rcases Nat.eq_zero_or_pos (val (l.drop n)) with h2 | h2
  · exact h2
  · have : P n * 1 ≤ P n * val (l.drop n) := Nat.mul_le_mul_left _ h2
    omega
theorem Div_loop (v dl : List Int) (hV : Limbs v) (n d0 : Nat) (hlv : v.length = n + 2) (hv1 : 0 < limb v (n + 1)) (hdl : dl = digs d0) (hd0 : 0 < d0) (hd1 : d0 < 1000000000) (X la : Nat) (hla : la < 10000) (m : Nat) :
    ∀ (u q : List Int), Limbs u → Limbs q → u.length = la + 1 → la + 1 = n + 2 + q.length → m ≤ q.length → val u < val v * P m → X = val v * (P m * D q m) + val u →
    Ev (fun k => nat_Div.l0 k dl u v q ((m : Int) - 1)) (digs (X / val v), digs (X % val v / d0)) := by
  have hV0 : 0 < val v := by
    have h1 : val v = S (limb v) n + limb v n * P n + limb v (n + 1) * (1000000000 * P n) := top_two n hlv
    have h2 : 1 * (1000000000 * P n) ≤ limb v (n + 1) * (1000000000 * P n) := Nat.mul_le_mul_right _ hv1
    have h3 := P_pos n
    omega
  have hvlt := val_lt hV
  rw [hlv] at hvlt
  induction m with
  | zero =>
    intro u q hU hQ hlu hlq hm hlt hX
    rw [P_zero, Nat.one_mul, D_zero] at hX
    rw [P_zero, Nat.mul_one] at hlt
    have e1 : X / val v = val q := by rw [hX, Nat.mul_add_div hV0, Nat.div_eq_of_lt hlt, Nat.add_zero]
    have e2 : X % val v = val u := by rw [hX, Nat.mul_add_mod, Nat.mod_eq_of_lt hlt]
    rw [e1, e2]
    have h1 := trim_ev u.length u hU rfl (by omega)
    have h2 := by_ev (digs (val u)) (Limbs_digs _) (by
      have := (digs_len_le (val u) u.length).2 (val_lt hU)
      omega) d0 hd0 hd1
    rw [val_digs] at h2
    have h3 := trim_ev q.length q hQ rfl (by omega)
    have hrd : rd dl 0 = (d0 : Int) := by
      rw [hdl, digs_pos hd0]
      show ((d0 % 1000000000 : Nat) : Int) = _
      omega
    have hlen : 0 < dl.length := by
      rw [hdl]
      exact digs_len_pos hd0
    refine Ev.step (f := fun k => (nat_trim.f k u).bind fun t => (nat_by.f k t (d0 : Int)).bind fun b => (nat_trim.f k q).bind fun w => some (w, b.1)) (fun k => ?_) (Ev.bind h1 (Ev.bind h2 (Ev.bind h3 (Ev.of_eq (fun k => rfl)))))
    simp only [nat_Div.l0]
    rw [if_neg (by omega)]
    simp only [if_pos (show (0 : Int) < (dl.length : Int) by omega), hrd]
  | succ j ih =>
    intro u q hU hQ hlu hlq hm hlt hX
    have hPj := P_pos j
    have hlt2 : val u < P (j + n + 3) := by
      have h1 : val v * P (j + 1) ≤ P (n + 2) * P (j + 1) := Nat.mul_le_mul_right _ (by omega)
      rw [← P_add, show n + 2 + (j + 1) = j + n + 3 by omega] at h1
      omega
    have hdz := val_drop_zero (l := u) (n := j + n + 3) (by omega) hlt2
    have hsplit := val_take_drop u (j + n + 3) (by omega)
    rw [hdz, Nat.mul_zero, Nat.add_zero] at hsplit
    have hsplit2 := val_take_drop (u.take (j + n + 3)) j (by simp; omega)
    rw [List.take_take, Nat.min_eq_left (by omega)] at hsplit2
    obtain ⟨sg, Esg⟩ : ∃ sg, (u.take (j + n + 3)).drop j = sg := ⟨_, rfl⟩
    rw [Esg] at hsplit2
    have hSg : Limbs sg := by rw [← Esg]; exact (hU.take _).drop _
    have hlsg : sg.length = n + 3 := by rw [← Esg]; simp; omega
    have htk : val (u.take j) < P j := by
      have := val_lt (hU.take j)
      rw [List.length_take, Nat.min_eq_left (by omega)] at this
      exact this
    have hW : val sg < val v * 1000000000 := by
      rcases Nat.lt_or_ge (val sg) (val v * 1000000000) with h | h
      · exact h
      · have h1 : P j * (val v * 1000000000) ≤ P j * val sg := Nat.mul_le_mul_left _ h
        rw [P_succ] at hlt
        have h2 : P j * (val v * 1000000000) = val v * (1000000000 * P j) := by grind
        omega
    obtain ⟨x, hx1, hx2, hx3, hx4⟩ := digit_ev sg v hSg hV n (by omega) hlv hlsg hv1 hW
    obtain ⟨Q, EQ⟩ : ∃ Q, val sg / val v = Q := ⟨_, rfl⟩
    obtain ⟨R, ER⟩ : ∃ R, val sg % val v = R := ⟨_, rfl⟩
    have hdm := Nat.div_add_mod (val sg) (val v)
    have hmod := Nat.mod_lt (val sg) hV0
    have hQB : Q < 1000000000 := by
      rw [← EQ]
      exact (Nat.div_lt_iff_lt_mul hV0).2 (by rw [Nat.mul_comm]; exact hW)
    rw [EQ, ER] at hdm
    rw [ER] at hmod hx3
    rw [EQ] at hx4
    have hnew : val (u.take j ++ x ++ u.drop (j + n + 3)) = val (u.take j) + P j * R := by
      rw [List.append_assoc, val_append, val_append, hdz, Nat.mul_zero, Nat.add_zero, hx3, List.length_take, Nat.min_eq_left (by omega)]
    have h4 := ih (u.take j ++ x ++ u.drop (j + n + 3)) (q.set j (Q : Int)) (((hU.take j).append hx2).append (hU.drop _)) (hQ.set _ (by omega) (by omega)) (by simp; omega) (by simp; omega) (by simp; omega) (by
      rw [hnew]
      have h1 : P j * (R + 1) ≤ P j * val v := Nat.mul_le_mul_left _ hmod
      rw [Nat.mul_add, Nat.mul_one] at h1
      rw [Nat.mul_comm (val v)]
      omega) (by
      rw [hnew, hX, D_step (l := q.set j _) (i := j) (by simp; omega), D_set (by omega), limb_set_eq (by omega), Int.toNat_natCast, hsplit, hsplit2, ← hdm, P_succ]
      clear ih hx4 hU hQ hSg hV hx2
      grind)
    refine Ev.step (f := fun k => (nat_digitAt.f k u (j : Int) ((j + n + 3 : Nat) : Int) v).bind fun t => nat_Div.l0 k dl t.2 v (q.set j t.1) ((j : Int) - 1)) (fun k => ?_) (Ev.bind (a := ((Q : Int), u.take j ++ x ++ u.drop (j + n + 3))) ?_ h4)
    · simp only [nat_Div.l0]
      rw [show (((j + 1 : Nat) : Int) - 1) = (j : Int) by omega, if_pos (by omega)]
      simp only [if_pos (show 0 ≤ (j : Int) by omega), if_pos (show (j : Int) < (q.length : Int) by omega)]
      rw [w64 (x := (j : Int) + (v.length : Int)) (by omega) (by omega), w64 (x := (j : Int) + (v.length : Int) + 1) (by omega) (by omega), w64 (x := (j : Int) - 1) (by omega) (by omega), show (j : Int) + (v.length : Int) + 1 = ((j + n + 3 : Nat) : Int) by omega]
      rfl
    · refine Ev.congr (f := fun k => (nat_digit.f k sg v).bind fun p => some (p.1, u.take j ++ p.2 ++ u.drop (j + n + 3))) (fun k => ?_) (Ev.bind hx4 (Ev.of_eq (fun k => rfl)))
      rw [nat_digitAt.f, if_pos (by omega), if_pos (by omega), if_pos (by omega), Int.toNat_natCast, Int.toNat_natCast, Esg]
theorem clone_ev (l : List Int) (h : l.length < 100000) (k : Nat) : (fun _ : Nat => slices_Clone_uint32_uint32.f l) k = some l := by
  show slices_Clone_uint32_uint32.f l = some l
  rw [slices_Clone_uint32_uint32.f, if_pos (by omega)]
theorem Div_ev (a b : List Int) (ha : NonNeg a) (hb : NonNeg b) (hla : a.length < 5000) (hlb : b.length < 5000) : Ev (fun k => nat_Div.f k a b) (digs (V a / V b), digs (V a % V b)) := by
  have hl1 := digs_V_len ha
  have hl2 := digs_V_len hb
  have hc := Cmp_ev (digs (V a)) (digs (V b)) (NonNeg_digs _) (NonNeg_digs _) (by omega) (by omega)
  rw [V_digs, V_digs] at hc
  obtain ⟨x, Ex⟩ : ∃ x, V a = x := ⟨_, rfl⟩
  obtain ⟨y, Ey⟩ : ∃ y, V b = y := ⟨_, rfl⟩
  have h1 := held_ev a ha (by omega)
  have h2 := held_ev b hb (by omega)
  rw [Ex] at hl1 hc h1 ⊢
  rw [Ey] at hl2 hc h2 ⊢
  have hsmall : x < y ∨ y = 0 → Ev (fun k => nat_Div.j0 k (digs x) (digs y) true) (digs (x / y), digs (x % y)) := by
    intro h
    have e : x / y = 0 ∧ x % y = x := by
      rcases h with h | rfl
      · exact ⟨Nat.div_eq_of_lt h, Nat.mod_eq_of_lt h⟩
      · exact ⟨Nat.div_zero _, Nat.mod_zero _⟩
    rw [e.1, e.2, digs_zero]
    refine Ev.one (fun k => ?_)
    simp only [nat_Div.j0]
    rw [if_pos trivial, slices_Clone_uint32_uint32.f, if_pos (by omega)]
    rfl
  refine Ev.congr (fun k => by rw [nat_Div.f]) (Ev.bind h1 (Ev.bind h2 ?_))
  by_cases e : y = 0
  · refine Ev.congr (fun k => ?_) (hsmall (.inr e))
    rw [e, digs_zero, if_pos (by simp)]
  have hy0 := digs_len_pos (n := y) (by omega)
  by_cases e2 : x < y
  · refine Ev.congr (fun k => by rw [if_neg (by omega)]) (Ev.bind hc (Ev.congr (fun k => ?_) (hsmall (.inl e2))))
    rw [decide_eq_true (cmpZ_lt.2 e2)]
  refine Ev.congr (fun k => by rw [if_neg (by omega)]) (Ev.bind hc (Ev.congr (f := fun k => nat_Div.j0 k (digs x) (digs y) false) (fun k => ?_) ?_))
  · rw [decide_eq_false (fun h => e2 (cmpZ_lt.1 h))]
  by_cases e3 : (digs y).length = 1
  · have hy1 := (digs_len_le y 1).1 (by omega)
    rw [P_one] at hy1
    have h3 := by_ev (digs x) (Limbs_digs _) (by omega) y (by omega) hy1
    rw [val_digs] at h3
    have h4 := Of_ev (x % y) (by have := Nat.mod_lt x (show 0 < y by omega); omega)
    have hrd : rd (digs y) 0 = (y : Int) := by
      rw [digs_pos (by omega)]
      show ((y % 1000000000 : Nat) : Int) = _
      omega
    have hmod := Nat.mod_lt x (show 0 < y by omega)
    obtain ⟨z, Ez⟩ : ∃ z, x % y = z := ⟨_, rfl⟩
    rw [Ez] at h3 h4 hmod ⊢
    refine Ev.step (f := fun k => (nat_by.f k (digs x) (y : Int)).bind fun t => (nat_Of.f k (IntKind.u64.wrap t.2)).bind fun o => some (t.1, o)) (fun k => ?_) (Ev.bind h3 (Ev.bind (Ev.congr (fun k => by rw [u64w (by omega) (by omega)]) h4) (Ev.of_eq (fun k => rfl))))
    simp only [nat_Div.j0]
    rw [if_neg (by simp), if_pos (by omega), if_pos (by omega), hrd]
  · obtain ⟨n, hn⟩ : ∃ n, (digs y).length = n + 2 := ⟨(digs y).length - 2, by omega⟩
    have htop := limb_digs_last (n := y) (by omega)
    rw [hn, show n + 2 - 1 = n + 1 by omega] at htop
    have htlt := limb_lt (Limbs_digs y) (n + 1)
    obtain ⟨t, Et⟩ : ∃ t, limb (digs y) (n + 1) = t := ⟨_, rfl⟩
    rw [Et] at htop htlt
    have hyval : y = S (limb (digs y)) (n + 1) + t * P (n + 1) := by
      have := val_digs y
      unfold val at this
      rw [hn, S_succ, Et] at this
      exact this.symm
    have hSy := S_lt (f := limb (digs y)) (n + 1) (fun i _ => limb_lt (Limbs_digs y) i)
    obtain ⟨d0, Ed⟩ : ∃ d0, 1000000000 / (t + 1) = d0 := ⟨_, rfl⟩
    have hd0 : 0 < d0 := by
      rw [← Ed]
      exact Nat.div_pos (by omega) (by omega)
    have hdm : d0 * (t + 1) ≤ 1000000000 := by
      rw [← Ed]
      exact Nat.div_mul_le_self _ _
    have hd1 : d0 < 1000000000 := by
      have : d0 * 2 ≤ d0 * (t + 1) := Nat.mul_le_mul_left _ (by omega)
      omega
    have h3 := Of_ev d0 (by omega)
    have hldd : (digs d0).length ≤ 1 := (digs_len_le d0 1).2 (by rw [P_one]; exact hd1)
    have h4 := Mul_ev (digs x) (digs d0) (NonNeg_digs _) (NonNeg_digs _) (by omega) (by omega)
    have h5 := Mul_ev (digs y) (digs d0) (NonNeg_digs _) (NonNeg_digs _) (by omega) (by omega)
    rw [V_digs, V_digs] at h4 h5
    have hyd : y * d0 < P (n + 2) := by
      have h6 : y * d0 < (t + 1) * P (n + 1) * d0 := (Nat.mul_lt_mul_right hd0).2 (by rw [Nat.add_mul, Nat.one_mul]; omega)
      have h7 : d0 * (t + 1) * P (n + 1) ≤ 1000000000 * P (n + 1) := Nat.mul_le_mul_right _ hdm
      have h8 : (t + 1) * P (n + 1) * d0 = d0 * (t + 1) * P (n + 1) := by grind
      rw [P_succ (n + 1)]
      omega
    have hydge : y * 1 ≤ y * d0 := Nat.mul_le_mul_left _ hd0
    have hlyd : (digs (y * d0)).length = n + 2 := by
      have h6 := (digs_len_le (y * d0) (n + 2)).2 hyd
      have h7 := digs_len_mono (show y ≤ y * d0 by omega)
      omega
    have hxlt := (digs_len_le x (digs x).length).1 (Nat.le_refl _)
    have hlxd : (digs (x * d0)).length ≤ (digs x).length + 1 := by
      rw [digs_len_le, P_succ]
      have h6 : x * d0 ≤ x * 1000000000 := Nat.mul_le_mul_left _ (by omega)
      omega
    have hlen := digs_len_mono (show y ≤ x by omega)
    have hP : y * P ((digs x).length - (n + 2) + 1) ≥ P (digs x).length := by
      have h6 := P_le_digs (n := y) (by omega)
      rw [hn, show n + 2 - 1 = n + 1 by omega] at h6
      have h7 : P (n + 1) * P ((digs x).length - (n + 2) + 1) ≤ y * P ((digs x).length - (n + 2) + 1) := Nat.mul_le_mul_right _ h6
      rw [← P_add, show n + 1 + ((digs x).length - (n + 2) + 1) = (digs x).length by omega] at h7
      exact h7
    have h6 := Div_loop (digs (y * d0)) (digs d0) (Limbs_digs _) n d0 hlyd (by
      have := limb_digs_last (n := y * d0) (by omega)
      rw [hlyd, show n + 2 - 1 = n + 1 by omega] at this
      omega) rfl hd0 hd1 (x * d0) (digs x).length (by omega) ((digs x).length - (n + 2) + 1) (digs (x * d0) ++ List.replicate ((digs x).length + 1 - (digs (x * d0)).length) 0) (List.replicate ((digs x).length - (n + 2) + 1) 0) ((Limbs_digs _).append (Limbs.zeros _)) (Limbs.zeros _) (by simp; omega) (by simp; omega) (by simp) (by
      rw [val_append, val_zeros, Nat.mul_zero, Nat.add_zero, val_digs, val_digs]
      have h7 : x * d0 < P (digs x).length * d0 := (Nat.mul_lt_mul_right hd0).2 hxlt
      have h8 : P (digs x).length * d0 ≤ y * P ((digs x).length - (n + 2) + 1) * d0 := Nat.mul_le_mul_right _ hP
      have h9 : y * P ((digs x).length - (n + 2) + 1) * d0 = y * d0 * P ((digs x).length - (n + 2) + 1) := by grind
      omega) (by
      rw [val_append, val_zeros, Nat.mul_zero, Nat.add_zero, val_digs, val_digs, D_end (by simp), Nat.mul_zero, Nat.mul_zero, Nat.zero_add, Nat.add_zero])
    rw [val_digs, Nat.mul_div_mul_right _ _ hd0, Nat.mul_mod_mul_right, Nat.mul_div_cancel _ hd0] at h6
    refine Ev.step (f := fun k => (nat_Of.f k (d0 : Int)).bind fun t182 => (nat_Mul.f k (digs x) t182).bind fun t185 => (nat_Mul.f k (digs y) t182).bind fun t188 => if 0 ≤ (wrap64 ((wrap64 (((digs x).length : Int) + 1)) - (t185.length : Int))) then (if t185.length + ((wrap64 ((wrap64 (((digs x).length : Int) + 1)) - (t185.length : Int))) : Int).toNat < 35184372088832 then (if 0 ≤ (wrap64 ((wrap64 (((digs x).length : Int) - ((n + 2 : Nat) : Int))) + 1)) then (if ((wrap64 ((wrap64 (((digs x).length : Int) - ((n + 2 : Nat) : Int))) + 1)) : Int).toNat ≤ 70368744177664 then ((some (List.replicate ((wrap64 ((wrap64 (((digs x).length : Int) - ((n + 2 : Nat) : Int))) + 1)) : Int).toNat 0 : List Int)).bind fun y194 => nat_Div.l0 k t182 (t185 ++ List.replicate ((wrap64 ((wrap64 (((digs x).length : Int) + 1)) - (t185.length : Int))) : Int).toNat 0) t188 y194 (wrap64 ((y194.length : Int) - 1))) else none) else none) else none) else none) (fun k => ?_) (Ev.bind h3 (Ev.bind h4 (Ev.bind h5 (Ev.congr (fun k => ?_) h6))))
    · simp only [nat_Div.j0]
      rw [if_neg (by simp), if_neg (by omega), hn, w64 (by omega) (by omega), if_pos (by omega), if_pos (by omega), show (((n + 2 : Nat) : Int) - 1) = ((n + 1 : Nat) : Int) by omega, rd_limb (Limbs_digs y), Et, u64w (x := (t : Int)) (by omega) (by omega), u64w (x := (t : Int) + 1) (by omega) (by omega), if_neg (by omega), show Int.tdiv 1000000000 ((t : Int) + 1) = (d0 : Int) by
        have := tdiv_nat 1000000000 (t + 1)
        rw [Ed] at this
        exact this, u64w (x := (d0 : Int)) (by omega) (by omega)]
    · rw [w64 (x := ((digs x).length : Int) + 1) (by omega) (by omega), w64 (x := ((digs x).length : Int) + 1 - ((digs (x * d0)).length : Int)) (by omega) (by omega), w64 (x := ((digs x).length : Int) - ((n + 2 : Nat) : Int)) (by omega) (by omega), w64 (x := ((digs x).length : Int) - ((n + 2 : Nat) : Int) + 1) (by omega) (by omega), if_pos (by omega), if_pos (by omega), if_pos (by omega), if_pos (by omega)]
      simp only [Option.bind_some]
      rw [show (((digs x).length : Int) + 1 - ((digs (x * d0)).length : Int)).toNat = (digs x).length + 1 - (digs (x * d0)).length by omega, show (((digs x).length : Int) - ((n + 2 : Nat) : Int) + 1).toNat = (digs x).length - (n + 2) + 1 by omega, List.length_replicate, w64 (by omega) (by omega)]
end Go.Proofs.Ytdjefkdebobpmaa.NatF
