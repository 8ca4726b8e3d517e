/- For every three naturals of at most 8 limbs, the program's sums and products come in either order and grouping, what was added may be taken away, and a product and what is left make the number again; on other rows the law's guard lets go. -/
import Derived.Test.YtdjefkdebobpmaaPAllx13
import Derived.Test.YtdjefkdebobpmaaNatG
namespace Go.Proofs.Ytdjefkdebobpmaa.Pure
open Go.RowKit Go.Proofs.Ytdjefkdebobpmaa.PAll Go.Proofs.YtdjefkdebobpmaaW.PrintWords Go.Proofs.YtdjefkdebobpmaaW.PrintLast Go.Proofs.Ytdjefkdebobpmaa.NatA Go.Proofs.Ytdjefkdebobpmaa.NatB Go.Proofs.Ytdjefkdebobpmaa.NatC Go.Proofs.Ytdjefkdebobpmaa.NatD Go.Proofs.Ytdjefkdebobpmaa.NatE Go.Proofs.Ytdjefkdebobpmaa.NatF Go.Proofs.Ytdjefkdebobpmaa.NatG

theorem rules_main (x y z : Nat) (hx : x < P 8) (hy : y < P 8) (hz : z < P 8) : Ev (fun k => mullionlaw1_NatRules.j0 k (digs x) (digs y) (digs z) false) true := by
  have hp := P_pos 8
  have P16 : P 8 * P 8 = P 16 := by rw [← P_add]
  have P24 : P 16 * P 8 = P 24 := by rw [← P_add]
  have two : 2 * P 8 ≤ P 9 := by rw [P_succ 8]; omega
  have two16 : 2 * P 16 ≤ P 17 := by rw [P_succ 16]; omega
  have m89 : P 8 ≤ P 9 := P_mono (by omega)
  have m916 : P 9 ≤ P 16 := P_mono (by omega)
  have m1624 : P 17 ≤ P 24 := P_mono (by omega)
  have m1617 : P 16 ≤ P 17 := P_mono (by omega)
  have prod : ∀ a b m n, a < P m → b < P n → a * b < P (m + n) := fun a b m n h1 h2 => by
    rw [P_add]
    have h3 : a * b ≤ a * P n := Nat.mul_le_mul_left _ (by omega)
    have h4 : a * P n < P m * P n := (Nat.mul_lt_mul_right (P_pos n)).2 h1
    omega
  have hlen : ∀ a n, a < P n → n ≤ 100 → (digs a).length < 5000 := fun a n h1 h2 => by
    have := digs_short h1
    omega
  have add : ∀ a b m n, a < P m → b < P n → m ≤ 100 → n ≤ 100 → Ev (fun k => nat_Add.f k (digs a) (digs b)) (digs (a + b)) := fun a b m n h1 h2 h3 h4 => by
    have := Add_ev (digs a) (digs b) (NonNeg_digs _) (NonNeg_digs _) (by have := hlen a m h1 h3; omega) (by have := hlen b n h2 h4; omega)
    rwa [V_digs, V_digs] at this
  have mul : ∀ a b m n, a < P m → b < P n → m ≤ 100 → n ≤ 100 → Ev (fun k => nat_Mul.f k (digs a) (digs b)) (digs (a * b)) := fun a b m n h1 h2 h3 h4 => by
    have := Mul_ev (digs a) (digs b) (NonNeg_digs _) (NonNeg_digs _) (by have := hlen a m h1 h3; omega) (by have := hlen b n h2 h4; omega)
    rwa [V_digs, V_digs] at this
  have sub : ∀ a b m n, a < P m → b < P n → m ≤ 100 → n ≤ 100 → Ev (fun k => nat_Sub.f k (digs a) (digs b)) (digs (a - b)) := fun a b m n h1 h2 h3 h4 => by
    have := Sub_ev (digs a) (digs b) (NonNeg_digs _) (NonNeg_digs _) (by have := hlen a m h1 h3; omega) (by have := hlen b n h2 h4; omega)
    rwa [V_digs, V_digs] at this
  have same : ∀ a b m, a = b → a < P m → m ≤ 100 → Ev (fun k => nat_Cmp.f k (digs a) (digs b)) 0 := fun a b m h1 h2 h3 => cmp_same h1 (by have := hlen a m h2 h3; omega)
  have isn : ∀ a m, a < P m → m ≤ 100 → Ev (fun k => nat_Is.f k (digs a)) true := fun a m h1 h2 => by
    have := Is_ev (digs a) (NonNeg_digs _) (by have := hlen a m h1 h2; omega)
    rwa [isNatB_digs] at this
  have div := Div_ev (digs x) (digs y) (NonNeg_digs _) (NonNeg_digs _) (by have := hlen x 8 hx (by omega); omega) (by have := hlen y 8 hy (by omega); omega)
  rw [V_digs, V_digs] at div
  have hq : x / y ≤ x := Nat.div_le_self _ _
  have hr : x % y ≤ x := Nat.mod_le _ _
  have hdm := Nat.div_add_mod x y
  refine Ev.step (fun k => by simp only [mullionlaw1_NatRules.j0]; rfl) (Ev.congr (fun k => if_neg (by simp)) ?_)
  refine Ev.bind (add x y 8 8 hx hy (by omega) (by omega)) (Ev.bind div (Ev.bind (isn (x + y) 9 (by omega) (by omega)) (Ev.congr (fun k => if_pos rfl) ?_)))
  refine Ev.bind (add y x 8 8 hy hx (by omega) (by omega)) (Ev.bind (same (y + x) (x + y) 9 (by omega) (by omega) (by omega)) (Ev.congr (fun k => if_pos rfl) ?_))
  refine Ev.bind (sub (x + y) y 9 8 (by omega) hy (by omega) (by omega)) (Ev.bind (same (x + y - y) x 8 (by omega) (by omega) (by omega)) (Ev.congr (fun k => if_pos rfl) ?_))
  refine Ev.bind (add (x + y) z 9 8 (by omega) hz (by omega) (by omega)) (Ev.bind (add y z 8 8 hy hz (by omega) (by omega)) (Ev.bind (add x (y + z) 8 9 hx (by omega) (by omega) (by omega)) (Ev.bind (same (x + y + z) (x + (y + z)) 16 (by omega) (by rw [P_succ 8] at m916; omega) (by omega)) ?_)))
  refine Ev.step (fun k => by simp only [mullionlaw1_NatRules.j1]; rfl) (Ev.congr (fun k => if_neg (by decide)) ?_)
  have hxz : x * z < P 16 := prod x z 8 8 hx hz
  have hyz : y * z < P 16 := prod y z 8 8 hy hz
  have hxy : x * y < P 16 := prod x y 8 8 hx hy
  refine Ev.bind (mul (x + y) z 9 8 (by omega) hz (by omega) (by omega)) (Ev.bind (mul x z 8 8 hx hz (by omega) (by omega)) (Ev.bind (mul y z 8 8 hy hz (by omega) (by omega)) (Ev.bind (add (x * z) (y * z) 16 16 hxz hyz (by omega) (by omega)) (Ev.bind (same ((x + y) * z) (x * z + y * z) 17 (by rw [Nat.add_mul]) (by rw [Nat.add_mul]; omega) (by omega)) (Ev.congr (fun k => if_pos rfl) ?_)))))
  refine Ev.bind (mul x y 8 8 hx hy (by omega) (by omega)) (Ev.bind (mul (x * y) z 16 8 hxy hz (by omega) (by omega)) (Ev.bind (mul y z 8 8 hy hz (by omega) (by omega)) (Ev.bind (mul x (y * z) 8 16 hx hyz (by omega) (by omega)) (Ev.bind (same (x * y * z) (x * (y * z)) 24 (by rw [Nat.mul_assoc]) (prod (x * y) z 16 8 hxy hz) (by omega)) ?_))))
  refine Ev.step (fun k => by simp only [mullionlaw1_NatRules.j2]; rfl) (Ev.congr (fun k => if_neg (by decide)) ?_)
  have hqy : x / y * y ≤ x := by rw [Nat.mul_comm]; omega
  refine Ev.bind (mul (x / y) y 8 8 (by omega) hy (by omega) (by omega)) (Ev.bind (add (x / y * y) (x % y) 8 8 (by omega) (by omega) (by omega) (by omega)) (Ev.bind (same (x / y * y + x % y) x 8 (by rw [Nat.mul_comm]; exact hdm) (by rw [Nat.mul_comm, hdm]; exact hx) (by omega)) (Ev.congr (fun k => if_pos rfl) ?_)))
  have fin : Ev (fun k => (nat_Is.f k (digs (x / y))).bind fun t => if t = true then ((nat_Is.f k (digs (x % y))).bind fun u => some u) else none) true :=
    Ev.bind (isn (x / y) 8 (by omega) (by omega)) (Ev.congr (fun k => if_pos rfl) (Ev.bind (isn (x % y) 8 (by omega) (by omega)) (Ev.of_eq (fun k => rfl))))
  by_cases e : y = 0
  · refine Ev.congr (fun k => if_pos ?_) fin
    rw [e, digs_zero]
    rfl
  · have h1 := digs_len_pos (n := y) (by omega)
    refine Ev.congr (fun k => if_neg (by omega)) ?_
    have h2 := Cmp_ev (digs (x % y)) (digs y) (NonNeg_digs _) (NonNeg_digs _) (by have := hlen (x % y) 8 (by omega) (by omega); omega) (by have := hlen y 8 hy (by omega); omega)
    rw [V_digs, V_digs] at h2
    refine Ev.bind h2 (Ev.congr (fun k => if_pos (cmpZ_lt.2 (Nat.mod_lt _ (by omega)))) fin)
theorem NatRules : mullionlaw1_NatRules.Pure := by
  intro l0 l1 l2 _ _ w0 _ _ w1 _ _ w2
  have h0 := nonneg_of w0
  have h1 := nonneg_of w1
  have h2 := nonneg_of w2
  have triv : Ev (fun k => mullionlaw1_NatRules.j0 k l0 l1 l2 true) true := Ev.one (fun k => by simp only [mullionlaw1_NatRules.j0]; rw [if_pos trivial])
  refine Ev.rounds (Ev.congr (fun k => by rw [mullionlaw1_NatRules.f]) (Ev.bind known_ev (Ev.congr (fun k => if_pos rfl) ?_)))
  refine Ev.bind (Ev.of_eq (fun _ => few_eq l0)) ?_
  by_cases e0 : l0.length ≤ 8
  case neg => exact Ev.congr (fun k => if_neg (by simp [e0])) triv
  refine Ev.congr (fun k => if_pos (decide_eq_true e0)) (Ev.bind (Ev.of_eq (fun _ => few_eq l1)) ?_)
  by_cases e1 : l1.length ≤ 8
  case neg => exact Ev.congr (fun k => if_neg (by simp [e1])) triv
  refine Ev.congr (fun k => if_pos (decide_eq_true e1)) (Ev.bind (Ev.of_eq (fun _ => few_eq l2)) ?_)
  by_cases e2 : l2.length ≤ 8
  case neg => exact Ev.congr (fun k => if_neg (by simp [e2])) triv
  refine Ev.congr (fun k => if_pos (decide_eq_true e2)) (Ev.bind (Is_ev l0 h0 (by omega)) ?_)
  by_cases f0 : isNatB l0 = true
  case neg => exact Ev.congr (fun k => if_neg f0) triv
  refine Ev.congr (fun k => if_pos f0) (Ev.bind (Is_ev l1 h1 (by omega)) ?_)
  by_cases f1 : isNatB l1 = true
  case neg => exact Ev.congr (fun k => if_neg f1) triv
  refine Ev.congr (fun k => if_pos f1) (Ev.bind (Is_ev l2 h2 (by omega)) ?_)
  by_cases f2 : isNatB l2 = true
  case neg => exact Ev.congr (fun k => by rw [Bool.eq_false_iff.2 f2]; rfl) triv
  have := rules_main (V l0) (V l1) (V l2) ((digs_len_le _ _).1 (by rw [Is_nat f0 h0]; exact e0)) ((digs_len_le _ _).1 (by rw [Is_nat f1 h1]; exact e1)) ((digs_len_le _ _).1 (by rw [Is_nat f2 h2]; exact e2))
  rw [Is_nat f0 h0, Is_nat f1 h1, Is_nat f2 h2] at this
  exact Ev.congr (fun k => by rw [f2]; rfl) this

end Go.Proofs.Ytdjefkdebobpmaa.Pure
