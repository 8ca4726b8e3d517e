/- For every three naturals of at most 8 limbs, of two that are unlike one is greater, and adding and multiplying keep the order, in the program's own comparison; on other rows the law's guard lets go. -/
import Derived.Test.YtdjefkdebobpmaaPAllx15
import Derived.Test.YtdjefkdebobpmaaNatG
namespace Go.Proofs.Ytdjefkdebobpmaa.Pure
open Go.RowKit Go.Proofs.Ytdjefkdebobpmaa.PAll Go.Proofs.YtdjefkdebobpmaaW.PrintWords Go.Proofs.YtdjefkdebobpmaaW.PrintLast Go.Proofs.YtdjefkdebobpmaaW.PrintMore Go.Proofs.Ytdjefkdebobpmaa.NatA Go.Proofs.Ytdjefkdebobpmaa.NatB Go.Proofs.Ytdjefkdebobpmaa.NatC Go.Proofs.Ytdjefkdebobpmaa.NatD Go.Proofs.Ytdjefkdebobpmaa.NatE Go.Proofs.Ytdjefkdebobpmaa.NatF Go.Proofs.Ytdjefkdebobpmaa.NatG

theorem order_main (x y z : Nat) (hx : x < P 8) (hy : y < P 8) (hz : z < P 8) : Ev (fun k => mullionlaw1_NatOrder.j0 k (digs x) (digs y) (digs z) false) true := by
  have two : 2 * P 8 ≤ P 9 := by rw [P_succ 8]; omega
  have hxz : x * z < P 16 := pprod (m := 8) (n := 8) hx hz
  have hyz : y * z < P 16 := pprod (m := 8) (n := 8) hy hz
  have cneg : wrap64 (-(cmpZ y x)) = cmpZ x y := by
    unfold cmpZ
    by_cases h1 : y < x
    · rw [if_pos h1, if_neg (by omega), if_pos h1]
      exact w64 (by omega) (by omega)
    · by_cases h2 : x < y
      · rw [if_neg h1, if_pos h2, if_pos h2]
        exact w64 (by omega) (by omega)
      · rw [if_neg h1, if_neg h2, if_neg h2, if_neg h1]
        exact w64 (by omega) (by omega)
  have cadd : cmpZ (x + z) (y + z) = cmpZ x y := by
    unfold cmpZ
    simp only [Nat.add_lt_add_iff_right]
  have j1 : Ev (fun k => mullionlaw1_NatOrder.j1 k (digs x) (digs y) (digs z) (cmpZ x y) false) true := by
    refine Ev.step (fun k => by simp only [mullionlaw1_NatOrder.j1]; rfl) (Ev.congr (fun k => if_neg (by simp)) ?_)
    refine Ev.bind (pmul hx hz (by omega) (by omega)) (Ev.bind (pmul hy hz (by omega) (by omega)) (Ev.bind (pcmp hxz hyz (by omega) (by omega)) ?_))
    by_cases e : z = 0
    · by_cases e2 : cmpZ (x * z) (y * z) = cmpZ x y
      · exact Ev.of_eq (fun k => if_pos e2)
      · refine Ev.of_eq (fun k => ?_)
        rw [if_neg e2, e, digs_zero]
        rfl
    · refine Ev.of_eq (fun k => if_pos ?_)
      unfold cmpZ
      simp only [Nat.mul_lt_mul_right (show 0 < z by omega)]
  have sub : Ev (fun k => (nat_Sub.f k (digs x) (digs y)).bind fun t => mullionlaw1_NatOrder.j1 k (digs x) (digs y) (digs z) (cmpZ x y) ((decide (cmpZ x y ≤ 0)) != ((t.length : Int) == 0))) true := by
    refine Ev.bind (psub hx hy (by omega) (by omega)) (Ev.congr (fun k => ?_) j1)
    congr 1
    rw [bne_eq_false_iff_eq, Bool.eq_iff_iff, decide_eq_true_eq, beq_iff_eq, cmpZ_le]
    have := digs_len_zero (n := x - y)
    omega
  refine Ev.step (fun k => by simp only [mullionlaw1_NatOrder.j0]; rfl) (Ev.congr (fun k => if_neg (by simp)) ?_)
  refine Ev.bind (pcmp hx hy (by omega) (by omega)) (Ev.bind (pcmp hy hz (by omega) (by omega)) (Ev.bind (pcmp hy hx (by omega) (by omega)) (Ev.congr (fun k => if_pos cneg.symm) ?_)))
  refine Ev.bind (padd hx hz (by omega) (by omega)) (Ev.bind (padd hy hz (by omega) (by omega)) (Ev.bind (pcmp (m := 9) (n := 9) (by omega) (by omega) (by omega) (by omega)) (Ev.congr (fun k => if_pos cadd) ?_)))
  by_cases e1 : cmpZ x y < 0
  · refine Ev.congr (fun k => if_pos e1) ?_
    by_cases e2 : cmpZ y z < 0
    · refine Ev.congr (fun k => if_pos e2) (Ev.bind (pcmp hx hz (by omega) (by omega)) (Ev.congr (fun k => if_neg ?_) sub))
      have := cmpZ_lt.1 e1
      have := cmpZ_lt.1 e2
      have := cmpZ_lt.2 (show x < z by omega)
      omega
    · exact Ev.congr (fun k => if_neg e2) sub
  · exact Ev.congr (fun k => if_neg e1) sub
theorem NatOrder : mullionlaw1_NatOrder.Pure := by
  intro l0 l1 l2 _ _ w0 _ _ w1 _ _ w2
  have h0 := nonneg_of w0
  have h1 := nonneg_of w1
  have h2 := nonneg_of w2
  have triv : Ev (fun k => mullionlaw1_NatOrder.j0 k l0 l1 l2 true) true := Ev.one (fun k => by simp only [mullionlaw1_NatOrder.j0]; rw [if_pos trivial])
  refine Ev.rounds (Ev.congr (fun k => by rw [mullionlaw1_NatOrder.f]) (Ev.bind known_ev (Ev.congr (fun k => if_pos rfl) ?_)))
  refine Ev.bind (Ev.of_eq (fun _ => few_eq l0)) ?_
  by_cases e0 : l0.length ≤ 8
  case neg => exact Ev.congr (fun k => if_neg (by simp [e0])) triv
  refine Ev.congr (fun k => if_pos (decide_eq_true e0)) (Ev.bind (Ev.of_eq (fun _ => few_eq l1)) ?_)
  by_cases e1 : l1.length ≤ 8
  case neg => exact Ev.congr (fun k => if_neg (by simp [e1])) triv
  refine Ev.congr (fun k => if_pos (decide_eq_true e1)) (Ev.bind (Ev.of_eq (fun _ => few_eq l2)) ?_)
  by_cases e2 : l2.length ≤ 8
  case neg => exact Ev.congr (fun k => if_neg (by simp [e2])) triv
  refine Ev.congr (fun k => if_pos (decide_eq_true e2)) (Ev.bind (Is_ev l0 h0 (by omega)) ?_)
  by_cases f0 : isNatB l0 = true
  case neg => exact Ev.congr (fun k => if_neg f0) triv
  refine Ev.congr (fun k => if_pos f0) (Ev.bind (Is_ev l1 h1 (by omega)) ?_)
  by_cases f1 : isNatB l1 = true
  case neg => exact Ev.congr (fun k => if_neg f1) triv
  refine Ev.congr (fun k => if_pos f1) (Ev.bind (Is_ev l2 h2 (by omega)) ?_)
  by_cases f2 : isNatB l2 = true
  case neg => exact Ev.congr (fun k => by rw [Bool.eq_false_iff.2 f2]; rfl) triv
  have := order_main (V l0) (V l1) (V l2) ((digs_len_le _ _).1 (by rw [Is_nat f0 h0]; exact e0)) ((digs_len_le _ _).1 (by rw [Is_nat f1 h1]; exact e1)) ((digs_len_le _ _).1 (by rw [Is_nat f2 h2]; exact e2))
  rw [Is_nat f0 h0, Is_nat f1 h1, Is_nat f2 h2] at this
  exact Ev.congr (fun k => by rw [f2]; rfl) this

end Go.Proofs.Ytdjefkdebobpmaa.Pure
