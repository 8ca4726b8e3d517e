/- For every two numbers of 32 bits and every number of 64 bits, the program's sum, product, difference, quotient, what is left, even and comparison are Go's own. -/
import Derived.Test.YtdjefkdebobpmaaPAllx14
import Derived.Test.YtdjefkdebobpmaaNatG
namespace Go.Proofs.Ytdjefkdebobpmaa.Pure
open Go.RowKit Go.Proofs.Ytdjefkdebobpmaa.PAll Go.Proofs.YtdjefkdebobpmaaW.PrintWords Go.Proofs.YtdjefkdebobpmaaW.PrintLast Go.Proofs.YtdjefkdebobpmaaW.PrintMore Go.Proofs.Ytdjefkdebobpmaa.NatA Go.Proofs.Ytdjefkdebobpmaa.NatB Go.Proofs.Ytdjefkdebobpmaa.NatC Go.Proofs.Ytdjefkdebobpmaa.NatD Go.Proofs.Ytdjefkdebobpmaa.NatE Go.Proofs.Ytdjefkdebobpmaa.NatF Go.Proofs.Ytdjefkdebobpmaa.NatG

theorem NatSmall : mullionlaw1_NatSmall.Pure := by
  intro a0 a1 a2 w0 w1 w2
  have h0 := wf_u32 w0
  have h1 := wf_u32 w1
  have h2 := wf_u64 w2
  obtain ⟨x, rfl⟩ : ∃ n : Nat, a0 = (n : Int) := ⟨a0.toNat, by omega⟩
  obtain ⟨y, rfl⟩ : ∃ n : Nat, a1 = (n : Int) := ⟨a1.toNat, by omega⟩
  obtain ⟨n, rfl⟩ : ∃ n : Nat, a2 = (n : Int) := ⟨a2.toNat, by omega⟩
  have P3 : P 3 = 1000000000000000000000000000 := by unfold P; rfl
  have hx : x < P 3 := by omega
  have hy : y < P 3 := by omega
  have hn : n < P 3 := by omega
  have hxy : x * y ≤ 18446744065119617025 := by
    have h3 : x * y ≤ 4294967295 * y := Nat.mul_le_mul_right _ (by omega)
    omega
  have ux : IntKind.u64.wrap (x : Int) = (x : Int) := u64w (by omega) (by omega)
  have uy : IntKind.u64.wrap (y : Int) = (y : Int) := u64w (by omega) (by omega)
  have ox := Of_ev x (by omega)
  have oy := Of_ev y (by omega)
  have on := Of_ev n (by omega)
  have main : Ev (fun k => mullionlaw1_NatSmall.j0 k (n : Int) (x : Int) (y : Int) (digs x) (digs y) false) true := by
    have e1 : IntKind.u64.wrap ((x : Int) + (y : Int)) = ((x + y : Nat) : Int) := by rw [u64w (by omega) (by omega)]; omega
    have e2 : IntKind.u64.wrap ((x : Int) * (y : Int)) = ((x * y : Nat) : Int) := by
      rw [show (x : Int) * (y : Int) = ((x * y : Nat) : Int) by simp]
      exact u64w (by omega) (by omega)
    have e3 : IntKind.u64.wrap ((mx (x : Int) (y : Int)) - (y : Int)) = ((x - y : Nat) : Int) := by
      unfold mx
      split
      · rw [u64w (by omega) (by omega)]
        omega
      · rw [u64w (by omega) (by omega)]
        omega
    have e4 : Int.tmod (n : Int) 2 = ((n % 2 : Nat) : Int) := tmod_nat n 2
    refine Ev.step (fun k => by simp only [mullionlaw1_NatSmall.j0]; rfl) (Ev.congr (fun k => if_neg (by simp)) ?_)
    refine Ev.bind (padd hx hy (by omega) (by omega)) (Ev.bind (Ev.congr (fun k => by rw [e1]) (Of_ev (x + y) (by omega))) (Ev.bind (psame (m := 3) rfl (by omega) (by omega)) (Ev.congr (fun k => if_pos rfl) ?_)))
    refine Ev.bind (pmul hx hy (by omega) (by omega)) (Ev.bind (Ev.congr (fun k => by rw [e2]) (Of_ev (x * y) (by omega))) (Ev.bind (psame (m := 3) rfl (by omega) (by omega)) (Ev.congr (fun k => if_pos rfl) ?_)))
    refine Ev.bind (psub hx hy (by omega) (by omega)) (Ev.bind (Ev.congr (fun k => by rw [e3]) (Of_ev (x - y) (by omega))) (Ev.bind (psame (m := 3) rfl (by omega) (by omega)) (Ev.congr (fun k => if_pos rfl) ?_)))
    have ev := Even_ev (digs n) (NonNeg_digs _) (by have := plen hn (by omega); omega)
    rw [V_digs] at ev
    refine Ev.bind on (Ev.bind ev (Ev.congr (fun k => if_pos (by rw [e4, beq_iff_eq, Bool.eq_iff_iff, decide_eq_true_eq, beq_iff_eq]; omega)) ?_))
    refine Ev.bind (pcmp hx hy (by omega) (by omega)) (Ev.of_eq (fun k => ?_))
    congr 1
    rw [beq_iff_eq, Bool.eq_iff_iff, decide_eq_true_eq, decide_eq_true_eq, cmpZ_lt]
    omega
  refine Ev.rounds (Ev.congr (fun k => by rw [mullionlaw1_NatSmall.f, ux, uy]) (Ev.bind known_ev (Ev.congr (fun k => if_pos rfl) ?_)))
  refine Ev.bind ox (Ev.bind oy (Ev.bind on (Ev.bind (pdiv hn hy (by omega) (by omega)) ?_)))
  by_cases e : y = 0
  · exact Ev.congr (fun k => if_neg (by omega)) main
  · have hdle : n / y ≤ n := Nat.div_le_self _ _
    have hmle : n % y ≤ n := Nat.mod_le _ _
    obtain ⟨q, Eq⟩ : ∃ q, n / y = q := ⟨_, rfl⟩
    obtain ⟨r, Er⟩ : ∃ r, n % y = r := ⟨_, rfl⟩
    have e5 : IntKind.u64.wrap (Int.tdiv (n : Int) (y : Int)) = (q : Int) := by rw [tdiv_nat, Eq]; exact u64w (by omega) (by omega)
    have e6 : Int.tmod (n : Int) (y : Int) = (r : Int) := by rw [tmod_nat, Er]
    rw [Eq, Er]
    refine Ev.congr (fun k => if_pos (by omega)) (Ev.congr (fun k => if_neg (by omega)) ?_)
    refine Ev.bind (Ev.congr (fun k => by rw [e5]) (Of_ev q (by omega))) (Ev.bind (psame (m := 3) rfl (by omega) (by omega)) (Ev.congr (fun k => if_pos rfl) ?_))
    refine Ev.bind (Ev.congr (fun k => by rw [e6]) (Of_ev r (by omega))) (Ev.bind (psame (m := 3) rfl (by omega) (by omega)) main)

end Go.Proofs.Ytdjefkdebobpmaa.Pure
