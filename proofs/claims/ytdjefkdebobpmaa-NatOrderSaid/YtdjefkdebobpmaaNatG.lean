/- What 'known' and 'few' tell, and what the laws share, in plain Lean. -/
import Derived.Test.YtdjefkdebobpmaaNatF
import Derived.Test.YtdjefkdebobpmaaPAllx6
namespace Go.Proofs.Ytdjefkdebobpmaa.NatG
open Go.RowKit Go.Proofs.Ytdjefkdebobpmaa.PAll Go.Proofs.YtdjefkdebobpmaaW.PrintWords Go.Proofs.Ytdjefkdebobpmaa.NatA Go.Proofs.Ytdjefkdebobpmaa.NatB Go.Proofs.Ytdjefkdebobpmaa.NatC Go.Proofs.Ytdjefkdebobpmaa.NatD Go.Proofs.Ytdjefkdebobpmaa.NatE Go.Proofs.Ytdjefkdebobpmaa.NatF

theorem wf_u32 {x : Int} (h : (Lit.int .u32 x).wf = true) : 0 ≤ x ∧ x < 4294967296 := by
  simp [Lit.wf, IntKind.signed, IntKind.bits, IntKind.min, IntKind.max] at h
  omega
theorem wf_u64 {x : Int} (h : (Lit.int .u64 x).wf = true) : 0 ≤ x ∧ x < 18446744073709551616 := by
  simp [Lit.wf, IntKind.signed, IntKind.bits, IntKind.min, IntKind.max] at h
  omega
theorem wf_u8 {x : Int} (h : (Lit.int .u8 x).wf = true) : 0 ≤ x ∧ x < 256 := by
  simp [Lit.wf, IntKind.signed, IntKind.bits, IntKind.min, IntKind.max] at h
  omega
theorem nonneg_of {l : List Int} (h : ∀ x ∈ l, (Lit.int .u32 x).wf = true) : NonNeg l := fun x hx => (wf_u32 (h x hx)).1
theorem digs_eq {l : List Int} {n : Nat} (h : ∀ x ∈ l, 0 ≤ x ∧ x < 1000000000) (hl : limb l (l.length - 1) ≠ 0) (hv : val l = n) : digs n = l := by
  rw [← hv]
  exact digs_val h (.inr hl)
theorem same_ev {a b : List Int} (h : a = b) (hl : a.length < 100000) : Ev (fun k => mullionref1_SameNat.f k a b) true := by
  subst h
  exact SameNat_ev a hl
theorem few_eq (l : List Int) : mullionlaw1_few.f l = some (decide (l.length ≤ 8)) := by
  rw [mullionlaw1_few.f]
  congr 1
  rw [Bool.eq_iff_iff, decide_eq_true_eq, decide_eq_true_eq]
  omega
theorem Is_nat {l : List Int} (h : isNatB l = true) (h0 : NonNeg l) : digs (V l) = l := by rw [digs_V h0, if_pos h]
theorem cmpZ_eq {x y : Nat} : cmpZ x y = 0 ↔ x = y := by
  unfold cmpZ
  split
  · omega
  · split <;> omega
theorem cmp_same {x y : Nat} (h : x = y) (hx : (digs x).length < 100000) : Ev (fun k => nat_Cmp.f k (digs x) (digs y)) 0 := by
  subst h
  have := Cmp_ev (digs x) (digs x) (NonNeg_digs _) (NonNeg_digs _) hx hx
  rwa [V_digs, cmpZ_self] at this
theorem digs_short {x n : Nat} (h : x < P n) : (digs x).length ≤ n := (digs_len_le x n).2 h
theorem known_ev : Ev (fun k => mullionlaw1_known.f k) true := by
  have P3 : P 3 = 1000000000000000000000000000 := by unfold P; rfl
  have sh : ∀ x : Nat, x < 1000000000000000000000000000 → (digs x).length < 1000 := fun x hx => by
    have := digs_short (x := x) (n := 3) (by rw [P3]; exact hx)
    omega
  have o1 := Of_ev 1000000007 (by omega)
  have o2 := Of_ev 10 (by omega)
  have o3 := Div_ev (digs 1000000007) (digs 10) (NonNeg_digs _) (NonNeg_digs _) (by have := sh 1000000007 (by omega); omega) (by have := sh 10 (by omega); omega)
  rw [V_digs, V_digs] at o3
  have o4 := Of_ev 1000000001 (by omega)
  have o5 := Of_ev 3 (by omega)
  have o6 := Of_ev 2 (by omega)
  have o7 := Cmp_ev (digs 3) (digs 2) (NonNeg_digs _) (NonNeg_digs _) (by have := sh 3 (by omega); omega) (by have := sh 2 (by omega); omega)
  rw [V_digs, V_digs] at o7
  have o8 := Of_ev 1000000000 (by omega)
  have o9 := Mul_ev (digs 1000000000) (digs 1000000000) (NonNeg_digs _) (NonNeg_digs _) (by have := sh 1000000000 (by omega); omega) (by have := sh 1000000000 (by omega); omega)
  rw [V_digs] at o9
  have o10 := Is_ev [1] (fun x hx => by simp at hx; omega) (by decide)
  have o11 := Is_ev [1, 0] (fun x hx => by simp at hx; omega) (by decide)
  have o12 := Of_ev 4 (by omega)
  have o13 := Even_ev (digs 4) (NonNeg_digs _) (by have := sh 4 (by omega); omega)
  rw [V_digs] at o13
  have o14 := Sub_ev (digs 2) (digs 3) (NonNeg_digs _) (NonNeg_digs _) (by have := sh 2 (by omega); omega) (by have := sh 3 (by omega); omega)
  rw [V_digs, V_digs] at o14
  have e1 : digs 1000000001 = [1, 1] := digs_eq (fun x hx => by simp at hx; omega) (by decide) (by simp [val_cons, val_nil])
  have e2 : digs (1000000000 * 1000000000) = [0, 0, 1] := digs_eq (fun x hx => by simp at hx; omega) (by decide) (by simp [val_cons, val_nil])
  have e3 : digs (1000000007 / 10) = [100000000] := digs_eq (fun x hx => by simp at hx; omega) (by decide) (by simp [val_cons, val_nil])
  have e4 : digs (1000000007 % 10) = [7] := digs_eq (fun x hx => by simp at hx; omega) (by decide) (by simp [val_cons, val_nil])
  refine Ev.congr (fun k => by rw [mullionlaw1_known.f]) ?_
  refine Ev.bind o1 (Ev.bind o2 (Ev.bind o3 (Ev.bind o4 (Ev.bind (same_ev e1 (by have := sh 1000000001 (by omega); omega)) ?_))))
  refine Ev.congr (fun k => if_pos rfl) (Ev.bind o5 (Ev.bind o6 (Ev.bind o7 ?_)))
  refine Ev.congr (fun k => if_pos (by decide)) (Ev.bind o8 (Ev.bind o8 (Ev.bind o9 (Ev.bind (same_ev e2 (by rw [e2]; decide)) ?_))))
  refine Ev.congr (fun k => if_pos rfl) (Ev.bind (same_ev e3 (by rw [e3]; decide)) ?_)
  refine Ev.congr (fun k => if_pos rfl) (Ev.bind (same_ev e4 (by rw [e4]; decide)) ?_)
  refine Ev.congr (fun k => if_pos rfl) (Ev.bind o10 ?_)
  refine Ev.congr (fun k => if_pos (by decide)) (Ev.bind o11 ?_)
  refine Ev.congr (fun k => if_neg (by decide)) (Ev.bind o12 (Ev.bind o13 ?_))
  refine Ev.congr (fun k => if_pos (by decide)) (Ev.bind o6 (Ev.bind o5 (Ev.bind o14 ?_)))
  exact Ev.of_eq (fun k => by rw [show 2 - 3 = 0 by rfl, digs_zero]; rfl)
theorem plen {a n : Nat} (h1 : a < P n) (h2 : n ≤ 100) : (digs a).length < 5000 := by
  have := digs_short h1
  omega
theorem padd {a b m n : Nat} (h1 : a < P m) (h2 : b < P n) (h3 : m ≤ 100) (h4 : n ≤ 100) : Ev (fun k => nat_Add.f k (digs a) (digs b)) (digs (a + b)) := by
  have := Add_ev (digs a) (digs b) (NonNeg_digs _) (NonNeg_digs _) (by have := plen h1 h3; omega) (by have := plen h2 h4; omega)
  rwa [V_digs, V_digs] at this
theorem pmul {a b m n : Nat} (h1 : a < P m) (h2 : b < P n) (h3 : m ≤ 100) (h4 : n ≤ 100) : Ev (fun k => nat_Mul.f k (digs a) (digs b)) (digs (a * b)) := by
  have := Mul_ev (digs a) (digs b) (NonNeg_digs _) (NonNeg_digs _) (by have := plen h1 h3; omega) (by have := plen h2 h4; omega)
  rwa [V_digs, V_digs] at this
theorem psub {a b m n : Nat} (h1 : a < P m) (h2 : b < P n) (h3 : m ≤ 100) (h4 : n ≤ 100) : Ev (fun k => nat_Sub.f k (digs a) (digs b)) (digs (a - b)) := by
  have := Sub_ev (digs a) (digs b) (NonNeg_digs _) (NonNeg_digs _) (by have := plen h1 h3; omega) (by have := plen h2 h4; omega)
  rwa [V_digs, V_digs] at this
theorem pdiv {a b m n : Nat} (h1 : a < P m) (h2 : b < P n) (h3 : m ≤ 100) (h4 : n ≤ 100) : Ev (fun k => nat_Div.f k (digs a) (digs b)) (digs (a / b), digs (a % b)) := by
  have := Div_ev (digs a) (digs b) (NonNeg_digs _) (NonNeg_digs _) (by have := plen h1 h3; omega) (by have := plen h2 h4; omega)
  rwa [V_digs, V_digs] at this
theorem pcmp {a b m n : Nat} (h1 : a < P m) (h2 : b < P n) (h3 : m ≤ 100) (h4 : n ≤ 100) : Ev (fun k => nat_Cmp.f k (digs a) (digs b)) (cmpZ a b) := by
  have := Cmp_ev (digs a) (digs b) (NonNeg_digs _) (NonNeg_digs _) (by have := plen h1 h3; omega) (by have := plen h2 h4; omega)
  rwa [V_digs, V_digs] at this
theorem psame {a b m : Nat} (h : a = b) (h1 : a < P m) (h3 : m ≤ 100) : Ev (fun k => nat_Cmp.f k (digs a) (digs b)) 0 := cmp_same h (by have := plen h1 h3; omega)
theorem pprod {a b m n : Nat} (h1 : a < P m) (h2 : b < P n) : a * b < P (m + n) := by
  rw [P_add]
  have h3 : a * b ≤ a * P n := Nat.mul_le_mul_left _ (by omega)
  have h4 : a * P n < P m * P n := (Nat.mul_lt_mul_right (P_pos n)).2 h1
  omega
/-- One limb that isn't 0, at its place. -/
theorem digs_one {c q : Nat} (h0 : 0 < c) (h1 : c < 1000000000) : digs (c * P q) = List.replicate q 0 ++ [(c : Int)] := by
  refine digs_eq ((Limbs.zeros q).append (Limbs.one (by omega) (by omega))) ?_ ?_
  · rw [List.length_append, List.length_replicate, List.length_singleton, Nat.add_sub_cancel]
    unfold limb
    rw [List.getD_eq_getElem?_getD, List.getElem?_append_right (by simp)]
    simp
    omega
  · rw [val_append, val_zeros, val_one, List.length_replicate, Nat.zero_add, Int.toNat_natCast, Nat.mul_comm]
theorem rd_one_low {c q i : Nat} (h : i < q) : rd (List.replicate q 0 ++ [(c : Int)]) (i : Int) = 0 := by
  rw [rd_nat, List.getD_eq_getElem?_getD, List.getElem?_append_left (by simp; exact h), List.getElem?_replicate, if_pos h]
  rfl
theorem rd_one_top {c q : Nat} : rd (List.replicate q 0 ++ [(c : Int)]) (q : Int) = (c : Int) := by
  rw [rd_nat, List.getD_eq_getElem?_getD, List.getElem?_append_right (by simp)]
  simp
end Go.Proofs.Ytdjefkdebobpmaa.NatG
