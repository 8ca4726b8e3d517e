/- As many variables as atoms and other nodes, as many clauses as each of them has, and one: the plain law, by trying all. Conditions: the two numbers are bytes. -/
import Derived.Test.YtkmenlgddncmaaaCounts
namespace Go.Proofs.Ytkmenlgddncmaaa.Pure
open Go.RowKit Go.Proofs.Ytkmenlgddncmaaa.PAll Go.Proofs.YtkmenlgddncmaaaW.PrintWords Go.Proofs.YtkmenlgddncmaaaW.PrintLast
theorem counts_known : mullionlaw17_known.f 60 = some true := by decide +kernel
theorem counts_all : ∀ m : Nat, m < 12 → ∀ q : Nat, q < 2 → mullionlaw17_CnfCounts.l0 60 (q : Int) (m : Int) ([] : List S24) 0 = some true := by decide +kernel
theorem cntB_l0 (x y : Int) (h : Int.tmod x 2 = Int.tmod y 2) (k : Nat) : ∀ a b c d e f g i j l, cntB.l0 k x a b c d e f g i j l = cntB.l0 k y a b c d e f g i j l := by
  induction k with
  | zero => intro a b c d e f g i j l; rfl
  | succ k ih =>
    intro a b c d e f g i j l
    simp only [cntB.l0, h, ih]
theorem cntB_f (x y : Int) (h : Int.tmod x 2 = Int.tmod y 2) (k : Nat) (a0 : Int) (l : List S24) (a3 : Int) : cntB.f k a0 x l a3 = cntB.f k a0 y l a3 := by
  unfold cntB.f
  simp only [h, cntB_l0 x y h]
theorem counts_l0 (x y : Int) (h : Int.tmod x 2 = Int.tmod y 2) (k : Nat) : ∀ a l i, mullionlaw17_CnfCounts.l0 k x a l i = mullionlaw17_CnfCounts.l0 k y a l i := by
  induction k with
  | zero => intro a l i; rfl
  | succ k ih =>
    intro a l i
    simp only [mullionlaw17_CnfCounts.l0, ih, cntB_f x y h]
theorem CnfCounts (a0 a1 : Int) (h0 : 0 ≤ a0 ∧ a0 ≤ 255) (h1 : 0 ≤ a1 ∧ a1 ≤ 255) : ∃ k, mullionlaw17_CnfCounts.f k a0 a1 = some true := by
  obtain ⟨i, rfl⟩ := Int.eq_ofNat_of_zero_le h0.1
  obtain ⟨j, rfl⟩ := Int.eq_ofNat_of_zero_le h1.1
  have e1 : wrap64 (Int.tmod ((i : Nat) : Int) 12) = ((i % 12 : Nat) : Int) := by
    rw [show Int.tmod ((i : Nat) : Int) 12 = ((i % 12 : Nat) : Int) from rfl]
    unfold wrap64
    omega
  have e2 : Int.tmod ((j : Nat) : Int) 2 = Int.tmod ((j % 2 : Nat) : Int) 2 := by
    rw [show Int.tmod ((j : Nat) : Int) 2 = ((j % 2 : Nat) : Int) from rfl, show Int.tmod ((j % 2 : Nat) : Int) 2 = ((j % 2 % 2 : Nat) : Int) from rfl, Nat.mod_mod]
  refine ⟨60, ?_⟩
  unfold mullionlaw17_CnfCounts.f
  rw [counts_known, Option.bind_some, if_pos rfl, e1, counts_l0 _ _ e2]
  exact counts_all _ (Nat.mod_lt _ (by decide)) _ (Nat.mod_lt _ (by decide))
end Go.Proofs.Ytkmenlgddncmaaa.Pure
