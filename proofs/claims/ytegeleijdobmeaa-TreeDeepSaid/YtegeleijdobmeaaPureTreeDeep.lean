/- So many lists within one another, and one more; so many words in a list, and more: by trying the twelve cases. Conditions: none beyond the statement's own. -/
import Derived.Test.YtegeleijdobmeaaPAllx10
namespace Go.Proofs.Ytegeleijdobmeaa.Pure
open Go.RowKit Go.Proofs.Ytegeleijdobmeaa.PAll Go.Proofs.YtegeleijdobmeaaW.PrintWords Go.Proofs.YtegeleijdobmeaaW.PrintLast

theorem known_200 : mullionlaw9_known.f 200 = some true := by decide +kernel
theorem deep_all : ∀ i, i < 3 → ∀ j, j < 4 → mullionlaw9_TreeDeep.l0 1000 ((j : Nat) : Int) (59 + ((i : Nat) : Int)) ([] : List S27) 0 = some true := by decide +kernel
theorem deep_l1 (x y : Int) (h : Int.tmod x 4 = Int.tmod y 4) : ∀ k x5 x6 x8, mullionlaw9_TreeDeep.l1 k x x5 x6 x8 = mullionlaw9_TreeDeep.l1 k y x5 x6 x8
  | 0, _, _, _ => by simp only [mullionlaw9_TreeDeep.l1]
  | k + 1, x5, x6, x8 => by simp only [mullionlaw9_TreeDeep.l1, deep_l1 x y h k, h]
theorem deep_l0 (x y : Int) (h : Int.tmod x 4 = Int.tmod y 4) : ∀ k x5 x6 x7, mullionlaw9_TreeDeep.l0 k x x5 x6 x7 = mullionlaw9_TreeDeep.l0 k y x5 x6 x7
  | 0, _, _, _ => by simp only [mullionlaw9_TreeDeep.l0]
  | k + 1, x5, x6, x8 => by simp only [mullionlaw9_TreeDeep.l0, deep_l0 x y h k, deep_l1 x y h k]
theorem TreeDeep : mullionlaw9_TreeDeep.Pure := by
  intro a0 a1 hw hw1
  have hb : 0 ≤ a0 ∧ a0 < 256 := by
    simp [Lit.wf] at hw
    have e1 : IntKind.u8.min = 0 := by decide
    have e2 : IntKind.u8.max = 255 := by decide
    rw [e1, e2] at hw
    omega
  have hb1 : 0 ≤ a1 := by
    simp [Lit.wf] at hw1
    have e1 : IntKind.u16.min = 0 := by decide
    rw [e1] at hw1
    omega
  refine ⟨1000, ?_⟩
  unfold mullionlaw9_TreeDeep.f
  rw [at_rounds mullionlaw9_known.mono (show 200 ≤ 1000 by decide) known_200]
  simp only [Option.bind_some, if_true]
  have hm : wrap64 (59 + wrap64 (Int.tmod a0 3)) = 59 + ((a0.toNat % 3 : Nat) : Int) := by
    obtain ⟨i, rfl⟩ := Int.eq_ofNat_of_zero_le hb.1
    rw [show Int.tmod ((i : Nat) : Int) 3 = ((i % 3 : Nat) : Int) from rfl]
    unfold wrap64
    omega
  have h4 : Int.tmod a1 4 = Int.tmod ((a1.toNat % 4 : Nat) : Int) 4 := by
    obtain ⟨i, rfl⟩ := Int.eq_ofNat_of_zero_le hb1
    show ((i % 4 : Nat) : Int) = ((i % 4 % 4 : Nat) : Int)
    rw [Nat.mod_mod]
  rw [hm, deep_l0 _ _ h4]
  exact deep_all _ (Nat.mod_lt _ (by decide)) _ (Nat.mod_lt _ (by decide))
end Go.Proofs.Ytegeleijdobmeaa.Pure
