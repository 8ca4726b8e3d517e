/- Not of not of not ..: as many clauses and variables as by hand, the values alternate, the clauses hold just where they should; by trying all fifty depths. Conditions: none beyond the statement's own. -/
import Derived.Test.YtkmenlgddncmaaaPAllx12
namespace Go.Proofs.Ytkmenlgddncmaaa.Pure
open Go.RowKit Go.Proofs.Ytkmenlgddncmaaa.PAll Go.Proofs.YtkmenlgddncmaaaW.PrintWords Go.Proofs.YtkmenlgddncmaaaW.PrintLast

theorem known_200 : mullionlaw17_known.f 200 = some true := by decide +kernel
theorem deep_all : ∀ m, m < 50 → ∀ b : Bool, mullionlaw17_CnfDeep.l0 200 b ((m : Nat) : Int) 0 3 0 ([] : List S24) = some true := by decide +kernel
theorem CnfDeep : mullionlaw17_CnfDeep.Pure := by
  intro a0 a1 hw
  have hb : 0 ≤ a0 ∧ a0 < 256 := by
    simp [Lit.wf] at hw
    have e1 : IntKind.u8.min = 0 := by decide
    have e2 : IntKind.u8.max = 255 := by decide
    rw [e1, e2] at hw
    omega
  refine ⟨200, ?_⟩
  unfold mullionlaw17_CnfDeep.f
  rw [known_200]
  simp only [Option.bind_some, if_true]
  have hm : wrap64 (Int.tmod a0 50) = ((a0.toNat % 50 : Nat) : Int) := by
    obtain ⟨i, rfl⟩ := Int.eq_ofNat_of_zero_le hb.1
    rw [show Int.tmod ((i : Nat) : Int) 50 = ((i % 50 : Nat) : Int) from rfl]
    unfold wrap64
    omega
  rw [hm]
  exact deep_all _ (Nat.mod_lt _ (by decide)) a1
end Go.Proofs.Ytkmenlgddncmaaa.Pure
