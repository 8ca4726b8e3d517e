/- Of each byte alone what it is: the plain law, by trying all bytes. Conditions: none beyond the statement's own. -/
import Derived.Test.YtegeleijdobmeaaPAllx8
namespace Go.Proofs.Ytegeleijdobmeaa.Pure
open Go.RowKit Go.Proofs.Ytegeleijdobmeaa.PAll Go.Proofs.YtegeleijdobmeaaW.PrintWords Go.Proofs.YtegeleijdobmeaaW.PrintLast
theorem bytes_all : ∀ n : Nat, n < 256 → mullionlaw8_LexBytes.f 60 (n : Int) = some true := by decide +kernel
theorem LexBytes : mullionlaw8_LexBytes.Pure := by
  intro a0 hw
  have hb : 0 ≤ a0 ∧ a0 ≤ 255 := by
    simp [Lit.wf] at hw
    have e1 : IntKind.u8.min = 0 := by decide
    have e2 : IntKind.u8.max = 255 := by decide
    rw [e1, e2] at hw
    exact hw
  obtain ⟨i, rfl⟩ := Int.eq_ofNat_of_zero_le hb.1
  exact ⟨60, bytes_all i (by omega)⟩
end Go.Proofs.Ytegeleijdobmeaa.Pure
