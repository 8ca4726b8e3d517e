/- What a reading of an argument gives a walk: rows of any kind. -/
import Derived.Test.YtkmenlgddncmaaaOpenP
namespace Go.Proofs.Ytkmenlgddncmaaa.Open
open Go.RowKit Go.Proofs.YtkmenlgddncmaaaW.PrintWords Go.Proofs.YtkmenlgddncmaaaW.PrintLast Go.ChangeShapes Go.WideShapes
set_option linter.unusedVariables false
section
variable {H : Type} {enc : TypeId × Value → H} {P : Program} {w : World} {base : Nat} {spare : Nat → Bool} {held : Bool}
theorem open_row {α : Type} {d : Kd α} {φ : α → Prop} {t e : TypeId} {a : Option Addr} {len cap : Nat} {y : DataW H × List MemPlace} (ht : P.underlying t = some (.slice e)) (hc : P.cellsOf e = d.sz) (hd : Tells d φ enc P w base spare held e)
    (h : ∃ n, DataW.trod enc P w base spare held n t (Value.slice a len cap).cells.toList = some y) : ∃ xs : List α, xs.length = len ∧ xs.length ≤ cap ∧ d.C w a xs.length xs ∧ ∀ x ∈ xs, φ x := by
  obtain ⟨fuel, hf⟩ := h
  obtain ⟨A, c, xs, hcs, hl, _, hC, hp⟩ := slice_of ht hc (fun n _ => hd n) hf
  simp [Value.cells] at hcs
  obtain ⟨rfl, rfl, rfl⟩ := hcs
  exact ⟨xs, rfl, hl, hC, hp⟩
theorem u8_bounds {n : Int} (h : (Lit.int .u8 n).wf = true) : 0 ≤ n ∧ n ≤ 255 := by
  simp [Lit.wf] at h
  have e1 : IntKind.u8.min = 0 := by decide
  have e2 : IntKind.u8.max = 255 := by decide
  rw [e1, e2] at h
  exact h
theorem i64_bounds {n : Int} (h : (Lit.int .i64 n).wf = true) : -9223372036854775808 ≤ n ∧ n ≤ 9223372036854775807 := by
  simp [Lit.wf] at h
  have e1 : IntKind.i64.min = -9223372036854775808 := by decide
  have e2 : IntKind.i64.max = 9223372036854775807 := by decide
  rw [e1] at h
  omega
end
end Go.Proofs.Ytkmenlgddncmaaa.Open
