/- What a reading of a proposition gives a walk: a tree that the memory holds. -/
import Derived.Test.YtkmenlgddncmaaaOpen
namespace Go.Proofs.Ytkmenlgddncmaaa.Open
open Go.RowKit Go.Proofs.YtkmenlgddncmaaaW.PrintWords Go.Proofs.YtkmenlgddncmaaaW.PrintLast Go.ChangeShapes Go.WideShapes
set_option linter.unusedVariables false
section
variable {H : Type} {enc : TypeId × Value → H} {w : World} {base : Nat} {spare : Nat → Bool} {held : Bool}
theorem cells3 : Try.prog.cellsOf 3 = 1 := by kernel_rfl
theorem cells22 : Try.prog.cellsOf 22 = 1 := by kernel_rfl
theorem cells24 : Try.prog.cellsOf 24 = 3 := by kernel_rfl
/-- A proposition, whatever its depth. -/
theorem tells_prop : Tells PAll.k24 (fun _ => True) enc Try.prog w base spare held 24 := by
  intro n
  induction n using Nat.strongRecOn with
  | _ n ih =>
  intro cs y h
  obtain ⟨xs, m, rfl, _, hlen, hxs, hf⟩ := DataW.trod_struct Try.underlying24 h
  have hl3 : cs.length = 3 := by rw [hlen]; exact cells24
  obtain ⟨c0, c1, c2, rfl⟩ : ∃ c0 c1 c2, cs = [c0, c1, c2] := by
    match cs, hl3 with
    | [a, b, c], _ => exact ⟨a, b, c, rfl⟩
  obtain ⟨x0, x1, x2, rfl⟩ : ∃ x0 x1 x2, xs = [x0, x1, x2] := by
    have hx3 : xs.length = 3 := hxs
    match xs, hx3 with
    | [a, b, c], _ => exact ⟨a, b, c, rfl⟩
  have g0 : DataW.trod enc Try.prog w base spare held m 3 [c0] = some x0 := by
    have h_ := hf 0 _ rfl
    simpa [cells3] using h_
  have g1 : DataW.trod enc Try.prog w base spare held m 3 [c1] = some x1 := by
    have h_ := hf 1 _ rfl
    simpa [cells3] using h_
  have g2 : DataW.trod enc Try.prog w base spare held m 22 [c2] = some x2 := by
    have h_ := hf 2 _ rfl
    simpa [cells22] using h_
  clear hf
  obtain ⟨f0, hf0, _⟩ := DataW.trod_int Try.underlying3 g0
  obtain ⟨f1, hf1, _⟩ := DataW.trod_int Try.underlying3 g1
  obtain ⟨A, c, kids, hk, hle, _, hC, _⟩ := slice_of Try.underlying22 (d := PAll.k24) (φ := fun _ => True) cells24 (fun n' he => ih n' (by omega)) g2
  injection hf0 with hf0
  injection hf1 with hf1
  injection hk with hk
  subst hf0
  subst hf1
  subst hk
  exact ⟨⟨f0, f1, kids⟩, PAll.k24_mk w ⟨f0, f1, kids⟩ hle hC, trivial⟩
/-- An argument that is a proposition. -/
theorem open_prop {v0 : Value} {y : DataW H × List MemPlace} (hv : Value.okWide Try.prog w .any base 24 v0) (h : ∃ n, DataW.trod enc Try.prog w 0 spare held n 24 v0.cells.toList = some y) :
    ∃ (q : PAll.S24) (A : Option Addr) (c : Nat), v0 = .agg #[.int .i64 q.f0, .int .i64 q.f1, .slice A q.f2.length c] ∧ q.f2.length ≤ c ∧ PAll.k24.C w A q.f2.length q.f2 := by
  obtain ⟨cs, rfl, _⟩ := okWide_struct Try.underlying24 hv
  obtain ⟨n, h⟩ := h
  obtain ⟨q, hK, _⟩ := tells_prop n _ _ h
  obtain ⟨A, c, e, hle, hC⟩ := PAll.k24_open hK
  refine ⟨q, A, c, ?_, hle, hC⟩
  have e2 : cs = #[.int .i64 q.f0, .int .i64 q.f1, .slice A q.f2.length c] := by
    have e3 : cs.toList = [.int .i64 q.f0, .int .i64 q.f1, .slice A q.f2.length c] := e
    rw [← Array.toArray_toList (xs := cs), e3]
  rw [e2]
theorem open_bools {a : Option Addr} {len cap : Nat} {y : DataW H × List MemPlace} (h : ∃ n, DataW.trod enc Try.prog w base spare held n 25 (Value.slice a len cap).cells.toList = some y) :
    ∃ xs : List Bool, xs.length = len ∧ xs.length ≤ cap ∧ Kd.C Kd.bool w a xs.length xs := by
  obtain ⟨fuel, hf⟩ := h
  obtain ⟨A, c, xs, hcs, hl, _, hC, _⟩ := slice_of Try.underlying25 (d := Kd.bool) (φ := fun _ => True) (by kernel_rfl) (fun n _ => tells_bool Try.underlying4 n) hf
  simp [Value.cells] at hcs
  obtain ⟨rfl, rfl, rfl⟩ := hcs
  exact ⟨xs, rfl, hl, hC⟩
end
end Go.Proofs.Ytkmenlgddncmaaa.Open
