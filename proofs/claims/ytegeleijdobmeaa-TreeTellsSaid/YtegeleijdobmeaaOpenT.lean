/- What a reading of words, of a tree gives a walk. -/
import Derived.Test.YtegeleijdobmeaaOpen
namespace Go.Proofs.Ytegeleijdobmeaa.Open
open Go.RowKit Go.Proofs.YtegeleijdobmeaaW.PrintWords Go.Proofs.YtegeleijdobmeaaW.PrintLast Go.ChangeShapes Go.WideShapes
set_option linter.unusedVariables false
section
variable {H : Type} {enc : TypeId × Value → H} {w : World} {base : Nat} {spare : Nat → Bool} {held : Bool}
theorem cells3 : Try.prog.cellsOf 3 = 1 := by kernel_rfl
theorem cells4 : Try.prog.cellsOf 4 = 1 := by kernel_rfl
theorem cells9 : Try.prog.cellsOf 9 = 1 := by kernel_rfl
theorem cells22 : Try.prog.cellsOf 22 = 1 := by kernel_rfl
theorem cells27 : Try.prog.cellsOf 27 = 2 := by kernel_rfl
theorem cells29 : Try.prog.cellsOf 29 = 4 := by kernel_rfl
/-- A word. -/
theorem tells_tok : Tells PAll.k27 (fun _ => True) enc Try.prog w base spare held 27 := by
  intro n cs y h
  obtain ⟨xs, m, rfl, _, hlen, hxs, hf⟩ := DataW.trod_struct Try.underlying27 h
  have hl2 : cs.length = 2 := by rw [hlen]; exact cells27
  obtain ⟨c0, c1, rfl⟩ : ∃ c0 c1, cs = [c0, c1] := by
    match cs, hl2 with
    | [a, b], _ => exact ⟨a, b, rfl⟩
  obtain ⟨x0, x1, rfl⟩ : ∃ x0 x1, xs = [x0, x1] := by
    have hx2 : xs.length = 2 := hxs
    match xs, hx2 with
    | [a, b], _ => exact ⟨a, b, rfl⟩
  have g0 : DataW.trod enc Try.prog w base spare held m 3 [c0] = some x0 := by
    have h_ := hf 0 _ rfl
    simpa [cells3] using h_
  have g1 : DataW.trod enc Try.prog w base spare held m 9 [c1] = some x1 := by
    have h_ := hf 1 _ rfl
    simpa [cells9] using h_
  clear hf
  obtain ⟨f0, hf0, _⟩ := DataW.trod_int Try.underlying3 g0
  obtain ⟨f1, hf1, _⟩ := DataW.trod_string Try.underlying9 g1
  injection hf0 with hf0
  injection hf1 with hf1
  subst hf0
  subst hf1
  exact ⟨⟨f0, f1⟩, PAll.k27_mk w ⟨f0, f1⟩, trivial⟩
/-- A tree, whatever its depth. -/
theorem tells_tree : Tells PAll.k29 (fun _ => True) enc Try.prog w base spare held 29 := by
  intro n
  induction n using Nat.strongRecOn with
  | _ n ih =>
  intro cs y h
  obtain ⟨xs, m, rfl, _, hlen, hxs, hf⟩ := DataW.trod_struct Try.underlying29 h
  have hl4 : cs.length = 4 := by rw [hlen]; exact cells29
  obtain ⟨c0, c1, c2, c3, rfl⟩ : ∃ c0 c1 c2 c3, cs = [c0, c1, c2, c3] := by
    match cs, hl4 with
    | [a, b, c, d], _ => exact ⟨a, b, c, d, rfl⟩
  obtain ⟨x0, x1, x2, rfl⟩ : ∃ x0 x1 x2, xs = [x0, x1, x2] := by
    have hx3 : xs.length = 3 := hxs
    match xs, hx3 with
    | [a, b, c], _ => exact ⟨a, b, c, rfl⟩
  have g0 : DataW.trod enc Try.prog w base spare held m 4 [c0] = some x0 := by
    have h_ := hf 0 _ rfl
    simpa [cells4] using h_
  have g1 : DataW.trod enc Try.prog w base spare held m 27 [c1, c2] = some x1 := by
    have h_ := hf 1 _ rfl
    simpa [cells27] using h_
  have g2 : DataW.trod enc Try.prog w base spare held m 22 [c3] = some x2 := by
    have h_ := hf 2 _ rfl
    simpa [cells22] using h_
  clear hf
  obtain ⟨f0, hf0, _⟩ := DataW.trod_bool Try.underlying4 g0
  obtain ⟨f1, hf1, _⟩ := tells_tok m _ _ g1
  obtain ⟨A, c, kids, hk, hle, _, hC, _⟩ := slice_of Try.underlying22 (d := PAll.k29) (φ := fun _ => True) cells29 (fun n' he => ih n' (by omega)) g2
  have e1 := PAll.k27_open hf1
  injection hf0 with hf0
  injection hk with hk
  injection e1 with e1 e2
  injection e2 with e2
  subst hf0
  subst hk
  subst e1
  subst e2
  exact ⟨⟨f0, f1, kids⟩, PAll.k29_mk w ⟨f0, f1, kids⟩ hle hC, trivial⟩
/-- An argument that is a tree. -/
theorem open_tree {v0 : Value} {y : DataW H × List MemPlace} (hv : Value.okWide Try.prog w .any base 29 v0) (h : ∃ n, DataW.trod enc Try.prog w 0 spare held n 29 v0.cells.toList = some y) :
    ∃ (q : PAll.S29) (A : Option Addr) (c : Nat), v0 = .agg #[.bool q.f0, .int .i64 q.f1.f0, .string q.f1.f1, .slice A q.f2.length c] ∧ q.f2.length ≤ c ∧ PAll.k29.C w A q.f2.length q.f2 := by
  obtain ⟨cs, rfl, _⟩ := okWide_struct Try.underlying29 hv
  obtain ⟨n, h⟩ := h
  obtain ⟨q, hK, _⟩ := tells_tree n _ _ h
  obtain ⟨A, c, e, hle, hC⟩ := PAll.k29_open hK
  refine ⟨q, A, c, ?_, hle, hC⟩
  have e2 : cs = #[.bool q.f0, .int .i64 q.f1.f0, .string q.f1.f1, .slice A q.f2.length c] := by
    have e3 : cs.toList = [.bool q.f0, .int .i64 q.f1.f0, .string q.f1.f1, .slice A q.f2.length c] := e
    rw [← Array.toArray_toList (xs := cs), e3]
  rw [e2]
theorem open_row {P : Program} {α : Type} {d : Kd α} {φ : α → Prop} {t e : TypeId} {a : Option Addr} {len cap : Nat} {y : DataW H × List MemPlace} (ht : P.underlying t = some (.slice e)) (hc : P.cellsOf e = d.sz) (hd : Tells d φ enc P w base spare held e)
    (h : ∃ n, DataW.trod enc P w base spare held n t (Value.slice a len cap).cells.toList = some y) : ∃ xs : List α, xs.length = len ∧ xs.length ≤ cap ∧ cap ≤ 9223372036854775807 ∧ d.C w a xs.length xs ∧ ∀ x ∈ xs, φ x := by
  obtain ⟨fuel, hf⟩ := h
  obtain ⟨A, c, xs, hcs, hl, hm, hC, hp⟩ := slice_of ht hc (fun n _ => hd n) hf
  simp [Value.cells] at hcs
  obtain ⟨rfl, rfl, rfl⟩ := hcs
  exact ⟨xs, rfl, hl, hm, hC, hp⟩
theorem u8_bounds {n : Int} (h : (Lit.int .u8 n).wf = true) : 0 ≤ n ∧ n ≤ 255 := by
  simp [Lit.wf] at h
  have e1 : IntKind.u8.min = 0 := by decide
  have e2 : IntKind.u8.max = 255 := by decide
  rw [e1, e2] at h
  exact h
theorem u16_bounds {n : Int} (h : (Lit.int .u16 n).wf = true) : 0 ≤ n ∧ n ≤ 65535 := by
  simp [Lit.wf] at h
  have e1 : IntKind.u16.min = 0 := by decide
  have e2 : IntKind.u16.max = 65535 := by decide
  rw [e1, e2] at h
  exact h
end
end Go.Proofs.Ytegeleijdobmeaa.Open
