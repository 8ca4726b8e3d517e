/- The row of the law CnfLiterals: whatever the input, the call answers true and leaves its arguments as they were. Conditions: none beyond the statement's own. -/
import Derived.Test.YtkmenlgddncmaaaRows
import Derived.Test.YtkmenlgddncmaaaPAllx12
import Derived.Test.YtkmenlgddncmaaaOpen
import Derived.Test.YtkmenlgddncmaaaPureCnfLiterals
import Derived.WalkKit
import Derived.ProofKit
import Derived.OpenShut
import Derived.ShutString
import Derived.ChangeOld
import Derived.Below
import Derived.SizedLaws
namespace Go.Proofs.Ytkmenlgddncmaaa.cnfLiterals
open Go.ChangeShapes Go.WideShapes Go.ChangeAt Go.RowKit
open Go.ChangeMaps (open_string shut_string)
set_option linter.unusedVariables false
theorem own : ownKnob Try.prog.godebug = none := by kernel_rfl
theorem laidOut : laidOutB Try.prog = true := by kernel_rfl
set_option maxRecDepth 100000 in
theorem lifted (os : Os) (started : os.Started) (H : Type) (enc : TypeId × Value → H) :
    ReturnsInHanded {} Try.checked os 7 .any (Rows.cnfLiteralsSpec.pre6 enc Try.prog Try.f7 Rows.cnfLiteralsRow.domain false) (Rows.cnfLiteralsSpec.post enc Try.prog Try.f7 false true false false) := by
  refine returnsInHanded_of_change_sized (C := Try.checked) own started (by kernel_rfl) Try.func7
    (ChangeSpec.witness6 (enc := enc) (C := Try.checked) false ⟨#[], #[.slice none 0 0, .int .i64 0], []⟩ 8 (by kernel_rfl) (by kernel_rfl) (by kernel_rfl) (by kernel_rfl)) ?_
  intro W base args ds gs before hval0 hW hcnd hsz0 _
  have hval : ∀ (j : Nat) t v, Try.f7.params[j]? = some t → args[j]? = some v → Value.okWide Try.prog W .any base t v := hval0
  have hW' := hW
  obtain ⟨p, q, hA0, hV, rfl, hfz, hnd⟩ := hW
  have hA : DataW.TrodAll enc Try.prog W 0 (fun _ => true) true Try.f7.params.toList args.toList ds p := hA0
  rw [Try.params7] at hA hval
  obtain ⟨v0, vs0, d0, ds0, p0, q0, hargs, rfl, rfl, h0, r0⟩ := trodAll_cons hA
  obtain ⟨v1, vs1, d1, ds1, p1, q1, rfl, rfl, rfl, h1, r1⟩ := trodAll_cons r0
  obtain ⟨rfl, rfl, rfl⟩ := trodAll_nil r1
  obtain rfl : args = #[v0, v1] := by cases args; simp_all
  obtain ⟨rfl, rfl⟩ := trodVars_none hV
  obtain ⟨a0, len0, cap0, rfl⟩ := okWide_slice Try.underlying25 (hval 0 25 v0 rfl rfl)
  have k0 := h0
  have lt0 : ∀ x ∈ p0, x.block < W.heap.size := by obtain ⟨m, hm⟩ := k0; exact DataW.trod_lt m _ _ _ hm
  obtain ⟨xs0, hlen0, hle0, hC0⟩ : ∃ xs : List Bool, xs.length = len0 ∧ xs.length ≤ cap0 ∧ Go.Proofs.YtkmenlgddncmaaaW.PrintWords.Kd.C Go.Proofs.YtkmenlgddncmaaaW.PrintWords.Kd.bool W a0 xs.length xs := by
    obtain ⟨fuel, hf⟩ := h0
    obtain ⟨A, c, xs, hcs, hl, _, hC, _⟩ := Open.slice_of Try.underlying25 (d := Go.Proofs.YtkmenlgddncmaaaW.PrintWords.Kd.bool) (φ := fun _ => True) (by kernel_rfl) (fun n _ => Open.tells_bool Try.underlying4 n) hf
    simp [Value.cells] at hcs
    obtain ⟨rfl, rfl, rfl⟩ := hcs
    exact ⟨xs, rfl, hl, hC⟩
  subst hlen0
  obtain ⟨a1, rfl, rfl, rfl, w1⟩ := open_int Try.underlying3 (hval 1 3 v1 rfl rfl) h1
  have hw1 : -9223372036854775808 ≤ a1 ∧ a1 ≤ 9223372036854775807 := by
    have h := w1
    simp [Lit.wf] at h
    have e1 : IntKind.i64.min = -9223372036854775808 := by decide
    have e2 : IntKind.i64.max = 9223372036854775807 := by decide
    rw [e1] at h
    omega
  obtain ⟨k, hk⟩ := Pure.CnfLiterals xs0 a1 hw1.1 hw1.2
  clear hA0 hval0 hsz0
  refine (PAll.mullionlaw17_CnfLiterals.calls k a0 cap0 xs0 a1 true W hC0 hle0 hk).mono fun e W' ⟨he, bel⟩ => ?_
  subst he
  exact ⟨_, rfl, _, _, _, [], _, [], hW', trodAll_mk1 (shut_bool Try.underlying4 _), (trodAll_cons_mk (Below.trod laidOut (by kernel_rfl) (of_decide_eq_true (by kernel_rfl)) k0 bel lt0) (trodAll_cons_mk (shut_int Try.underlying3 w1) trodAll_mk0)), rfl, bel.frame _, fun h => by cases h⟩
theorem over : Rows.cnfLiteralsRow.holds Try.pinned (OpenSpec.ofChange Rows.cnfLiteralsSpec) :=
  OpenClaim.holds_of_wide 7 Try.f7 rfl rfl rfl rfl rfl rfl rfl ⟨rfl, rfl, rfl, rfl, rfl⟩ rfl rfl rfl rfl rfl (by kernel_rfl) Try.func7 (by kernel_rfl)
    (of_decide_eq_true (by kernel_rfl)) (by unfold Func.isWrapper; first | (rw [if_pos (by decide +kernel)]; kernel_rfl) | (rw [if_neg (by decide +kernel)]; exact ⟨rfl, rfl⟩))
    (fun os started H enc _ => lifted os started H enc)
theorem proved : Rows.CnfLiteralsSaid := over
#print axioms proved
end Go.Proofs.Ytkmenlgddncmaaa.cnfLiterals
namespace Go.Proofs.Ytkmenlgddncmaaa
/-- The row, under a short name, for the claim. -/
theorem cnfLiterals_holds : Rows.CnfLiteralsSaid := cnfLiterals.proved
end Go.Proofs.Ytkmenlgddncmaaa
