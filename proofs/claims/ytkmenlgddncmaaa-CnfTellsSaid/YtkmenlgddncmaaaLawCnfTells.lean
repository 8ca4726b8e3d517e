/- The row of the law CnfTells: whatever the input, the call answers true and leaves its arguments as they were. Conditions: none beyond the statement's own. -/
import Derived.Test.YtkmenlgddncmaaaRows
import Derived.Test.YtkmenlgddncmaaaPAllx11
import Derived.Test.YtkmenlgddncmaaaOpenQ
import Derived.Test.YtkmenlgddncmaaaPureCnfTells
import Derived.WalkKit
import Derived.ProofKit
import Derived.OpenShut
import Derived.ShutString
import Derived.ChangeOld
import Derived.Below
import Derived.SizedLaws
namespace Go.Proofs.Ytkmenlgddncmaaa.cnfTells
open Go.ChangeShapes Go.WideShapes Go.ChangeAt Go.RowKit
open Go.ChangeMaps (open_string shut_string)
set_option linter.unusedVariables false
theorem own : ownKnob Try.prog.godebug = none := by kernel_rfl
theorem laidOut : laidOutB Try.prog = true := by kernel_rfl
set_option maxRecDepth 100000 in
theorem lifted (os : Os) (started : os.Started) (H : Type) (enc : TypeId × Value → H) :
    ReturnsInHanded {} Try.checked os 3 .any (Rows.cnfTellsSpec.pre6 enc Try.prog Try.f3 Rows.cnfTellsRow.domain false) (Rows.cnfTellsSpec.post enc Try.prog Try.f3 false true false false) := by
  refine returnsInHanded_of_change_sized (C := Try.checked) own started (by kernel_rfl) Try.func3
    (ChangeSpec.witness6 (enc := enc) (C := Try.checked) false ⟨#[], #[.agg #[.int .i64 0, .int .i64 0, .slice none 0 0], .int .i64 0, .slice none 0 0, .slice none 0 0], []⟩ 8 (by kernel_rfl) (by kernel_rfl) (by kernel_rfl) (by kernel_rfl)) ?_
  intro W base args ds gs before hval0 hW hcnd hsz0 _
  have hval : ∀ (j : Nat) t v, Try.f3.params[j]? = some t → args[j]? = some v → Value.okWide Try.prog W .any base t v := hval0
  have hW' := hW
  obtain ⟨p, q, hA0, hV, rfl, hfz, hnd⟩ := hW
  have hA : DataW.TrodAll enc Try.prog W 0 (fun _ => true) true Try.f3.params.toList args.toList ds p := hA0
  rw [Try.params3] at hA hval
  obtain ⟨v0, vs0, d0, ds0, p0, q0, hargs, rfl, rfl, h0, r0⟩ := trodAll_cons hA
  obtain ⟨v1, vs1, d1, ds1, p1, q1, rfl, rfl, rfl, h1, r1⟩ := trodAll_cons r0
  obtain ⟨v2, vs2, d2, ds2, p2, q2, rfl, rfl, rfl, h2, r2⟩ := trodAll_cons r1
  obtain ⟨v3, vs3, d3, ds3, p3, q3, rfl, rfl, rfl, h3, r3⟩ := trodAll_cons r2
  obtain ⟨rfl, rfl, rfl⟩ := trodAll_nil r3
  obtain rfl : args = #[v0, v1, v2, v3] := by cases args; simp_all
  obtain ⟨rfl, rfl⟩ := trodVars_none hV
  have k0 := h0
  have lt0 : ∀ x ∈ p0, x.block < W.heap.size := by obtain ⟨m, hm⟩ := k0; exact DataW.trod_lt m _ _ _ hm
  obtain ⟨q0_, A0, c0, rfl, hle0, hC0⟩ := Open.open_prop (hval 0 24 v0 rfl rfl) h0
  obtain ⟨a1, rfl, rfl, rfl, w1⟩ := open_int Try.underlying3 (hval 1 3 v1 rfl rfl) h1
  have k2 := h2
  have lt2 : ∀ x ∈ p2, x.block < W.heap.size := by obtain ⟨m, hm⟩ := k2; exact DataW.trod_lt m _ _ _ hm
  obtain ⟨a2, len2, cap2, rfl⟩ := okWide_slice Try.underlying25 (hval 2 25 v2 rfl rfl)
  obtain ⟨xs2, rfl, hle2, hC2, hP2⟩ := Open.open_row Try.underlying25 (d := Go.Proofs.YtkmenlgddncmaaaW.PrintWords.Kd.bool) (φ := fun _ => True) (by kernel_rfl) (Open.tells_bool Try.underlying4) h2
  have k3 := h3
  have lt3 : ∀ x ∈ p3, x.block < W.heap.size := by obtain ⟨m, hm⟩ := k3; exact DataW.trod_lt m _ _ _ hm
  obtain ⟨a3, len3, cap3, rfl⟩ := okWide_slice Try.underlying26 (hval 3 26 v3 rfl rfl)
  obtain ⟨xs3, rfl, hle3, hC3, hP3⟩ := Open.open_row Try.underlying26 (d := (Go.Proofs.YtkmenlgddncmaaaW.PrintWords.Kd.slice 3 (Go.Proofs.YtkmenlgddncmaaaW.PrintWords.Kd.int .i64))) (φ := fun l => ∀ a ∈ l, (Lit.int .i64 a).wf = true) (by kernel_rfl) (Open.tells_slice Try.underlying40 (by kernel_rfl) (Open.tells_int Try.underlying3)) h3
  obtain ⟨k, hk⟩ := Pure.CnfTells q0_ a1 xs2 xs3 (fun c hc a ha => Open.i64_bounds (hP3 c hc a ha)) hC3.2.1
  clear hA0 hval0 hsz0
  refine (PAll.mullionlaw17_CnfTells.calls k q0_.f0 q0_.f1 A0 c0 q0_.f2 a1 a2 cap2 xs2 a3 cap3 xs3 true W hC0 hle0 hC2 hle2 hC3 hle3 hk).mono fun e W' ⟨he, bel⟩ => ?_
  subst he
  exact ⟨_, rfl, _, _, _, [], _, [], hW', trodAll_mk1 (shut_bool Try.underlying4 _), (trodAll_cons_mk (Below.trod laidOut (by kernel_rfl) (of_decide_eq_true (by kernel_rfl)) k0 bel lt0) (trodAll_cons_mk (shut_int Try.underlying3 w1) (trodAll_cons_mk (Below.trod laidOut (by kernel_rfl) (of_decide_eq_true (by kernel_rfl)) k2 bel lt2) (trodAll_cons_mk (Below.trod laidOut (by kernel_rfl) (of_decide_eq_true (by kernel_rfl)) k3 bel lt3) trodAll_mk0)))), rfl, bel.frame _, fun h => by cases h⟩
theorem over : Rows.cnfTellsRow.holds Try.pinned (OpenSpec.ofChange Rows.cnfTellsSpec) :=
  OpenClaim.holds_of_wide 3 Try.f3 rfl rfl rfl rfl rfl rfl rfl ⟨rfl, rfl, rfl, rfl, rfl⟩ rfl rfl rfl rfl rfl (by kernel_rfl) Try.func3 (by kernel_rfl)
    (of_decide_eq_true (by kernel_rfl)) (by unfold Func.isWrapper; first | (rw [if_pos (by decide +kernel)]; kernel_rfl) | (rw [if_neg (by decide +kernel)]; exact ⟨rfl, rfl⟩))
    (fun os started H enc _ => lifted os started H enc)
theorem proved : Rows.CnfTellsSaid := over
#print axioms proved
end Go.Proofs.Ytkmenlgddncmaaa.cnfTells
namespace Go.Proofs.Ytkmenlgddncmaaa
/-- The row, under a short name, for the claim. -/
theorem cnfTells_holds : Rows.CnfTellsSaid := cnfTells.proved
end Go.Proofs.Ytkmenlgddncmaaa
