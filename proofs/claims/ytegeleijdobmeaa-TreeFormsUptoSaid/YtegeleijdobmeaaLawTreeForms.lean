/- The row of the law TreeForms in its second form: where what it reads is of bulk at most 1048576, the call answers true and leaves its arguments as they were. Conditions: that bound on the bulk. -/
import Derived.Test.YtegeleijdobmeaaRows
import Derived.Test.YtegeleijdobmeaaPAllx19
import Derived.Test.YtegeleijdobmeaaOpenB
import Derived.Test.YtegeleijdobmeaaPureTreeForms
import Derived.WalkKit
import Derived.ProofKit
import Derived.OpenShut
import Derived.ShutString
import Derived.ChangeOld
import Derived.Below
import Derived.JoinedCond
namespace Go.Proofs.Ytegeleijdobmeaa.treeForms
open Go.ChangeShapes Go.WideShapes Go.ChangeAt Go.RowKit
open Go.ChangeMaps (open_string shut_string)
set_option linter.unusedVariables false
theorem own : ownKnob Try.prog.godebug = none := by kernel_rfl
theorem laidOut : laidOutB Try.prog = true := by kernel_rfl
/-- What the bound gives: the first tree's nodes. -/
theorem short {H : Type} {d0 d1 : DataW H} (hk : Rows.uptoSmall H [d0, d1] = true) : Rows.uptoBulk d0 ≤ 1048576 := by
  have h : Rows.uptoBulkAll [d0, d1] ≤ 1048576 := of_decide_eq_true hk
  simp only [Rows.uptoBulkAll] at h
  omega
theorem contract (H : Type) (enc : TypeId × Value → H) (W : World) (base : Nat) (args : Array Value) (ds gs : List (DataW H)) (before : List MemPlace)
    (hval0 : ∀ (j : Nat) t v, Try.f11.params[j]? = some t → args[j]? = some v → Value.okWide Try.prog W .any base t v)
    (hW : DataW.Whole enc Try.prog Try.f11.params.toList Rows.treeFormsSpec.vars false W args.toList ds gs before) (hk : Rows.uptoSmall H (ds ++ gs) = true) :
    Calls Try.prog 11 args W fun e W' => ∃ v, e = .returned v ∧ Rows.treeFormsSpec.post enc Try.prog Try.f11 false true false false W args v W' := by
  have hval : ∀ (j : Nat) t v, Try.f11.params[j]? = some t → args[j]? = some v → Value.okWide Try.prog W .any base t v := hval0
  have hW' := hW
  obtain ⟨p, q, hA0, hV, rfl, hfz, hnd⟩ := hW
  have hA : DataW.TrodAll enc Try.prog W 0 (fun _ => true) true Try.f11.params.toList args.toList ds p := hA0
  rw [Try.params11] at hA hval
  obtain ⟨v0, vs0, d0, ds0, p0, q0, hargs, rfl, rfl, h0, r0⟩ := trodAll_cons hA
  obtain ⟨v1, vs1, d1, ds1, p1, q1, rfl, rfl, rfl, h1, r1⟩ := trodAll_cons r0
  obtain ⟨rfl, rfl, rfl⟩ := trodAll_nil r1
  obtain rfl : args = #[v0, v1] := by cases args; simp_all
  obtain ⟨rfl, rfl⟩ := trodVars_none hV
  have k0 := h0
  have lt0 : ∀ x ∈ p0, x.block < W.heap.size := by obtain ⟨m, hm⟩ := k0; exact DataW.trod_lt m _ _ _ hm
  obtain ⟨q0_, A0, c0, rfl, hle0, hC0, hz0⟩ := Open.open_bulk (hval 0 29 v0 rfl rfl) h0
  have k1 := h1
  have lt1 : ∀ x ∈ p1, x.block < W.heap.size := by obtain ⟨m, hm⟩ := k1; exact DataW.trod_lt m _ _ _ hm
  obtain ⟨q1_, A1, c1, rfl, hle1, hC1⟩ := Open.open_tree (hval 1 29 v1 rfl rfl) h1
  have hb := short hk
  obtain ⟨k, hk2⟩ := Pure.TreeForms q0_ q1_ (by have : Pure.siz q0_ ≤ Rows.uptoBulk d0 := hz0; omega)
  clear hA0 hval0
  refine (PAll.mullionlaw9_TreeForms.calls k q0_.f0 q0_.f1.f0 q0_.f1.f1 A0 c0 q0_.f2 q1_.f0 q1_.f1.f0 q1_.f1.f1 A1 c1 q1_.f2 true W hC0 hle0 hC1 hle1 hk2).mono fun e W' ⟨he, bel⟩ => ?_
  subst he
  exact ⟨_, rfl, _, _, _, [], _, [], hW', trodAll_mk1 (shut_bool Try.underlying4 _), (trodAll_cons_mk (Below.trod laidOut (by kernel_rfl) (of_decide_eq_true (by kernel_rfl)) k0 bel lt0) (trodAll_cons_mk (Below.trod laidOut (by kernel_rfl) (of_decide_eq_true (by kernel_rfl)) k1 bel lt1) trodAll_mk0)), rfl, bel.frame _, fun h => by cases h⟩
set_option maxRecDepth 100000 in
theorem lifted (os : Os) (started : os.Started) (H : Type) (enc : TypeId × Value → H) (F : Stop.Interp) :
    ReturnsInHanded {} Try.checked os 11 .any ((Rows.OpenSpec.upto Rows.treeFormsSpec).pre6 enc Try.prog Try.f11 Rows.treeFormsUptoRow.domain false) (((Rows.OpenSpec.upto Rows.treeFormsSpec).at F).post enc Try.prog Try.f11 false true false false) := by
  refine returnsInHanded_of_cond (C := Try.checked) (s := Rows.OpenSpec.upto Rows.treeFormsSpec) (k := Rows.uptoSmall) rfl own started (by kernel_rfl) Try.func11
    (OpenSpec.witness (enc := enc) (C := Try.checked) (s := Rows.OpenSpec.upto Rows.treeFormsSpec) (k := Rows.uptoSmall) rfl false ⟨#[], #[.agg #[.bool false, .int .i64 0, .string ⟨#[]⟩, .slice none 0 0], .agg #[.bool false, .int .i64 0, .string ⟨#[]⟩, .slice none 0 0]], []⟩ 8 (by kernel_rfl) (by kernel_rfl) (by kernel_rfl)
      (x := ([.agg [.lit (.bool false), .agg [.lit (.int .i64 0), .lit (.string [])], .nil], .agg [.lit (.bool false), .agg [.lit (.int .i64 0), .lit (.string [])], .nil]], [], [])) (by kernel_rfl) rfl (by kernel_rfl)) ?_
  intro W base args ds gs before hval hW _ hk _
  exact contract H enc W base args ds gs before hval hW hk
theorem over : Rows.treeFormsUptoRow.holds Try.pinned (Rows.OpenSpec.upto Rows.treeFormsSpec) :=
  OpenClaim.holds_of_cond 11 Try.f11 rfl rfl rfl rfl rfl rfl rfl ⟨rfl, rfl, rfl, rfl, rfl⟩ rfl rfl rfl rfl rfl (by kernel_rfl) Try.func11 (by kernel_rfl)
    (of_decide_eq_true (by kernel_rfl)) (by unfold Func.isWrapper; first | (rw [if_pos (by decide +kernel)]; kernel_rfl) | (rw [if_neg (by decide +kernel)]; exact ⟨rfl, rfl⟩))
    (fun os started H enc _ F => lifted os started H enc F)
theorem proved : Rows.TreeFormsUptoSaid := over
#print axioms proved
end Go.Proofs.Ytegeleijdobmeaa.treeForms
namespace Go.Proofs.Ytegeleijdobmeaa
/-- The row, under a short name, for the claim. -/
theorem treeForms_holds : Rows.TreeFormsUptoSaid := treeForms.proved
end Go.Proofs.Ytegeleijdobmeaa
