/-
  NARROWER THAN 'FOR EVERY INPUT', by the rows' own cells (each row's printed sentence says how): CnfTells: loops · CnfTrue: loops · CnfOnly: loops.
  DERIVED. THE GIVEN ROWS OF THIS SEAT. 6 by the template 'for every input the law returns true; each argument reads behind the call as it read before'; 0 by the template 'total and deterministic' (their statements: YtkmenlgddncmaaaTotals.lean).
  GIVEN WITH THE SEED: the statements are not yours to turn. If you find one false, say at which input.
  Laid BY PROGRAM, IN A SANDBOX (cutbox-rows.mjs): the forced cells as the released guide's own fill.sh prints them over the translation 4b536ae505961c62… (all of the seat's roots in one cut). By AI agents, Wed Nov 11 2026. No macro, syntax, notation, axiom, sorry.
-/
import Derived.Test.YtkmenlgddncmaaaChecked
import GoSem.Claim
import GoSem.ClaimJoined
import GoSem.ClaimMapViews
import Derived.JoinedTies
import Derived.KernelRfl
namespace Go.Proofs.Ytkmenlgddncmaaa
/- THE CELL 'sum', in the pinned program and in every row, IS THE sha256 OF THE DUMP (.gsa) THAT YtkmenlgddncmaaaProg.lean LOADS. Nothing in Lean hashes anything: it is a label: what it is worth is what the hold of that sum in a sandbox is worth. -/
noncomputable def Try.pinned : Pinned := { name := "ytkmenlgddncmaaa", sum := "4b536ae505961c620351dd8e373510fdddc57582c49d70051177f9ba378bcf64", checked := Try.checked }
namespace Rows
def none {H : Type} : Left H := { results := [], args := [] }

/-- 'mullionlaw17.CnfTells': WHATEVER THE INPUT: true; the input reads as it did. -/
def cnfTellsSpec : ChangeSpec := { name := "cnfTells", fn := fun _ => fun
  | [d1, d2, d3, d4] => { results := [.lit (.bool true)], args := [d1, d2, d3, d4] }
  | _ => none }
def cnfTellsRow : OpenClaim := { program := "ytkmenlgddncmaaa", sum := "4b536ae505961c620351dd8e373510fdddc57582c49d70051177f9ba378bcf64", func := "mullion/mullionlaw17.CnfTells", spec := "cnfTells", unfollowed := true, recurses := true, loops := true, apart := false }
def CnfTellsSaid : Prop := cnfTellsRow.holds Try.pinned (OpenSpec.ofChange cnfTellsSpec)

/-- ITS FALSE NEIGHBOUR: 'it returns false'. Refute it at one input. -/
def cnfTellsWrong : ChangeSpec := { name := "cnfTells", fn := fun _ => fun
  | [d1, d2, d3, d4] => { results := [.lit (.bool false)], args := [d1, d2, d3, d4] }
  | _ => none }
def CnfTellsWrongFalsely : Prop := cnfTellsRow.holds Try.pinned (OpenSpec.ofChange cnfTellsWrong)

/-- 'mullionlaw17.CnfTrue': WHATEVER THE INPUT: true; the input reads as it did. -/
def cnfTrueSpec : ChangeSpec := { name := "cnfTrue", fn := fun _ => fun
  | [d1, d2] => { results := [.lit (.bool true)], args := [d1, d2] }
  | _ => none }
def cnfTrueRow : OpenClaim := { program := "ytkmenlgddncmaaa", sum := "4b536ae505961c620351dd8e373510fdddc57582c49d70051177f9ba378bcf64", func := "mullion/mullionlaw17.CnfTrue", spec := "cnfTrue", unfollowed := true, recurses := true, loops := true, apart := false }
def CnfTrueSaid : Prop := cnfTrueRow.holds Try.pinned (OpenSpec.ofChange cnfTrueSpec)

/-- ITS FALSE NEIGHBOUR: 'it returns false'. Refute it at one input. -/
def cnfTrueWrong : ChangeSpec := { name := "cnfTrue", fn := fun _ => fun
  | [d1, d2] => { results := [.lit (.bool false)], args := [d1, d2] }
  | _ => none }
def CnfTrueWrongFalsely : Prop := cnfTrueRow.holds Try.pinned (OpenSpec.ofChange cnfTrueWrong)

/-- 'mullionlaw17.CnfOnly': WHATEVER THE INPUT: true; the input reads as it did. -/
def cnfOnlySpec : ChangeSpec := { name := "cnfOnly", fn := fun _ => fun
  | [d1, d2, d3, d4] => { results := [.lit (.bool true)], args := [d1, d2, d3, d4] }
  | _ => none }
def cnfOnlyRow : OpenClaim := { program := "ytkmenlgddncmaaa", sum := "4b536ae505961c620351dd8e373510fdddc57582c49d70051177f9ba378bcf64", func := "mullion/mullionlaw17.CnfOnly", spec := "cnfOnly", unfollowed := true, recurses := true, loops := true, apart := false }
def CnfOnlySaid : Prop := cnfOnlyRow.holds Try.pinned (OpenSpec.ofChange cnfOnlySpec)

/-- ITS FALSE NEIGHBOUR: 'it returns false'. Refute it at one input. -/
def cnfOnlyWrong : ChangeSpec := { name := "cnfOnly", fn := fun _ => fun
  | [d1, d2, d3, d4] => { results := [.lit (.bool false)], args := [d1, d2, d3, d4] }
  | _ => none }
def CnfOnlyWrongFalsely : Prop := cnfOnlyRow.holds Try.pinned (OpenSpec.ofChange cnfOnlyWrong)

/-- 'mullionlaw17.CnfCounts': WHATEVER THE INPUT: true; the input reads as it did. -/
def cnfCountsSpec : ChangeSpec := { name := "cnfCounts", fn := fun _ => fun
  | [d1, d2] => { results := [.lit (.bool true)], args := [d1, d2] }
  | _ => none }
def cnfCountsRow : OpenClaim := { program := "ytkmenlgddncmaaa", sum := "4b536ae505961c620351dd8e373510fdddc57582c49d70051177f9ba378bcf64", func := "mullion/mullionlaw17.CnfCounts", spec := "cnfCounts", unfollowed := true, recurses := true, apart := false }
def CnfCountsSaid : Prop := cnfCountsRow.holds Try.pinned (OpenSpec.ofChange cnfCountsSpec)

/-- ITS FALSE NEIGHBOUR: 'it returns false'. Refute it at one input. -/
def cnfCountsWrong : ChangeSpec := { name := "cnfCounts", fn := fun _ => fun
  | [d1, d2] => { results := [.lit (.bool false)], args := [d1, d2] }
  | _ => none }
def CnfCountsWrongFalsely : Prop := cnfCountsRow.holds Try.pinned (OpenSpec.ofChange cnfCountsWrong)

/-- 'mullionlaw17.CnfLiterals': WHATEVER THE INPUT: true; the input reads as it did. -/
def cnfLiteralsSpec : ChangeSpec := { name := "cnfLiterals", fn := fun _ => fun
  | [d1, d2] => { results := [.lit (.bool true)], args := [d1, d2] }
  | _ => none }
def cnfLiteralsRow : OpenClaim := { program := "ytkmenlgddncmaaa", sum := "4b536ae505961c620351dd8e373510fdddc57582c49d70051177f9ba378bcf64", func := "mullion/mullionlaw17.CnfLiterals", spec := "cnfLiterals", unfollowed := true, recurses := true, apart := false }
def CnfLiteralsSaid : Prop := cnfLiteralsRow.holds Try.pinned (OpenSpec.ofChange cnfLiteralsSpec)

/-- ITS FALSE NEIGHBOUR: 'it returns false'. Refute it at one input. -/
def cnfLiteralsWrong : ChangeSpec := { name := "cnfLiterals", fn := fun _ => fun
  | [d1, d2] => { results := [.lit (.bool false)], args := [d1, d2] }
  | _ => none }
def CnfLiteralsWrongFalsely : Prop := cnfLiteralsRow.holds Try.pinned (OpenSpec.ofChange cnfLiteralsWrong)

/-- 'mullionlaw17.CnfDeep': WHATEVER THE INPUT: true; the input reads as it did. -/
def cnfDeepSpec : ChangeSpec := { name := "cnfDeep", fn := fun _ => fun
  | [d1, d2] => { results := [.lit (.bool true)], args := [d1, d2] }
  | _ => none }
def cnfDeepRow : OpenClaim := { program := "ytkmenlgddncmaaa", sum := "4b536ae505961c620351dd8e373510fdddc57582c49d70051177f9ba378bcf64", func := "mullion/mullionlaw17.CnfDeep", spec := "cnfDeep", unfollowed := true, recurses := true, apart := false }
def CnfDeepSaid : Prop := cnfDeepRow.holds Try.pinned (OpenSpec.ofChange cnfDeepSpec)

/-- ITS FALSE NEIGHBOUR: 'it returns false'. Refute it at one input. -/
def cnfDeepWrong : ChangeSpec := { name := "cnfDeep", fn := fun _ => fun
  | [d1, d2] => { results := [.lit (.bool false)], args := [d1, d2] }
  | _ => none }
def CnfDeepWrongFalsely : Prop := cnfDeepRow.holds Try.pinned (OpenSpec.ofChange cnfDeepWrong)

/- THE SECOND FORM. 'bulk': how many values and letters a reading holds, each counted each time it is reached (what is shared counts as often as it is met; a slice's spare places count too). A statement '..UptoSaid' is the law's where the arguments, and the package variables that the reading takes, are together of bulk at most 1048576: NARROWER than '..Said'. Prove '..Said' where nothing that the law and all that it calls make is longer than what came in: it says more and counts as full. Else prove '..UptoSaid'. A law counts once. -/
mutual
def uptoBulk {H : Type} : DataW H → Nat
  | .lit (.string bytes) => bytes.length + 1
  | .lit _ => 1
  | .nil => 1
  | .ptr d => uptoBulk d + 1
  | .slice elems spare => uptoBulkAll elems + uptoBulkAll spare + 1
  | .agg parts => uptoBulkAll parts + 1
  | .iface _ d => uptoBulk d + 1
  | .map entries => uptoBulkEntries entries + 1
  | .held _ => 1
def uptoBulkAll {H : Type} : List (DataW H) → Nat
  | [] => 0
  | d :: r => uptoBulk d + uptoBulkAll r
def uptoBulkEntries {H : Type} : List (Lit × DataW H) → Nat
  | [] => 0
  | x :: r => uptoBulkEntry x + uptoBulkEntries r
def uptoBulkEntry {H : Type} : Lit × DataW H → Nat
  | (.string bytes, d) => bytes.length + uptoBulk d + 1
  | (_, d) => uptoBulk d + 1
 end
def uptoSmall : (H : Type) → List (DataW H) → Bool := fun _ ds => decide (uptoBulkAll ds ≤ 1048576)
def OpenSpec.upto (s : _root_.Go.ChangeSpec) : _root_.Go.OpenSpec := { _root_.Go.OpenSpec.ofChange s with cond := some uptoSmall }

/-- 'mullionlaw17.CnfTells', WHERE WHAT IT READS IS OF BULK AT MOST 1048576: true; the input reads as it did. -/
def cnfTellsUptoRow : OpenClaim := { program := "ytkmenlgddncmaaa", sum := "4b536ae505961c620351dd8e373510fdddc57582c49d70051177f9ba378bcf64", func := "mullion/mullionlaw17.CnfTells", spec := "cnfTells", unfollowed := true, recurses := true, loops := true, apart := false, narrowed := true }
def CnfTellsUptoSaid : Prop := cnfTellsUptoRow.holds Try.pinned (OpenSpec.upto cnfTellsSpec)

/-- 'mullionlaw17.CnfTrue', WHERE WHAT IT READS IS OF BULK AT MOST 1048576: true; the input reads as it did. -/
def cnfTrueUptoRow : OpenClaim := { program := "ytkmenlgddncmaaa", sum := "4b536ae505961c620351dd8e373510fdddc57582c49d70051177f9ba378bcf64", func := "mullion/mullionlaw17.CnfTrue", spec := "cnfTrue", unfollowed := true, recurses := true, loops := true, apart := false, narrowed := true }
def CnfTrueUptoSaid : Prop := cnfTrueUptoRow.holds Try.pinned (OpenSpec.upto cnfTrueSpec)

/-- 'mullionlaw17.CnfOnly', WHERE WHAT IT READS IS OF BULK AT MOST 1048576: true; the input reads as it did. -/
def cnfOnlyUptoRow : OpenClaim := { program := "ytkmenlgddncmaaa", sum := "4b536ae505961c620351dd8e373510fdddc57582c49d70051177f9ba378bcf64", func := "mullion/mullionlaw17.CnfOnly", spec := "cnfOnly", unfollowed := true, recurses := true, loops := true, apart := false, narrowed := true }
def CnfOnlyUptoSaid : Prop := cnfOnlyUptoRow.holds Try.pinned (OpenSpec.upto cnfOnlySpec)

/-- 'mullionlaw17.CnfCounts', WHERE WHAT IT READS IS OF BULK AT MOST 1048576: true; the input reads as it did. -/
def cnfCountsUptoRow : OpenClaim := { program := "ytkmenlgddncmaaa", sum := "4b536ae505961c620351dd8e373510fdddc57582c49d70051177f9ba378bcf64", func := "mullion/mullionlaw17.CnfCounts", spec := "cnfCounts", unfollowed := true, recurses := true, apart := false, narrowed := true }
def CnfCountsUptoSaid : Prop := cnfCountsUptoRow.holds Try.pinned (OpenSpec.upto cnfCountsSpec)

/-- 'mullionlaw17.CnfLiterals', WHERE WHAT IT READS IS OF BULK AT MOST 1048576: true; the input reads as it did. -/
def cnfLiteralsUptoRow : OpenClaim := { program := "ytkmenlgddncmaaa", sum := "4b536ae505961c620351dd8e373510fdddc57582c49d70051177f9ba378bcf64", func := "mullion/mullionlaw17.CnfLiterals", spec := "cnfLiterals", unfollowed := true, recurses := true, apart := false, narrowed := true }
def CnfLiteralsUptoSaid : Prop := cnfLiteralsUptoRow.holds Try.pinned (OpenSpec.upto cnfLiteralsSpec)

/-- 'mullionlaw17.CnfDeep', WHERE WHAT IT READS IS OF BULK AT MOST 1048576: true; the input reads as it did. -/
def cnfDeepUptoRow : OpenClaim := { program := "ytkmenlgddncmaaa", sum := "4b536ae505961c620351dd8e373510fdddc57582c49d70051177f9ba378bcf64", func := "mullion/mullionlaw17.CnfDeep", spec := "cnfDeep", unfollowed := true, recurses := true, apart := false, narrowed := true }
def CnfDeepUptoSaid : Prop := cnfDeepUptoRow.holds Try.pinned (OpenSpec.upto cnfDeepSpec)

end Rows
end Go.Proofs.Ytkmenlgddncmaaa
