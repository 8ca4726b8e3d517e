/-
  NARROWER THAN 'FOR EVERY INPUT', by the rows' own cells (each row's printed sentence says how): TreeRows: loops · TreeWraps: loops · TreeForms: loops · TreeBack: loops.
  DERIVED. THE GIVEN ROWS OF THIS SEAT. 11 by the template 'for every input the law returns true; each argument reads behind the call as it read before'; 0 by the template 'total and deterministic' (their statements: YtegeleijdobmeaaTotals.lean).
  GIVEN WITH THE SEED: the statements are not yours to turn. If you find one false, say at which input.
  Laid BY PROGRAM, IN A SANDBOX (cutbox-rows.mjs): the forced cells as the released guide's own fill.sh prints them over the translation a2e1019b90461c91… (all of the seat's roots in one cut). By AI agents, Wed Nov 11 2026. No macro, syntax, notation, axiom, sorry.
-/
import Derived.Test.YtegeleijdobmeaaChecked
import GoSem.Claim
import GoSem.ClaimJoined
import GoSem.ClaimMapViews
import Derived.JoinedTies
import Derived.KernelRfl
namespace Go.Proofs.Ytegeleijdobmeaa
/- THE CELL 'sum', in the pinned program and in every row, IS THE sha256 OF THE DUMP (.gsa) THAT YtegeleijdobmeaaProg.lean LOADS. Nothing in Lean hashes anything: it is a label: what it is worth is what the hold of that sum in a sandbox is worth. -/
noncomputable def Try.pinned : Pinned := { name := "ytegeleijdobmeaa", sum := "a2e1019b90461c919bf2b9ad8fc7887f5fc09901fcd5bf561188bc3c71b66d66", checked := Try.checked }
namespace Rows
def none {H : Type} : Left H := { results := [], args := [] }

/-- 'mullionlaw9.TreeRows': WHATEVER THE INPUT: true; the input reads as it did. -/
def treeRowsSpec : ChangeSpec := { name := "treeRows", fn := fun _ => fun
  | [d] => { results := [.lit (.bool true)], args := [d] }
  | _ => none }
def treeRowsRow : OpenClaim := { program := "ytegeleijdobmeaa", sum := "a2e1019b90461c919bf2b9ad8fc7887f5fc09901fcd5bf561188bc3c71b66d66", func := "mullion/mullionlaw9.TreeRows", spec := "treeRows", inPlace := ["internal/abi.NoEscape", "internal/bytealg.MakeNoZero", "internal/bytealg.IndexByteString"], unfollowed := true, recurses := true, loops := true, apart := false }
def TreeRowsSaid : Prop := treeRowsRow.holds Try.pinned (OpenSpec.ofChange treeRowsSpec)

/-- ITS FALSE NEIGHBOUR: 'it returns false'. Refute it at one input. -/
def treeRowsWrong : ChangeSpec := { name := "treeRows", fn := fun _ => fun
  | [d] => { results := [.lit (.bool false)], args := [d] }
  | _ => none }
def TreeRowsWrongFalsely : Prop := treeRowsRow.holds Try.pinned (OpenSpec.ofChange treeRowsWrong)

/-- 'mullionlaw9.TreeWraps': WHATEVER THE INPUT: true; the input reads as it did. -/
def treeWrapsSpec : ChangeSpec := { name := "treeWraps", fn := fun _ => fun
  | [d] => { results := [.lit (.bool true)], args := [d] }
  | _ => none }
def treeWrapsRow : OpenClaim := { program := "ytegeleijdobmeaa", sum := "a2e1019b90461c919bf2b9ad8fc7887f5fc09901fcd5bf561188bc3c71b66d66", func := "mullion/mullionlaw9.TreeWraps", spec := "treeWraps", inPlace := ["internal/abi.NoEscape", "internal/bytealg.MakeNoZero", "internal/bytealg.IndexByteString"], unfollowed := true, recurses := true, loops := true, apart := false }
def TreeWrapsSaid : Prop := treeWrapsRow.holds Try.pinned (OpenSpec.ofChange treeWrapsSpec)

/-- ITS FALSE NEIGHBOUR: 'it returns false'. Refute it at one input. -/
def treeWrapsWrong : ChangeSpec := { name := "treeWraps", fn := fun _ => fun
  | [d] => { results := [.lit (.bool false)], args := [d] }
  | _ => none }
def TreeWrapsWrongFalsely : Prop := treeWrapsRow.holds Try.pinned (OpenSpec.ofChange treeWrapsWrong)

/-- 'mullionlaw8.LexTells': WHATEVER THE INPUT: true; the input reads as it did. -/
def lexTellsSpec : ChangeSpec := { name := "lexTells", fn := fun _ => fun
  | [d1, d2, d3] => { results := [.lit (.bool true)], args := [d1, d2, d3] }
  | _ => none }
def lexTellsRow : OpenClaim := { program := "ytegeleijdobmeaa", sum := "a2e1019b90461c919bf2b9ad8fc7887f5fc09901fcd5bf561188bc3c71b66d66", func := "mullion/mullionlaw8.LexTells", spec := "lexTells", inPlace := ["internal/bytealg.IndexByteString", "internal/abi.NoEscape", "internal/bytealg.MakeNoZero"], unfollowed := true, recurses := true, apart := false }
def LexTellsSaid : Prop := lexTellsRow.holds Try.pinned (OpenSpec.ofChange lexTellsSpec)

/-- ITS FALSE NEIGHBOUR: 'it returns false'. Refute it at one input. -/
def lexTellsWrong : ChangeSpec := { name := "lexTells", fn := fun _ => fun
  | [d1, d2, d3] => { results := [.lit (.bool false)], args := [d1, d2, d3] }
  | _ => none }
def LexTellsWrongFalsely : Prop := lexTellsRow.holds Try.pinned (OpenSpec.ofChange lexTellsWrong)

/-- 'mullionlaw8.LexBack': WHATEVER THE INPUT: true; the input reads as it did. -/
def lexBackSpec : ChangeSpec := { name := "lexBack", fn := fun _ => fun
  | [d1, d2] => { results := [.lit (.bool true)], args := [d1, d2] }
  | _ => none }
def lexBackRow : OpenClaim := { program := "ytegeleijdobmeaa", sum := "a2e1019b90461c919bf2b9ad8fc7887f5fc09901fcd5bf561188bc3c71b66d66", func := "mullion/mullionlaw8.LexBack", spec := "lexBack", inPlace := ["internal/bytealg.IndexByteString", "internal/abi.NoEscape", "internal/bytealg.MakeNoZero"], unfollowed := true, recurses := true, apart := false }
def LexBackSaid : Prop := lexBackRow.holds Try.pinned (OpenSpec.ofChange lexBackSpec)

/-- ITS FALSE NEIGHBOUR: 'it returns false'. Refute it at one input. -/
def lexBackWrong : ChangeSpec := { name := "lexBack", fn := fun _ => fun
  | [d1, d2] => { results := [.lit (.bool false)], args := [d1, d2] }
  | _ => none }
def LexBackWrongFalsely : Prop := lexBackRow.holds Try.pinned (OpenSpec.ofChange lexBackWrong)

/-- 'mullionlaw8.LexBlanks': WHATEVER THE INPUT: true; the input reads as it did. -/
def lexBlanksSpec : ChangeSpec := { name := "lexBlanks", fn := fun _ => fun
  | [d1, d2] => { results := [.lit (.bool true)], args := [d1, d2] }
  | _ => none }
def lexBlanksRow : OpenClaim := { program := "ytegeleijdobmeaa", sum := "a2e1019b90461c919bf2b9ad8fc7887f5fc09901fcd5bf561188bc3c71b66d66", func := "mullion/mullionlaw8.LexBlanks", spec := "lexBlanks", inPlace := ["internal/bytealg.IndexByteString", "internal/abi.NoEscape", "internal/bytealg.MakeNoZero"], unfollowed := true, recurses := true, apart := false }
def LexBlanksSaid : Prop := lexBlanksRow.holds Try.pinned (OpenSpec.ofChange lexBlanksSpec)

/-- ITS FALSE NEIGHBOUR: 'it returns false'. Refute it at one input. -/
def lexBlanksWrong : ChangeSpec := { name := "lexBlanks", fn := fun _ => fun
  | [d1, d2] => { results := [.lit (.bool false)], args := [d1, d2] }
  | _ => none }
def LexBlanksWrongFalsely : Prop := lexBlanksRow.holds Try.pinned (OpenSpec.ofChange lexBlanksWrong)

/-- 'mullionlaw8.LexBytes': WHATEVER THE INPUT: true; the input reads as it did. -/
def lexBytesSpec : ChangeSpec := { name := "lexBytes", fn := fun _ => fun
  | [d] => { results := [.lit (.bool true)], args := [d] }
  | _ => none }
def lexBytesRow : OpenClaim := { program := "ytegeleijdobmeaa", sum := "a2e1019b90461c919bf2b9ad8fc7887f5fc09901fcd5bf561188bc3c71b66d66", func := "mullion/mullionlaw8.LexBytes", spec := "lexBytes", inPlace := ["internal/bytealg.IndexByteString", "internal/abi.NoEscape", "internal/bytealg.MakeNoZero"], unfollowed := true, recurses := true, apart := false }
def LexBytesSaid : Prop := lexBytesRow.holds Try.pinned (OpenSpec.ofChange lexBytesSpec)

/-- ITS FALSE NEIGHBOUR: 'it returns false'. Refute it at one input. -/
def lexBytesWrong : ChangeSpec := { name := "lexBytes", fn := fun _ => fun
  | [d] => { results := [.lit (.bool false)], args := [d] }
  | _ => none }
def LexBytesWrongFalsely : Prop := lexBytesRow.holds Try.pinned (OpenSpec.ofChange lexBytesWrong)

/-- 'mullionlaw8.LexLong': WHATEVER THE INPUT: true; the input reads as it did. -/
def lexLongSpec : ChangeSpec := { name := "lexLong", fn := fun _ => fun
  | [d1, d2] => { results := [.lit (.bool true)], args := [d1, d2] }
  | _ => none }
def lexLongRow : OpenClaim := { program := "ytegeleijdobmeaa", sum := "a2e1019b90461c919bf2b9ad8fc7887f5fc09901fcd5bf561188bc3c71b66d66", func := "mullion/mullionlaw8.LexLong", spec := "lexLong", inPlace := ["internal/bytealg.IndexByteString", "internal/abi.NoEscape", "internal/bytealg.MakeNoZero"], unfollowed := true, recurses := true, apart := false }
def LexLongSaid : Prop := lexLongRow.holds Try.pinned (OpenSpec.ofChange lexLongSpec)

/-- ITS FALSE NEIGHBOUR: 'it returns false'. Refute it at one input. -/
def lexLongWrong : ChangeSpec := { name := "lexLong", fn := fun _ => fun
  | [d1, d2] => { results := [.lit (.bool false)], args := [d1, d2] }
  | _ => none }
def LexLongWrongFalsely : Prop := lexLongRow.holds Try.pinned (OpenSpec.ofChange lexLongWrong)

/-- 'mullionlaw9.TreeTells': WHATEVER THE INPUT: true; the input reads as it did. -/
def treeTellsSpec : ChangeSpec := { name := "treeTells", fn := fun _ => fun
  | [d] => { results := [.lit (.bool true)], args := [d] }
  | _ => none }
def treeTellsRow : OpenClaim := { program := "ytegeleijdobmeaa", sum := "a2e1019b90461c919bf2b9ad8fc7887f5fc09901fcd5bf561188bc3c71b66d66", func := "mullion/mullionlaw9.TreeTells", spec := "treeTells", inPlace := ["internal/abi.NoEscape", "internal/bytealg.MakeNoZero", "internal/bytealg.IndexByteString"], unfollowed := true, recurses := true, apart := false }
def TreeTellsSaid : Prop := treeTellsRow.holds Try.pinned (OpenSpec.ofChange treeTellsSpec)

/-- ITS FALSE NEIGHBOUR: 'it returns false'. Refute it at one input. -/
def treeTellsWrong : ChangeSpec := { name := "treeTells", fn := fun _ => fun
  | [d] => { results := [.lit (.bool false)], args := [d] }
  | _ => none }
def TreeTellsWrongFalsely : Prop := treeTellsRow.holds Try.pinned (OpenSpec.ofChange treeTellsWrong)

/-- 'mullionlaw9.TreeForms': WHATEVER THE INPUT: true; the input reads as it did. -/
def treeFormsSpec : ChangeSpec := { name := "treeForms", fn := fun _ => fun
  | [d1, d2] => { results := [.lit (.bool true)], args := [d1, d2] }
  | _ => none }
def treeFormsRow : OpenClaim := { program := "ytegeleijdobmeaa", sum := "a2e1019b90461c919bf2b9ad8fc7887f5fc09901fcd5bf561188bc3c71b66d66", func := "mullion/mullionlaw9.TreeForms", spec := "treeForms", inPlace := ["internal/abi.NoEscape", "internal/bytealg.MakeNoZero", "internal/bytealg.IndexByteString"], unfollowed := true, recurses := true, loops := true, apart := false }
def TreeFormsSaid : Prop := treeFormsRow.holds Try.pinned (OpenSpec.ofChange treeFormsSpec)

/-- ITS FALSE NEIGHBOUR: 'it returns false'. Refute it at one input. -/
def treeFormsWrong : ChangeSpec := { name := "treeForms", fn := fun _ => fun
  | [d1, d2] => { results := [.lit (.bool false)], args := [d1, d2] }
  | _ => none }
def TreeFormsWrongFalsely : Prop := treeFormsRow.holds Try.pinned (OpenSpec.ofChange treeFormsWrong)

/-- 'mullionlaw9.TreeBack': WHATEVER THE INPUT: true; the input reads as it did. -/
def treeBackSpec : ChangeSpec := { name := "treeBack", fn := fun _ => fun
  | [d1, d2] => { results := [.lit (.bool true)], args := [d1, d2] }
  | _ => none }
def treeBackRow : OpenClaim := { program := "ytegeleijdobmeaa", sum := "a2e1019b90461c919bf2b9ad8fc7887f5fc09901fcd5bf561188bc3c71b66d66", func := "mullion/mullionlaw9.TreeBack", spec := "treeBack", inPlace := ["internal/abi.NoEscape", "internal/bytealg.MakeNoZero", "internal/bytealg.IndexByteString"], unfollowed := true, recurses := true, loops := true, apart := false }
def TreeBackSaid : Prop := treeBackRow.holds Try.pinned (OpenSpec.ofChange treeBackSpec)

/-- ITS FALSE NEIGHBOUR: 'it returns false'. Refute it at one input. -/
def treeBackWrong : ChangeSpec := { name := "treeBack", fn := fun _ => fun
  | [d1, d2] => { results := [.lit (.bool false)], args := [d1, d2] }
  | _ => none }
def TreeBackWrongFalsely : Prop := treeBackRow.holds Try.pinned (OpenSpec.ofChange treeBackWrong)

/-- 'mullionlaw9.TreeDeep': WHATEVER THE INPUT: true; the input reads as it did. -/
def treeDeepSpec : ChangeSpec := { name := "treeDeep", fn := fun _ => fun
  | [d1, d2] => { results := [.lit (.bool true)], args := [d1, d2] }
  | _ => none }
def treeDeepRow : OpenClaim := { program := "ytegeleijdobmeaa", sum := "a2e1019b90461c919bf2b9ad8fc7887f5fc09901fcd5bf561188bc3c71b66d66", func := "mullion/mullionlaw9.TreeDeep", spec := "treeDeep", inPlace := ["internal/abi.NoEscape", "internal/bytealg.MakeNoZero", "internal/bytealg.IndexByteString"], unfollowed := true, recurses := true, apart := false }
def TreeDeepSaid : Prop := treeDeepRow.holds Try.pinned (OpenSpec.ofChange treeDeepSpec)

/-- ITS FALSE NEIGHBOUR: 'it returns false'. Refute it at one input. -/
def treeDeepWrong : ChangeSpec := { name := "treeDeep", fn := fun _ => fun
  | [d1, d2] => { results := [.lit (.bool false)], args := [d1, d2] }
  | _ => none }
def TreeDeepWrongFalsely : Prop := treeDeepRow.holds Try.pinned (OpenSpec.ofChange treeDeepWrong)

/- THE SECOND FORM. 'bulk': how many values and letters a reading holds, each counted each time it is reached (what is shared counts as often as it is met; a slice's spare places count too). A statement '..UptoSaid' is the law's where the arguments, and the package variables that the reading takes, are together of bulk at most 1048576: NARROWER than '..Said'. Prove '..Said' where nothing that the law and all that it calls make is longer than what came in: it says more and counts as full. Else prove '..UptoSaid'. A law counts once. -/
mutual
def uptoBulk {H : Type} : DataW H → Nat
  | .lit (.string bytes) => bytes.length + 1
  | .lit _ => 1
  | .nil => 1
  | .ptr d => uptoBulk d + 1
  | .slice elems spare => uptoBulkAll elems + uptoBulkAll spare + 1
  | .agg parts => uptoBulkAll parts + 1
  | .iface _ d => uptoBulk d + 1
  | .map entries => uptoBulkEntries entries + 1
  | .held _ => 1
def uptoBulkAll {H : Type} : List (DataW H) → Nat
  | [] => 0
  | d :: r => uptoBulk d + uptoBulkAll r
def uptoBulkEntries {H : Type} : List (Lit × DataW H) → Nat
  | [] => 0
  | x :: r => uptoBulkEntry x + uptoBulkEntries r
def uptoBulkEntry {H : Type} : Lit × DataW H → Nat
  | (.string bytes, d) => bytes.length + uptoBulk d + 1
  | (_, d) => uptoBulk d + 1
 end
def uptoSmall : (H : Type) → List (DataW H) → Bool := fun _ ds => decide (uptoBulkAll ds ≤ 1048576)
def OpenSpec.upto (s : _root_.Go.ChangeSpec) : _root_.Go.OpenSpec := { _root_.Go.OpenSpec.ofChange s with cond := some uptoSmall }

/-- 'mullionlaw9.TreeRows', WHERE WHAT IT READS IS OF BULK AT MOST 1048576: true; the input reads as it did. -/
def treeRowsUptoRow : OpenClaim := { program := "ytegeleijdobmeaa", sum := "a2e1019b90461c919bf2b9ad8fc7887f5fc09901fcd5bf561188bc3c71b66d66", func := "mullion/mullionlaw9.TreeRows", spec := "treeRows", inPlace := ["internal/abi.NoEscape", "internal/bytealg.MakeNoZero", "internal/bytealg.IndexByteString"], unfollowed := true, recurses := true, loops := true, apart := false, narrowed := true }
def TreeRowsUptoSaid : Prop := treeRowsUptoRow.holds Try.pinned (OpenSpec.upto treeRowsSpec)

/-- 'mullionlaw9.TreeWraps', WHERE WHAT IT READS IS OF BULK AT MOST 1048576: true; the input reads as it did. -/
def treeWrapsUptoRow : OpenClaim := { program := "ytegeleijdobmeaa", sum := "a2e1019b90461c919bf2b9ad8fc7887f5fc09901fcd5bf561188bc3c71b66d66", func := "mullion/mullionlaw9.TreeWraps", spec := "treeWraps", inPlace := ["internal/abi.NoEscape", "internal/bytealg.MakeNoZero", "internal/bytealg.IndexByteString"], unfollowed := true, recurses := true, loops := true, apart := false, narrowed := true }
def TreeWrapsUptoSaid : Prop := treeWrapsUptoRow.holds Try.pinned (OpenSpec.upto treeWrapsSpec)

/-- 'mullionlaw8.LexTells', WHERE WHAT IT READS IS OF BULK AT MOST 1048576: true; the input reads as it did. -/
def lexTellsUptoRow : OpenClaim := { program := "ytegeleijdobmeaa", sum := "a2e1019b90461c919bf2b9ad8fc7887f5fc09901fcd5bf561188bc3c71b66d66", func := "mullion/mullionlaw8.LexTells", spec := "lexTells", inPlace := ["internal/bytealg.IndexByteString", "internal/abi.NoEscape", "internal/bytealg.MakeNoZero"], unfollowed := true, recurses := true, apart := false, narrowed := true }
def LexTellsUptoSaid : Prop := lexTellsUptoRow.holds Try.pinned (OpenSpec.upto lexTellsSpec)

/-- 'mullionlaw8.LexBack', WHERE WHAT IT READS IS OF BULK AT MOST 1048576: true; the input reads as it did. -/
def lexBackUptoRow : OpenClaim := { program := "ytegeleijdobmeaa", sum := "a2e1019b90461c919bf2b9ad8fc7887f5fc09901fcd5bf561188bc3c71b66d66", func := "mullion/mullionlaw8.LexBack", spec := "lexBack", inPlace := ["internal/bytealg.IndexByteString", "internal/abi.NoEscape", "internal/bytealg.MakeNoZero"], unfollowed := true, recurses := true, apart := false, narrowed := true }
def LexBackUptoSaid : Prop := lexBackUptoRow.holds Try.pinned (OpenSpec.upto lexBackSpec)

/-- 'mullionlaw8.LexBlanks', WHERE WHAT IT READS IS OF BULK AT MOST 1048576: true; the input reads as it did. -/
def lexBlanksUptoRow : OpenClaim := { program := "ytegeleijdobmeaa", sum := "a2e1019b90461c919bf2b9ad8fc7887f5fc09901fcd5bf561188bc3c71b66d66", func := "mullion/mullionlaw8.LexBlanks", spec := "lexBlanks", inPlace := ["internal/bytealg.IndexByteString", "internal/abi.NoEscape", "internal/bytealg.MakeNoZero"], unfollowed := true, recurses := true, apart := false, narrowed := true }
def LexBlanksUptoSaid : Prop := lexBlanksUptoRow.holds Try.pinned (OpenSpec.upto lexBlanksSpec)

/-- 'mullionlaw8.LexBytes', WHERE WHAT IT READS IS OF BULK AT MOST 1048576: true; the input reads as it did. -/
def lexBytesUptoRow : OpenClaim := { program := "ytegeleijdobmeaa", sum := "a2e1019b90461c919bf2b9ad8fc7887f5fc09901fcd5bf561188bc3c71b66d66", func := "mullion/mullionlaw8.LexBytes", spec := "lexBytes", inPlace := ["internal/bytealg.IndexByteString", "internal/abi.NoEscape", "internal/bytealg.MakeNoZero"], unfollowed := true, recurses := true, apart := false, narrowed := true }
def LexBytesUptoSaid : Prop := lexBytesUptoRow.holds Try.pinned (OpenSpec.upto lexBytesSpec)

/-- 'mullionlaw8.LexLong', WHERE WHAT IT READS IS OF BULK AT MOST 1048576: true; the input reads as it did. -/
def lexLongUptoRow : OpenClaim := { program := "ytegeleijdobmeaa", sum := "a2e1019b90461c919bf2b9ad8fc7887f5fc09901fcd5bf561188bc3c71b66d66", func := "mullion/mullionlaw8.LexLong", spec := "lexLong", inPlace := ["internal/bytealg.IndexByteString", "internal/abi.NoEscape", "internal/bytealg.MakeNoZero"], unfollowed := true, recurses := true, apart := false, narrowed := true }
def LexLongUptoSaid : Prop := lexLongUptoRow.holds Try.pinned (OpenSpec.upto lexLongSpec)

/-- 'mullionlaw9.TreeTells', WHERE WHAT IT READS IS OF BULK AT MOST 1048576: true; the input reads as it did. -/
def treeTellsUptoRow : OpenClaim := { program := "ytegeleijdobmeaa", sum := "a2e1019b90461c919bf2b9ad8fc7887f5fc09901fcd5bf561188bc3c71b66d66", func := "mullion/mullionlaw9.TreeTells", spec := "treeTells", inPlace := ["internal/abi.NoEscape", "internal/bytealg.MakeNoZero", "internal/bytealg.IndexByteString"], unfollowed := true, recurses := true, apart := false, narrowed := true }
def TreeTellsUptoSaid : Prop := treeTellsUptoRow.holds Try.pinned (OpenSpec.upto treeTellsSpec)

/-- 'mullionlaw9.TreeForms', WHERE WHAT IT READS IS OF BULK AT MOST 1048576: true; the input reads as it did. -/
def treeFormsUptoRow : OpenClaim := { program := "ytegeleijdobmeaa", sum := "a2e1019b90461c919bf2b9ad8fc7887f5fc09901fcd5bf561188bc3c71b66d66", func := "mullion/mullionlaw9.TreeForms", spec := "treeForms", inPlace := ["internal/abi.NoEscape", "internal/bytealg.MakeNoZero", "internal/bytealg.IndexByteString"], unfollowed := true, recurses := true, loops := true, apart := false, narrowed := true }
def TreeFormsUptoSaid : Prop := treeFormsUptoRow.holds Try.pinned (OpenSpec.upto treeFormsSpec)

/-- 'mullionlaw9.TreeBack', WHERE WHAT IT READS IS OF BULK AT MOST 1048576: true; the input reads as it did. -/
def treeBackUptoRow : OpenClaim := { program := "ytegeleijdobmeaa", sum := "a2e1019b90461c919bf2b9ad8fc7887f5fc09901fcd5bf561188bc3c71b66d66", func := "mullion/mullionlaw9.TreeBack", spec := "treeBack", inPlace := ["internal/abi.NoEscape", "internal/bytealg.MakeNoZero", "internal/bytealg.IndexByteString"], unfollowed := true, recurses := true, loops := true, apart := false, narrowed := true }
def TreeBackUptoSaid : Prop := treeBackUptoRow.holds Try.pinned (OpenSpec.upto treeBackSpec)

/-- 'mullionlaw9.TreeDeep', WHERE WHAT IT READS IS OF BULK AT MOST 1048576: true; the input reads as it did. -/
def treeDeepUptoRow : OpenClaim := { program := "ytegeleijdobmeaa", sum := "a2e1019b90461c919bf2b9ad8fc7887f5fc09901fcd5bf561188bc3c71b66d66", func := "mullion/mullionlaw9.TreeDeep", spec := "treeDeep", inPlace := ["internal/abi.NoEscape", "internal/bytealg.MakeNoZero", "internal/bytealg.IndexByteString"], unfollowed := true, recurses := true, apart := false, narrowed := true }
def TreeDeepUptoSaid : Prop := treeDeepUptoRow.holds Try.pinned (OpenSpec.upto treeDeepSpec)

end Rows
end Go.Proofs.Ytegeleijdobmeaa
