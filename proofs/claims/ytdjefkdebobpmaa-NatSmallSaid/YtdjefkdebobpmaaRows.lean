/-
  No cell of these rows narrows 'for every input' (looked for: loops, veiled, ifaces, maps, wideKeys, modest, calm, conditions, laid).
  DERIVED. THE GIVEN ROWS OF THIS SEAT. 6 by the template 'for every input the law returns true; each argument reads behind the call as it read before'; 0 by the template 'total and deterministic' (their statements: YtdjefkdebobpmaaTotals.lean).
  GIVEN WITH THE SEED: the statements are not yours to turn. If you find one false, say at which input.
  Laid BY PROGRAM, IN A SANDBOX (cutbox-rows.mjs): the forced cells as the released guide's own fill.sh prints them over the translation 2a8b792b939f2664… (all of the seat's roots in one cut). By AI agents, Wed Nov 11 2026. No macro, syntax, notation, axiom, sorry.
-/
import Derived.Test.YtdjefkdebobpmaaChecked
import GoSem.Claim
import GoSem.ClaimJoined
import GoSem.ClaimMapViews
import Derived.JoinedTies
import Derived.KernelRfl
namespace Go.Proofs.Ytdjefkdebobpmaa
/- THE CELL 'sum', in the pinned program and in every row, IS THE sha256 OF THE DUMP (.gsa) THAT YtdjefkdebobpmaaProg.lean LOADS. Nothing in Lean hashes anything: it is a label: what it is worth is what the hold of that sum in a sandbox is worth. -/
noncomputable def Try.pinned : Pinned := { name := "ytdjefkdebobpmaa", sum := "2a8b792b939f2664d15dc66d234453ef86f51c1d089ceeba0b986da3a806fe50", checked := Try.checked }
namespace Rows
def none {H : Type} : Left H := { results := [], args := [] }

/-- 'mullionlaw1.NatPowers': WHATEVER THE INPUT: true; the input reads as it did. -/
def natPowersSpec : ChangeSpec := { name := "natPowers", fn := fun _ => fun
  | [d] => { results := [.lit (.bool true)], args := [d] }
  | _ => none }
def natPowersRow : OpenClaim := { program := "ytdjefkdebobpmaa", sum := "2a8b792b939f2664d15dc66d234453ef86f51c1d089ceeba0b986da3a806fe50", func := "mullion/mullionlaw1.NatPowers", spec := "natPowers", apart := false }
def NatPowersSaid : Prop := natPowersRow.holds Try.pinned (OpenSpec.ofChange natPowersSpec)

/-- ITS FALSE NEIGHBOUR: 'it returns false'. Refute it at one input. -/
def natPowersWrong : ChangeSpec := { name := "natPowers", fn := fun _ => fun
  | [d] => { results := [.lit (.bool false)], args := [d] }
  | _ => none }
def NatPowersWrongFalsely : Prop := natPowersRow.holds Try.pinned (OpenSpec.ofChange natPowersWrong)

/-- 'mullionlaw1.NatTells': WHATEVER THE INPUT: true; the input reads as it did. -/
def natTellsSpec : ChangeSpec := { name := "natTells", fn := fun _ => fun
  | [d1, d2, d3] => { results := [.lit (.bool true)], args := [d1, d2, d3] }
  | _ => none }
def natTellsRow : OpenClaim := { program := "ytdjefkdebobpmaa", sum := "2a8b792b939f2664d15dc66d234453ef86f51c1d089ceeba0b986da3a806fe50", func := "mullion/mullionlaw1.NatTells", spec := "natTells", apart := false }
def NatTellsSaid : Prop := natTellsRow.holds Try.pinned (OpenSpec.ofChange natTellsSpec)

/-- ITS FALSE NEIGHBOUR: 'it returns false'. Refute it at one input. -/
def natTellsWrong : ChangeSpec := { name := "natTells", fn := fun _ => fun
  | [d1, d2, d3] => { results := [.lit (.bool false)], args := [d1, d2, d3] }
  | _ => none }
def NatTellsWrongFalsely : Prop := natTellsRow.holds Try.pinned (OpenSpec.ofChange natTellsWrong)

/-- 'mullionlaw1.NatRules': WHATEVER THE INPUT: true; the input reads as it did. -/
def natRulesSpec : ChangeSpec := { name := "natRules", fn := fun _ => fun
  | [d1, d2, d3] => { results := [.lit (.bool true)], args := [d1, d2, d3] }
  | _ => none }
def natRulesRow : OpenClaim := { program := "ytdjefkdebobpmaa", sum := "2a8b792b939f2664d15dc66d234453ef86f51c1d089ceeba0b986da3a806fe50", func := "mullion/mullionlaw1.NatRules", spec := "natRules", apart := false }
def NatRulesSaid : Prop := natRulesRow.holds Try.pinned (OpenSpec.ofChange natRulesSpec)

/-- ITS FALSE NEIGHBOUR: 'it returns false'. Refute it at one input. -/
def natRulesWrong : ChangeSpec := { name := "natRules", fn := fun _ => fun
  | [d1, d2, d3] => { results := [.lit (.bool false)], args := [d1, d2, d3] }
  | _ => none }
def NatRulesWrongFalsely : Prop := natRulesRow.holds Try.pinned (OpenSpec.ofChange natRulesWrong)

/-- 'mullionlaw1.NatSmall': WHATEVER THE INPUT: true; the input reads as it did. -/
def natSmallSpec : ChangeSpec := { name := "natSmall", fn := fun _ => fun
  | [d1, d2, d3] => { results := [.lit (.bool true)], args := [d1, d2, d3] }
  | _ => none }
def natSmallRow : OpenClaim := { program := "ytdjefkdebobpmaa", sum := "2a8b792b939f2664d15dc66d234453ef86f51c1d089ceeba0b986da3a806fe50", func := "mullion/mullionlaw1.NatSmall", spec := "natSmall", apart := false }
def NatSmallSaid : Prop := natSmallRow.holds Try.pinned (OpenSpec.ofChange natSmallSpec)

/-- ITS FALSE NEIGHBOUR: 'it returns false'. Refute it at one input. -/
def natSmallWrong : ChangeSpec := { name := "natSmall", fn := fun _ => fun
  | [d1, d2, d3] => { results := [.lit (.bool false)], args := [d1, d2, d3] }
  | _ => none }
def NatSmallWrongFalsely : Prop := natSmallRow.holds Try.pinned (OpenSpec.ofChange natSmallWrong)

/-- 'mullionlaw1.NatCarries': WHATEVER THE INPUT: true; the input reads as it did. -/
def natCarriesSpec : ChangeSpec := { name := "natCarries", fn := fun _ => fun
  | [d] => { results := [.lit (.bool true)], args := [d] }
  | _ => none }
def natCarriesRow : OpenClaim := { program := "ytdjefkdebobpmaa", sum := "2a8b792b939f2664d15dc66d234453ef86f51c1d089ceeba0b986da3a806fe50", func := "mullion/mullionlaw1.NatCarries", spec := "natCarries", apart := false }
def NatCarriesSaid : Prop := natCarriesRow.holds Try.pinned (OpenSpec.ofChange natCarriesSpec)

/-- ITS FALSE NEIGHBOUR: 'it returns false'. Refute it at one input. -/
def natCarriesWrong : ChangeSpec := { name := "natCarries", fn := fun _ => fun
  | [d] => { results := [.lit (.bool false)], args := [d] }
  | _ => none }
def NatCarriesWrongFalsely : Prop := natCarriesRow.holds Try.pinned (OpenSpec.ofChange natCarriesWrong)

/-- 'mullionlaw1.NatOrder': WHATEVER THE INPUT: true; the input reads as it did. -/
def natOrderSpec : ChangeSpec := { name := "natOrder", fn := fun _ => fun
  | [d1, d2, d3] => { results := [.lit (.bool true)], args := [d1, d2, d3] }
  | _ => none }
def natOrderRow : OpenClaim := { program := "ytdjefkdebobpmaa", sum := "2a8b792b939f2664d15dc66d234453ef86f51c1d089ceeba0b986da3a806fe50", func := "mullion/mullionlaw1.NatOrder", spec := "natOrder", apart := false }
def NatOrderSaid : Prop := natOrderRow.holds Try.pinned (OpenSpec.ofChange natOrderSpec)

/-- ITS FALSE NEIGHBOUR: 'it returns false'. Refute it at one input. -/
def natOrderWrong : ChangeSpec := { name := "natOrder", fn := fun _ => fun
  | [d1, d2, d3] => { results := [.lit (.bool false)], args := [d1, d2, d3] }
  | _ => none }
def NatOrderWrongFalsely : Prop := natOrderRow.holds Try.pinned (OpenSpec.ofChange natOrderWrong)

/- THE SECOND FORM. 'bulk': how many values and letters a reading holds, each counted each time it is reached (what is shared counts as often as it is met; a slice's spare places count too). A statement '..UptoSaid' is the law's where the arguments, and the package variables that the reading takes, are together of bulk at most 1048576: NARROWER than '..Said'. Prove '..Said' where nothing that the law and all that it calls make is longer than what came in: it says more and counts as full. Else prove '..UptoSaid'. A law counts once. -/
mutual
def uptoBulk {H : Type} : DataW H → Nat
  | .lit (.string bytes) => bytes.length + 1
  | .lit _ => 1
  | .nil => 1
  | .ptr d => uptoBulk d + 1
  | .slice elems spare => uptoBulkAll elems + uptoBulkAll spare + 1
  | .agg parts => uptoBulkAll parts + 1
  | .iface _ d => uptoBulk d + 1
  | .map entries => uptoBulkEntries entries + 1
  | .held _ => 1
def uptoBulkAll {H : Type} : List (DataW H) → Nat
  | [] => 0
  | d :: r => uptoBulk d + uptoBulkAll r
def uptoBulkEntries {H : Type} : List (Lit × DataW H) → Nat
  | [] => 0
  | x :: r => uptoBulkEntry x + uptoBulkEntries r
def uptoBulkEntry {H : Type} : Lit × DataW H → Nat
  | (.string bytes, d) => bytes.length + uptoBulk d + 1
  | (_, d) => uptoBulk d + 1
 end
def uptoSmall : (H : Type) → List (DataW H) → Bool := fun _ ds => decide (uptoBulkAll ds ≤ 1048576)
def OpenSpec.upto (s : _root_.Go.ChangeSpec) : _root_.Go.OpenSpec := { _root_.Go.OpenSpec.ofChange s with cond := some uptoSmall }

/-- 'mullionlaw1.NatPowers', WHERE WHAT IT READS IS OF BULK AT MOST 1048576: true; the input reads as it did. -/
def natPowersUptoRow : OpenClaim := { program := "ytdjefkdebobpmaa", sum := "2a8b792b939f2664d15dc66d234453ef86f51c1d089ceeba0b986da3a806fe50", func := "mullion/mullionlaw1.NatPowers", spec := "natPowers", apart := false, narrowed := true }
def NatPowersUptoSaid : Prop := natPowersUptoRow.holds Try.pinned (OpenSpec.upto natPowersSpec)

/-- 'mullionlaw1.NatTells', WHERE WHAT IT READS IS OF BULK AT MOST 1048576: true; the input reads as it did. -/
def natTellsUptoRow : OpenClaim := { program := "ytdjefkdebobpmaa", sum := "2a8b792b939f2664d15dc66d234453ef86f51c1d089ceeba0b986da3a806fe50", func := "mullion/mullionlaw1.NatTells", spec := "natTells", apart := false, narrowed := true }
def NatTellsUptoSaid : Prop := natTellsUptoRow.holds Try.pinned (OpenSpec.upto natTellsSpec)

/-- 'mullionlaw1.NatRules', WHERE WHAT IT READS IS OF BULK AT MOST 1048576: true; the input reads as it did. -/
def natRulesUptoRow : OpenClaim := { program := "ytdjefkdebobpmaa", sum := "2a8b792b939f2664d15dc66d234453ef86f51c1d089ceeba0b986da3a806fe50", func := "mullion/mullionlaw1.NatRules", spec := "natRules", apart := false, narrowed := true }
def NatRulesUptoSaid : Prop := natRulesUptoRow.holds Try.pinned (OpenSpec.upto natRulesSpec)

/-- 'mullionlaw1.NatSmall', WHERE WHAT IT READS IS OF BULK AT MOST 1048576: true; the input reads as it did. -/
def natSmallUptoRow : OpenClaim := { program := "ytdjefkdebobpmaa", sum := "2a8b792b939f2664d15dc66d234453ef86f51c1d089ceeba0b986da3a806fe50", func := "mullion/mullionlaw1.NatSmall", spec := "natSmall", apart := false, narrowed := true }
def NatSmallUptoSaid : Prop := natSmallUptoRow.holds Try.pinned (OpenSpec.upto natSmallSpec)

/-- 'mullionlaw1.NatCarries', WHERE WHAT IT READS IS OF BULK AT MOST 1048576: true; the input reads as it did. -/
def natCarriesUptoRow : OpenClaim := { program := "ytdjefkdebobpmaa", sum := "2a8b792b939f2664d15dc66d234453ef86f51c1d089ceeba0b986da3a806fe50", func := "mullion/mullionlaw1.NatCarries", spec := "natCarries", apart := false, narrowed := true }
def NatCarriesUptoSaid : Prop := natCarriesUptoRow.holds Try.pinned (OpenSpec.upto natCarriesSpec)

/-- 'mullionlaw1.NatOrder', WHERE WHAT IT READS IS OF BULK AT MOST 1048576: true; the input reads as it did. -/
def natOrderUptoRow : OpenClaim := { program := "ytdjefkdebobpmaa", sum := "2a8b792b939f2664d15dc66d234453ef86f51c1d089ceeba0b986da3a806fe50", func := "mullion/mullionlaw1.NatOrder", spec := "natOrder", apart := false, narrowed := true }
def NatOrderUptoSaid : Prop := natOrderUptoRow.holds Try.pinned (OpenSpec.upto natOrderSpec)

end Rows
end Go.Proofs.Ytdjefkdebobpmaa
