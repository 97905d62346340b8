/-
  No cell of these rows narrows 'for every input' (looked for: loops, veiled, ifaces, maps, wideKeys, modest, calm, conditions, laid).
  DERIVED. THE GIVEN ROWS OF THIS SEAT. 8 by the template 'for every input the law returns true; each argument reads behind the call as it read before'; 0 by the template 'total and deterministic' (their statements: YtldccnbokbieiaaGreatTotals.lean).
  GIVEN WITH THE SEED: the statements are not yours to turn. If you find one false, say at which input.
  Laid BY PROGRAM, IN A SANDBOX (cutbox-rows.mjs): the forced cells as the released guide's own fill.sh prints them over the translation 236c5a7ed8512e74… (all of the seat's roots in one cut). By AI agents, Wed Nov 11 2026. No macro, syntax, notation, axiom, sorry.
-/
import Derived.Test.YtldccnbokbieiaaGreatChecked
import GoSem.Claim
import GoSem.ClaimJoined
import GoSem.ClaimMapViews
import Derived.JoinedTies
import Derived.KernelRfl
namespace Go.Proofs.YtldccnbokbieiaaGreat
/- THE CELL 'sum', in the pinned program and in every row, IS THE sha256 OF THE DUMP (.gsa) THAT YtldccnbokbieiaaGreatProg.lean LOADS. Nothing in Lean hashes anything: it is a label: what it is worth is what the hold of that sum in a sandbox is worth. -/
noncomputable def Tryz.pinned : Pinned := { name := "ytldccnbokbieiaagreat", sum := "236c5a7ed8512e74ad5d6b705a44b6a9f96af4f46aaab34038fc35ede36cd93f", checked := Tryz.checked }
namespace Rows
def none {H : Type} : Left H := { results := [], args := [] }

/-- 'entaillaw16.TreeCheck': WHATEVER THE INPUT: true; the input reads as it did. -/
def treeCheckSpec : ChangeSpec := { name := "treeCheck", fn := fun _ => fun
  | [d1, d2, d3] => { results := [.lit (.bool true)], args := [d1, d2, d3] }
  | _ => none }
def treeCheckRow : OpenClaim := { program := "ytldccnbokbieiaagreat", sum := "236c5a7ed8512e74ad5d6b705a44b6a9f96af4f46aaab34038fc35ede36cd93f", func := "entail/entaillaw16.TreeCheck", spec := "treeCheck", inPlace := ["internal/bytealg.Compare", "math/bits.Add64", "math/bits.Sub64"], recurses := true, apart := false }
def TreeCheckSaid : Prop := treeCheckRow.holds Tryz.pinned (OpenSpec.ofChange treeCheckSpec)

/-- ITS FALSE NEIGHBOUR: 'it returns false'. Refute it at one input. -/
def treeCheckWrong : ChangeSpec := { name := "treeCheck", fn := fun _ => fun
  | [d1, d2, d3] => { results := [.lit (.bool false)], args := [d1, d2, d3] }
  | _ => none }
def TreeCheckWrongFalsely : Prop := treeCheckRow.holds Tryz.pinned (OpenSpec.ofChange treeCheckWrong)

/-- 'entaillaw16.TreeOutput': WHATEVER THE INPUT: true; the input reads as it did. -/
def treeOutputSpec : ChangeSpec := { name := "treeOutput", fn := fun _ => fun
  | [d1, d2] => { results := [.lit (.bool true)], args := [d1, d2] }
  | _ => none }
def treeOutputRow : OpenClaim := { program := "ytldccnbokbieiaagreat", sum := "236c5a7ed8512e74ad5d6b705a44b6a9f96af4f46aaab34038fc35ede36cd93f", func := "entail/entaillaw16.TreeOutput", spec := "treeOutput", inPlace := ["internal/bytealg.Compare", "math/bits.Add64", "math/bits.Sub64"], recurses := true, apart := false }
def TreeOutputSaid : Prop := treeOutputRow.holds Tryz.pinned (OpenSpec.ofChange treeOutputSpec)

/-- ITS FALSE NEIGHBOUR: 'it returns false'. Refute it at one input. -/
def treeOutputWrong : ChangeSpec := { name := "treeOutput", fn := fun _ => fun
  | [d1, d2] => { results := [.lit (.bool false)], args := [d1, d2] }
  | _ => none }
def TreeOutputWrongFalsely : Prop := treeOutputRow.holds Tryz.pinned (OpenSpec.ofChange treeOutputWrong)

/-- 'entaillaw16.TreePlant': WHATEVER THE INPUT: true; the input reads as it did. -/
def treePlantSpec : ChangeSpec := { name := "treePlant", fn := fun _ => fun
  | [d1, d2] => { results := [.lit (.bool true)], args := [d1, d2] }
  | _ => none }
def treePlantRow : OpenClaim := { program := "ytldccnbokbieiaagreat", sum := "236c5a7ed8512e74ad5d6b705a44b6a9f96af4f46aaab34038fc35ede36cd93f", func := "entail/entaillaw16.TreePlant", spec := "treePlant", inPlace := ["internal/bytealg.Compare", "math/bits.Add64", "math/bits.Sub64"], unfollowed := true, recurses := true, apart := false }
def TreePlantSaid : Prop := treePlantRow.holds Tryz.pinned (OpenSpec.ofChange treePlantSpec)

/-- ITS FALSE NEIGHBOUR: 'it returns false'. Refute it at one input. -/
def treePlantWrong : ChangeSpec := { name := "treePlant", fn := fun _ => fun
  | [d1, d2] => { results := [.lit (.bool false)], args := [d1, d2] }
  | _ => none }
def TreePlantWrongFalsely : Prop := treePlantRow.holds Tryz.pinned (OpenSpec.ofChange treePlantWrong)

/-- 'entaillaw23.PlanLeaves': WHATEVER THE INPUT: true; the input reads as it did. -/
def planLeavesSpec : ChangeSpec := { name := "planLeaves", fn := fun _ => fun
  | [d1, d2] => { results := [.lit (.bool true)], args := [d1, d2] }
  | _ => none }
def planLeavesRow : OpenClaim := { program := "ytldccnbokbieiaagreat", sum := "236c5a7ed8512e74ad5d6b705a44b6a9f96af4f46aaab34038fc35ede36cd93f", func := "entail/entaillaw23.PlanLeaves", spec := "planLeaves", inPlace := ["internal/bytealg.Compare", "math/bits.Add64", "math/bits.Sub64"], unfollowed := true, recurses := true, apart := false }
def PlanLeavesSaid : Prop := planLeavesRow.holds Tryz.pinned (OpenSpec.ofChange planLeavesSpec)

/-- ITS FALSE NEIGHBOUR: 'it returns false'. Refute it at one input. -/
def planLeavesWrong : ChangeSpec := { name := "planLeaves", fn := fun _ => fun
  | [d1, d2] => { results := [.lit (.bool false)], args := [d1, d2] }
  | _ => none }
def PlanLeavesWrongFalsely : Prop := planLeavesRow.holds Tryz.pinned (OpenSpec.ofChange planLeavesWrong)

/-- 'entaillaw21.VaultTrigger': WHATEVER THE INPUT: true; the input reads as it did. -/
def vaultTriggerSpec : ChangeSpec := { name := "vaultTrigger", fn := fun _ => fun
  | [d1, d2] => { results := [.lit (.bool true)], args := [d1, d2] }
  | _ => none }
def vaultTriggerRow : OpenClaim := { program := "ytldccnbokbieiaagreat", sum := "236c5a7ed8512e74ad5d6b705a44b6a9f96af4f46aaab34038fc35ede36cd93f", func := "entail/entaillaw21.VaultTrigger", spec := "vaultTrigger", inPlace := ["internal/bytealg.Compare", "math/bits.Add64", "math/bits.Sub64"], unfollowed := true, recurses := true, apart := false }
def VaultTriggerSaid : Prop := vaultTriggerRow.holds Tryz.pinned (OpenSpec.ofChange vaultTriggerSpec)

/-- ITS FALSE NEIGHBOUR: 'it returns false'. Refute it at one input. -/
def vaultTriggerWrong : ChangeSpec := { name := "vaultTrigger", fn := fun _ => fun
  | [d1, d2] => { results := [.lit (.bool false)], args := [d1, d2] }
  | _ => none }
def VaultTriggerWrongFalsely : Prop := vaultTriggerRow.holds Tryz.pinned (OpenSpec.ofChange vaultTriggerWrong)

/-- 'entaillaw21.VaultWhole': WHATEVER THE INPUT: true; the input reads as it did. -/
def vaultWholeSpec : ChangeSpec := { name := "vaultWhole", fn := fun _ => fun
  | [d1, d2, d3] => { results := [.lit (.bool true)], args := [d1, d2, d3] }
  | _ => none }
def vaultWholeRow : OpenClaim := { program := "ytldccnbokbieiaagreat", sum := "236c5a7ed8512e74ad5d6b705a44b6a9f96af4f46aaab34038fc35ede36cd93f", func := "entail/entaillaw21.VaultWhole", spec := "vaultWhole", inPlace := ["internal/bytealg.Compare", "math/bits.Add64", "math/bits.Sub64"], unfollowed := true, recurses := true, apart := false }
def VaultWholeSaid : Prop := vaultWholeRow.holds Tryz.pinned (OpenSpec.ofChange vaultWholeSpec)

/-- ITS FALSE NEIGHBOUR: 'it returns false'. Refute it at one input. -/
def vaultWholeWrong : ChangeSpec := { name := "vaultWhole", fn := fun _ => fun
  | [d1, d2, d3] => { results := [.lit (.bool false)], args := [d1, d2, d3] }
  | _ => none }
def VaultWholeWrongFalsely : Prop := vaultWholeRow.holds Tryz.pinned (OpenSpec.ofChange vaultWholeWrong)

/-- 'entaillaw23.PlanWitnesses': WHATEVER THE INPUT: true; the input reads as it did. -/
def planWitnessesSpec : ChangeSpec := { name := "planWitnesses", fn := fun _ => fun
  | [d1, d2, d3] => { results := [.lit (.bool true)], args := [d1, d2, d3] }
  | _ => none }
def planWitnessesRow : OpenClaim := { program := "ytldccnbokbieiaagreat", sum := "236c5a7ed8512e74ad5d6b705a44b6a9f96af4f46aaab34038fc35ede36cd93f", func := "entail/entaillaw23.PlanWitnesses", spec := "planWitnesses", inPlace := ["internal/bytealg.Compare", "math/bits.Add64", "math/bits.Sub64"], unfollowed := true, recurses := true, apart := false }
def PlanWitnessesSaid : Prop := planWitnessesRow.holds Tryz.pinned (OpenSpec.ofChange planWitnessesSpec)

/-- ITS FALSE NEIGHBOUR: 'it returns false'. Refute it at one input. -/
def planWitnessesWrong : ChangeSpec := { name := "planWitnesses", fn := fun _ => fun
  | [d1, d2, d3] => { results := [.lit (.bool false)], args := [d1, d2, d3] }
  | _ => none }
def PlanWitnessesWrongFalsely : Prop := planWitnessesRow.holds Tryz.pinned (OpenSpec.ofChange planWitnessesWrong)

/-- 'entaillaw23.PlanMessage': WHATEVER THE INPUT: true; the input reads as it did. -/
def planMessageSpec : ChangeSpec := { name := "planMessage", fn := fun _ => fun
  | [d1, d2] => { results := [.lit (.bool true)], args := [d1, d2] }
  | _ => none }
def planMessageRow : OpenClaim := { program := "ytldccnbokbieiaagreat", sum := "236c5a7ed8512e74ad5d6b705a44b6a9f96af4f46aaab34038fc35ede36cd93f", func := "entail/entaillaw23.PlanMessage", spec := "planMessage", inPlace := ["internal/bytealg.Compare", "math/bits.Add64", "math/bits.Sub64"], unfollowed := true, recurses := true, apart := false }
def PlanMessageSaid : Prop := planMessageRow.holds Tryz.pinned (OpenSpec.ofChange planMessageSpec)

/-- ITS FALSE NEIGHBOUR: 'it returns false'. Refute it at one input. -/
def planMessageWrong : ChangeSpec := { name := "planMessage", fn := fun _ => fun
  | [d1, d2] => { results := [.lit (.bool false)], args := [d1, d2] }
  | _ => none }
def PlanMessageWrongFalsely : Prop := planMessageRow.holds Tryz.pinned (OpenSpec.ofChange planMessageWrong)

/- THE SECOND FORM. 'bulk': how many values and letters a reading holds, each counted each time it is reached (what is shared counts as often as it is met; a slice's spare places count too). A statement '..UptoSaid' is the law's where the arguments, and the package variables that the reading takes, are together of bulk at most 1048576: NARROWER than '..Said'. Prove '..Said' where nothing that the law and all that it calls make is longer than what came in: it says more and counts as full. Else prove '..UptoSaid'. A law counts once. -/
mutual
def uptoBulk {H : Type} : DataW H → Nat
  | .lit (.string bytes) => bytes.length + 1
  | .lit _ => 1
  | .nil => 1
  | .ptr d => uptoBulk d + 1
  | .slice elems spare => uptoBulkAll elems + uptoBulkAll spare + 1
  | .agg parts => uptoBulkAll parts + 1
  | .iface _ d => uptoBulk d + 1
  | .map entries => uptoBulkEntries entries + 1
  | .held _ => 1
def uptoBulkAll {H : Type} : List (DataW H) → Nat
  | [] => 0
  | d :: r => uptoBulk d + uptoBulkAll r
def uptoBulkEntries {H : Type} : List (Lit × DataW H) → Nat
  | [] => 0
  | x :: r => uptoBulkEntry x + uptoBulkEntries r
def uptoBulkEntry {H : Type} : Lit × DataW H → Nat
  | (.string bytes, d) => bytes.length + uptoBulk d + 1
  | (_, d) => uptoBulk d + 1
 end
def uptoSmall : (H : Type) → List (DataW H) → Bool := fun _ ds => decide (uptoBulkAll ds ≤ 1048576)
def OpenSpec.upto (s : _root_.Go.ChangeSpec) : _root_.Go.OpenSpec := { _root_.Go.OpenSpec.ofChange s with cond := some uptoSmall }

/-- 'entaillaw16.TreeCheck', WHERE WHAT IT READS IS OF BULK AT MOST 1048576: true; the input reads as it did. -/
def treeCheckUptoRow : OpenClaim := { program := "ytldccnbokbieiaagreat", sum := "236c5a7ed8512e74ad5d6b705a44b6a9f96af4f46aaab34038fc35ede36cd93f", func := "entail/entaillaw16.TreeCheck", spec := "treeCheck", inPlace := ["internal/bytealg.Compare", "math/bits.Add64", "math/bits.Sub64"], recurses := true, apart := false, narrowed := true }
def TreeCheckUptoSaid : Prop := treeCheckUptoRow.holds Tryz.pinned (OpenSpec.upto treeCheckSpec)

/-- 'entaillaw16.TreeOutput', WHERE WHAT IT READS IS OF BULK AT MOST 1048576: true; the input reads as it did. -/
def treeOutputUptoRow : OpenClaim := { program := "ytldccnbokbieiaagreat", sum := "236c5a7ed8512e74ad5d6b705a44b6a9f96af4f46aaab34038fc35ede36cd93f", func := "entail/entaillaw16.TreeOutput", spec := "treeOutput", inPlace := ["internal/bytealg.Compare", "math/bits.Add64", "math/bits.Sub64"], recurses := true, apart := false, narrowed := true }
def TreeOutputUptoSaid : Prop := treeOutputUptoRow.holds Tryz.pinned (OpenSpec.upto treeOutputSpec)

/-- 'entaillaw16.TreePlant', WHERE WHAT IT READS IS OF BULK AT MOST 1048576: true; the input reads as it did. -/
def treePlantUptoRow : OpenClaim := { program := "ytldccnbokbieiaagreat", sum := "236c5a7ed8512e74ad5d6b705a44b6a9f96af4f46aaab34038fc35ede36cd93f", func := "entail/entaillaw16.TreePlant", spec := "treePlant", inPlace := ["internal/bytealg.Compare", "math/bits.Add64", "math/bits.Sub64"], unfollowed := true, recurses := true, apart := false, narrowed := true }
def TreePlantUptoSaid : Prop := treePlantUptoRow.holds Tryz.pinned (OpenSpec.upto treePlantSpec)

/-- 'entaillaw23.PlanLeaves', WHERE WHAT IT READS IS OF BULK AT MOST 1048576: true; the input reads as it did. -/
def planLeavesUptoRow : OpenClaim := { program := "ytldccnbokbieiaagreat", sum := "236c5a7ed8512e74ad5d6b705a44b6a9f96af4f46aaab34038fc35ede36cd93f", func := "entail/entaillaw23.PlanLeaves", spec := "planLeaves", inPlace := ["internal/bytealg.Compare", "math/bits.Add64", "math/bits.Sub64"], unfollowed := true, recurses := true, apart := false, narrowed := true }
def PlanLeavesUptoSaid : Prop := planLeavesUptoRow.holds Tryz.pinned (OpenSpec.upto planLeavesSpec)

/-- 'entaillaw21.VaultTrigger', WHERE WHAT IT READS IS OF BULK AT MOST 1048576: true; the input reads as it did. -/
def vaultTriggerUptoRow : OpenClaim := { program := "ytldccnbokbieiaagreat", sum := "236c5a7ed8512e74ad5d6b705a44b6a9f96af4f46aaab34038fc35ede36cd93f", func := "entail/entaillaw21.VaultTrigger", spec := "vaultTrigger", inPlace := ["internal/bytealg.Compare", "math/bits.Add64", "math/bits.Sub64"], unfollowed := true, recurses := true, apart := false, narrowed := true }
def VaultTriggerUptoSaid : Prop := vaultTriggerUptoRow.holds Tryz.pinned (OpenSpec.upto vaultTriggerSpec)

/-- 'entaillaw21.VaultWhole', WHERE WHAT IT READS IS OF BULK AT MOST 1048576: true; the input reads as it did. -/
def vaultWholeUptoRow : OpenClaim := { program := "ytldccnbokbieiaagreat", sum := "236c5a7ed8512e74ad5d6b705a44b6a9f96af4f46aaab34038fc35ede36cd93f", func := "entail/entaillaw21.VaultWhole", spec := "vaultWhole", inPlace := ["internal/bytealg.Compare", "math/bits.Add64", "math/bits.Sub64"], unfollowed := true, recurses := true, apart := false, narrowed := true }
def VaultWholeUptoSaid : Prop := vaultWholeUptoRow.holds Tryz.pinned (OpenSpec.upto vaultWholeSpec)

/-- 'entaillaw23.PlanWitnesses', WHERE WHAT IT READS IS OF BULK AT MOST 1048576: true; the input reads as it did. -/
def planWitnessesUptoRow : OpenClaim := { program := "ytldccnbokbieiaagreat", sum := "236c5a7ed8512e74ad5d6b705a44b6a9f96af4f46aaab34038fc35ede36cd93f", func := "entail/entaillaw23.PlanWitnesses", spec := "planWitnesses", inPlace := ["internal/bytealg.Compare", "math/bits.Add64", "math/bits.Sub64"], unfollowed := true, recurses := true, apart := false, narrowed := true }
def PlanWitnessesUptoSaid : Prop := planWitnessesUptoRow.holds Tryz.pinned (OpenSpec.upto planWitnessesSpec)

/-- 'entaillaw23.PlanMessage', WHERE WHAT IT READS IS OF BULK AT MOST 1048576: true; the input reads as it did. -/
def planMessageUptoRow : OpenClaim := { program := "ytldccnbokbieiaagreat", sum := "236c5a7ed8512e74ad5d6b705a44b6a9f96af4f46aaab34038fc35ede36cd93f", func := "entail/entaillaw23.PlanMessage", spec := "planMessage", inPlace := ["internal/bytealg.Compare", "math/bits.Add64", "math/bits.Sub64"], unfollowed := true, recurses := true, apart := false, narrowed := true }
def PlanMessageUptoSaid : Prop := planMessageUptoRow.holds Tryz.pinned (OpenSpec.upto planMessageSpec)

end Rows
end Go.Proofs.YtldccnbokbieiaaGreat
