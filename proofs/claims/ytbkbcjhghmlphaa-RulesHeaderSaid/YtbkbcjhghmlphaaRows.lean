/-
  No cell of these rows narrows 'for every input' (looked for: loops, veiled, ifaces, maps, wideKeys, modest, calm, conditions, laid).
  DERIVED. THE GIVEN ROWS OF THIS SEAT. 8 by the template 'for every input the law returns true; each argument reads behind the call as it read before'; 0 by the template 'total and deterministic' (their statements: YtbkbcjhghmlphaaTotals.lean).
  GIVEN WITH THE SEED: the statements are not yours to turn. If you find one false, say at which input.
  Laid BY PROGRAM, IN A SANDBOX (cutbox-rows.mjs): the forced cells as the released guide's own fill.sh prints them over the translation 6ddd8919f3872343… (all of the seat's roots in one cut). By AI agents, Wed Nov 11 2026. No macro, syntax, notation, axiom, sorry.
-/
import Derived.Test.YtbkbcjhghmlphaaChecked
import GoSem.Claim
import GoSem.ClaimJoined
import GoSem.ClaimMapViews
import Derived.JoinedTies
import Derived.KernelRfl
namespace Go.Proofs.Ytbkbcjhghmlphaa
/- THE CELL 'sum', in the pinned program and in every row, IS THE sha256 OF THE DUMP (.gsa) THAT YtbkbcjhghmlphaaProg.lean LOADS. Nothing in Lean hashes anything: it is a label: what it is worth is what the hold of that sum in a sandbox is worth. -/
noncomputable def Try.pinned : Pinned := { name := "ytbkbcjhghmlphaa", sum := "6ddd8919f3872343b62ec34d8bab8f5bdf8b90f10fc9bf078590eb6581f12550", checked := Try.checked }
namespace Rows
def none {H : Type} : Left H := { results := [], args := [] }

/-- 'entaillaw16.TreeHashes': WHATEVER THE INPUT: true; the input reads as it did. -/
def treeHashesSpec : ChangeSpec := { name := "treeHashes", fn := fun _ => fun
  | [d1, d2, d3] => { results := [.lit (.bool true)], args := [d1, d2, d3] }
  | _ => none }
def treeHashesRow : OpenClaim := { program := "ytbkbcjhghmlphaa", sum := "6ddd8919f3872343b62ec34d8bab8f5bdf8b90f10fc9bf078590eb6581f12550", func := "entail/entaillaw16.TreeHashes", spec := "treeHashes", inPlace := ["internal/bytealg.Compare"], recurses := true, plainKeys := false, apart := false }
def TreeHashesSaid : Prop := treeHashesRow.holds Try.pinned (OpenSpec.ofChange treeHashesSpec)

/-- ITS FALSE NEIGHBOUR: 'it returns false'. Refute it at one input. -/
def treeHashesWrong : ChangeSpec := { name := "treeHashes", fn := fun _ => fun
  | [d1, d2, d3] => { results := [.lit (.bool false)], args := [d1, d2, d3] }
  | _ => none }
def TreeHashesWrongFalsely : Prop := treeHashesRow.holds Try.pinned (OpenSpec.ofChange treeHashesWrong)

/-- 'entaillaw16.TreeSorted': WHATEVER THE INPUT: true; the input reads as it did. -/
def treeSortedSpec : ChangeSpec := { name := "treeSorted", fn := fun _ => fun
  | [d1, d2, d3] => { results := [.lit (.bool true)], args := [d1, d2, d3] }
  | _ => none }
def treeSortedRow : OpenClaim := { program := "ytbkbcjhghmlphaa", sum := "6ddd8919f3872343b62ec34d8bab8f5bdf8b90f10fc9bf078590eb6581f12550", func := "entail/entaillaw16.TreeSorted", spec := "treeSorted", inPlace := ["internal/bytealg.Compare"], recurses := true, plainKeys := false, apart := false }
def TreeSortedSaid : Prop := treeSortedRow.holds Try.pinned (OpenSpec.ofChange treeSortedSpec)

/-- ITS FALSE NEIGHBOUR: 'it returns false'. Refute it at one input. -/
def treeSortedWrong : ChangeSpec := { name := "treeSorted", fn := fun _ => fun
  | [d1, d2, d3] => { results := [.lit (.bool false)], args := [d1, d2, d3] }
  | _ => none }
def TreeSortedWrongFalsely : Prop := treeSortedRow.holds Try.pinned (OpenSpec.ofChange treeSortedWrong)

/-- 'entaillaw21.VaultScripts': WHATEVER THE INPUT: true; the input reads as it did. -/
def vaultScriptsSpec : ChangeSpec := { name := "vaultScripts", fn := fun _ => fun
  | [d1, d2] => { results := [.lit (.bool true)], args := [d1, d2] }
  | _ => none }
def vaultScriptsRow : OpenClaim := { program := "ytbkbcjhghmlphaa", sum := "6ddd8919f3872343b62ec34d8bab8f5bdf8b90f10fc9bf078590eb6581f12550", func := "entail/entaillaw21.VaultScripts", spec := "vaultScripts", recurses := true, plainKeys := false, apart := false }
def VaultScriptsSaid : Prop := vaultScriptsRow.holds Try.pinned (OpenSpec.ofChange vaultScriptsSpec)

/-- ITS FALSE NEIGHBOUR: 'it returns false'. Refute it at one input. -/
def vaultScriptsWrong : ChangeSpec := { name := "vaultScripts", fn := fun _ => fun
  | [d1, d2] => { results := [.lit (.bool false)], args := [d1, d2] }
  | _ => none }
def VaultScriptsWrongFalsely : Prop := vaultScriptsRow.holds Try.pinned (OpenSpec.ofChange vaultScriptsWrong)

/-- 'entaillaw21.VaultRecover': WHATEVER THE INPUT: true; the input reads as it did. -/
def vaultRecoverSpec : ChangeSpec := { name := "vaultRecover", fn := fun _ => fun
  | [d1, d2, d3] => { results := [.lit (.bool true)], args := [d1, d2, d3] }
  | _ => none }
def vaultRecoverRow : OpenClaim := { program := "ytbkbcjhghmlphaa", sum := "6ddd8919f3872343b62ec34d8bab8f5bdf8b90f10fc9bf078590eb6581f12550", func := "entail/entaillaw21.VaultRecover", spec := "vaultRecover", unfollowed := true, recurses := true, plainKeys := false, apart := false }
def VaultRecoverSaid : Prop := vaultRecoverRow.holds Try.pinned (OpenSpec.ofChange vaultRecoverSpec)

/-- ITS FALSE NEIGHBOUR: 'it returns false'. Refute it at one input. -/
def vaultRecoverWrong : ChangeSpec := { name := "vaultRecover", fn := fun _ => fun
  | [d1, d2, d3] => { results := [.lit (.bool false)], args := [d1, d2, d3] }
  | _ => none }
def VaultRecoverWrongFalsely : Prop := vaultRecoverRow.holds Try.pinned (OpenSpec.ofChange vaultRecoverWrong)

/-- 'entaillaw26.RulesAlone': WHATEVER THE INPUT: true; the input reads as it did. -/
def rulesAloneSpec : ChangeSpec := { name := "rulesAlone", fn := fun _ => fun
  | [d1, d2, d3] => { results := [.lit (.bool true)], args := [d1, d2, d3] }
  | _ => none }
def rulesAloneRow : OpenClaim := { program := "ytbkbcjhghmlphaa", sum := "6ddd8919f3872343b62ec34d8bab8f5bdf8b90f10fc9bf078590eb6581f12550", func := "entail/entaillaw26.RulesAlone", spec := "rulesAlone", unfollowed := true, recurses := true, plainKeys := false, apart := false }
def RulesAloneSaid : Prop := rulesAloneRow.holds Try.pinned (OpenSpec.ofChange rulesAloneSpec)

/-- ITS FALSE NEIGHBOUR: 'it returns false'. Refute it at one input. -/
def rulesAloneWrong : ChangeSpec := { name := "rulesAlone", fn := fun _ => fun
  | [d1, d2, d3] => { results := [.lit (.bool false)], args := [d1, d2, d3] }
  | _ => none }
def RulesAloneWrongFalsely : Prop := rulesAloneRow.holds Try.pinned (OpenSpec.ofChange rulesAloneWrong)

/-- 'entaillaw26.RulesCoins': WHATEVER THE INPUT: true; the input reads as it did. -/
def rulesCoinsSpec : ChangeSpec := { name := "rulesCoins", fn := fun _ => fun
  | [d1, d2, d3] => { results := [.lit (.bool true)], args := [d1, d2, d3] }
  | _ => none }
def rulesCoinsRow : OpenClaim := { program := "ytbkbcjhghmlphaa", sum := "6ddd8919f3872343b62ec34d8bab8f5bdf8b90f10fc9bf078590eb6581f12550", func := "entail/entaillaw26.RulesCoins", spec := "rulesCoins", unfollowed := true, recurses := true, plainKeys := false, apart := false }
def RulesCoinsSaid : Prop := rulesCoinsRow.holds Try.pinned (OpenSpec.ofChange rulesCoinsSpec)

/-- ITS FALSE NEIGHBOUR: 'it returns false'. Refute it at one input. -/
def rulesCoinsWrong : ChangeSpec := { name := "rulesCoins", fn := fun _ => fun
  | [d1, d2, d3] => { results := [.lit (.bool false)], args := [d1, d2, d3] }
  | _ => none }
def RulesCoinsWrongFalsely : Prop := rulesCoinsRow.holds Try.pinned (OpenSpec.ofChange rulesCoinsWrong)

/-- 'entaillaw26.RulesMined': WHATEVER THE INPUT: true; the input reads as it did. -/
def rulesMinedSpec : ChangeSpec := { name := "rulesMined", fn := fun _ => fun
  | [d1, d2] => { results := [.lit (.bool true)], args := [d1, d2] }
  | _ => none }
def rulesMinedRow : OpenClaim := { program := "ytbkbcjhghmlphaa", sum := "6ddd8919f3872343b62ec34d8bab8f5bdf8b90f10fc9bf078590eb6581f12550", func := "entail/entaillaw26.RulesMined", spec := "rulesMined", unfollowed := true, recurses := true, plainKeys := false, apart := false }
def RulesMinedSaid : Prop := rulesMinedRow.holds Try.pinned (OpenSpec.ofChange rulesMinedSpec)

/-- ITS FALSE NEIGHBOUR: 'it returns false'. Refute it at one input. -/
def rulesMinedWrong : ChangeSpec := { name := "rulesMined", fn := fun _ => fun
  | [d1, d2] => { results := [.lit (.bool false)], args := [d1, d2] }
  | _ => none }
def RulesMinedWrongFalsely : Prop := rulesMinedRow.holds Try.pinned (OpenSpec.ofChange rulesMinedWrong)

/-- 'entaillaw26.RulesHeader': WHATEVER THE INPUT: true; the input reads as it did. -/
def rulesHeaderSpec : ChangeSpec := { name := "rulesHeader", fn := fun _ => fun
  | [d1, d2, d3] => { results := [.lit (.bool true)], args := [d1, d2, d3] }
  | _ => none }
def rulesHeaderRow : OpenClaim := { program := "ytbkbcjhghmlphaa", sum := "6ddd8919f3872343b62ec34d8bab8f5bdf8b90f10fc9bf078590eb6581f12550", func := "entail/entaillaw26.RulesHeader", spec := "rulesHeader", unfollowed := true, recurses := true, plainKeys := false, apart := false }
def RulesHeaderSaid : Prop := rulesHeaderRow.holds Try.pinned (OpenSpec.ofChange rulesHeaderSpec)

/-- ITS FALSE NEIGHBOUR: 'it returns false'. Refute it at one input. -/
def rulesHeaderWrong : ChangeSpec := { name := "rulesHeader", fn := fun _ => fun
  | [d1, d2, d3] => { results := [.lit (.bool false)], args := [d1, d2, d3] }
  | _ => none }
def RulesHeaderWrongFalsely : Prop := rulesHeaderRow.holds Try.pinned (OpenSpec.ofChange rulesHeaderWrong)

/- THE SECOND FORM. 'bulk': how many values and letters a reading holds, each counted each time it is reached (what is shared counts as often as it is met; a slice's spare places count too). A statement '..UptoSaid' is the law's where the arguments, and the package variables that the reading takes, are together of bulk at most 1048576: NARROWER than '..Said'. Prove '..Said' where nothing that the law and all that it calls make is longer than what came in: it says more and counts as full. Else prove '..UptoSaid'. A law counts once. -/
mutual
def uptoBulk {H : Type} : DataW H → Nat
  | .lit (.string bytes) => bytes.length + 1
  | .lit _ => 1
  | .nil => 1
  | .ptr d => uptoBulk d + 1
  | .slice elems spare => uptoBulkAll elems + uptoBulkAll spare + 1
  | .agg parts => uptoBulkAll parts + 1
  | .iface _ d => uptoBulk d + 1
  | .map entries => uptoBulkEntries entries + 1
  | .held _ => 1
def uptoBulkAll {H : Type} : List (DataW H) → Nat
  | [] => 0
  | d :: r => uptoBulk d + uptoBulkAll r
def uptoBulkEntries {H : Type} : List (Lit × DataW H) → Nat
  | [] => 0
  | x :: r => uptoBulkEntry x + uptoBulkEntries r
def uptoBulkEntry {H : Type} : Lit × DataW H → Nat
  | (.string bytes, d) => bytes.length + uptoBulk d + 1
  | (_, d) => uptoBulk d + 1
 end
def uptoSmall : (H : Type) → List (DataW H) → Bool := fun _ ds => decide (uptoBulkAll ds ≤ 1048576)
def OpenSpec.upto (s : _root_.Go.ChangeSpec) : _root_.Go.OpenSpec := { _root_.Go.OpenSpec.ofChange s with cond := some uptoSmall }

/-- 'entaillaw16.TreeHashes', WHERE WHAT IT READS IS OF BULK AT MOST 1048576: true; the input reads as it did. -/
def treeHashesUptoRow : OpenClaim := { program := "ytbkbcjhghmlphaa", sum := "6ddd8919f3872343b62ec34d8bab8f5bdf8b90f10fc9bf078590eb6581f12550", func := "entail/entaillaw16.TreeHashes", spec := "treeHashes", inPlace := ["internal/bytealg.Compare"], recurses := true, plainKeys := false, apart := false, narrowed := true }
def TreeHashesUptoSaid : Prop := treeHashesUptoRow.holds Try.pinned (OpenSpec.upto treeHashesSpec)

/-- 'entaillaw16.TreeSorted', WHERE WHAT IT READS IS OF BULK AT MOST 1048576: true; the input reads as it did. -/
def treeSortedUptoRow : OpenClaim := { program := "ytbkbcjhghmlphaa", sum := "6ddd8919f3872343b62ec34d8bab8f5bdf8b90f10fc9bf078590eb6581f12550", func := "entail/entaillaw16.TreeSorted", spec := "treeSorted", inPlace := ["internal/bytealg.Compare"], recurses := true, plainKeys := false, apart := false, narrowed := true }
def TreeSortedUptoSaid : Prop := treeSortedUptoRow.holds Try.pinned (OpenSpec.upto treeSortedSpec)

/-- 'entaillaw21.VaultScripts', WHERE WHAT IT READS IS OF BULK AT MOST 1048576: true; the input reads as it did. -/
def vaultScriptsUptoRow : OpenClaim := { program := "ytbkbcjhghmlphaa", sum := "6ddd8919f3872343b62ec34d8bab8f5bdf8b90f10fc9bf078590eb6581f12550", func := "entail/entaillaw21.VaultScripts", spec := "vaultScripts", recurses := true, plainKeys := false, apart := false, narrowed := true }
def VaultScriptsUptoSaid : Prop := vaultScriptsUptoRow.holds Try.pinned (OpenSpec.upto vaultScriptsSpec)

/-- 'entaillaw21.VaultRecover', WHERE WHAT IT READS IS OF BULK AT MOST 1048576: true; the input reads as it did. -/
def vaultRecoverUptoRow : OpenClaim := { program := "ytbkbcjhghmlphaa", sum := "6ddd8919f3872343b62ec34d8bab8f5bdf8b90f10fc9bf078590eb6581f12550", func := "entail/entaillaw21.VaultRecover", spec := "vaultRecover", unfollowed := true, recurses := true, plainKeys := false, apart := false, narrowed := true }
def VaultRecoverUptoSaid : Prop := vaultRecoverUptoRow.holds Try.pinned (OpenSpec.upto vaultRecoverSpec)

/-- 'entaillaw26.RulesAlone', WHERE WHAT IT READS IS OF BULK AT MOST 1048576: true; the input reads as it did. -/
def rulesAloneUptoRow : OpenClaim := { program := "ytbkbcjhghmlphaa", sum := "6ddd8919f3872343b62ec34d8bab8f5bdf8b90f10fc9bf078590eb6581f12550", func := "entail/entaillaw26.RulesAlone", spec := "rulesAlone", unfollowed := true, recurses := true, plainKeys := false, apart := false, narrowed := true }
def RulesAloneUptoSaid : Prop := rulesAloneUptoRow.holds Try.pinned (OpenSpec.upto rulesAloneSpec)

/-- 'entaillaw26.RulesCoins', WHERE WHAT IT READS IS OF BULK AT MOST 1048576: true; the input reads as it did. -/
def rulesCoinsUptoRow : OpenClaim := { program := "ytbkbcjhghmlphaa", sum := "6ddd8919f3872343b62ec34d8bab8f5bdf8b90f10fc9bf078590eb6581f12550", func := "entail/entaillaw26.RulesCoins", spec := "rulesCoins", unfollowed := true, recurses := true, plainKeys := false, apart := false, narrowed := true }
def RulesCoinsUptoSaid : Prop := rulesCoinsUptoRow.holds Try.pinned (OpenSpec.upto rulesCoinsSpec)

/-- 'entaillaw26.RulesMined', WHERE WHAT IT READS IS OF BULK AT MOST 1048576: true; the input reads as it did. -/
def rulesMinedUptoRow : OpenClaim := { program := "ytbkbcjhghmlphaa", sum := "6ddd8919f3872343b62ec34d8bab8f5bdf8b90f10fc9bf078590eb6581f12550", func := "entail/entaillaw26.RulesMined", spec := "rulesMined", unfollowed := true, recurses := true, plainKeys := false, apart := false, narrowed := true }
def RulesMinedUptoSaid : Prop := rulesMinedUptoRow.holds Try.pinned (OpenSpec.upto rulesMinedSpec)

/-- 'entaillaw26.RulesHeader', WHERE WHAT IT READS IS OF BULK AT MOST 1048576: true; the input reads as it did. -/
def rulesHeaderUptoRow : OpenClaim := { program := "ytbkbcjhghmlphaa", sum := "6ddd8919f3872343b62ec34d8bab8f5bdf8b90f10fc9bf078590eb6581f12550", func := "entail/entaillaw26.RulesHeader", spec := "rulesHeader", unfollowed := true, recurses := true, plainKeys := false, apart := false, narrowed := true }
def RulesHeaderUptoSaid : Prop := rulesHeaderUptoRow.holds Try.pinned (OpenSpec.upto rulesHeaderSpec)

end Rows
end Go.Proofs.Ytbkbcjhghmlphaa
