/-
  No cell of these rows narrows 'for every input' (looked for: loops, veiled, ifaces, maps, wideKeys, modest, calm, conditions, laid).
  DERIVED. THE GIVEN ROWS OF THIS SEAT. 5 by the template 'for every input the law returns true; each argument reads behind the call as it read before'; 0 by the template 'total and deterministic' (their statements: YtfahccoobfjkeaaGreatTotals.lean).
  GIVEN WITH THE SEED: the statements are not yours to turn. If you find one false, say at which input.
  Laid BY PROGRAM, IN A SANDBOX (cutbox-rows.mjs): the forced cells as the released guide's own fill.sh prints them over the translation 6abaedc32a457124… (all of the seat's roots in one cut). By AI agents, Wed Nov 11 2026. No macro, syntax, notation, axiom, sorry.
-/
import Derived.Test.YtfahccoobfjkeaaGreatChecked
import GoSem.Claim
import GoSem.ClaimJoined
import GoSem.ClaimMapViews
import Derived.JoinedTies
import Derived.KernelRfl
namespace Go.Proofs.YtfahccoobfjkeaaGreat
/- THE CELL 'sum', in the pinned program and in every row, IS THE sha256 OF THE DUMP (.gsa) THAT YtfahccoobfjkeaaGreatProg.lean LOADS. Nothing in Lean hashes anything: it is a label: what it is worth is what the hold of that sum in a sandbox is worth. -/
noncomputable def Tryz.pinned : Pinned := { name := "ytfahccoobfjkeaagreat", sum := "6abaedc32a457124d8ccfcf4aa0e81cb314f6f072f5b3fa4239886ea6642be94", checked := Tryz.checked }
namespace Rows
def none {H : Type} : Left H := { results := [], args := [] }

/-- 'entaillaw31.VaultsReady': WHATEVER THE INPUT: true; the input reads as it did. -/
def vaultsReadySpec : ChangeSpec := { name := "vaultsReady", fn := fun _ => fun
  | [d1, d2, d3] => { results := [.lit (.bool true)], args := [d1, d2, d3] }
  | _ => none }
def vaultsReadyRow : OpenClaim := { program := "ytfahccoobfjkeaagreat", sum := "6abaedc32a457124d8ccfcf4aa0e81cb314f6f072f5b3fa4239886ea6642be94", func := "entail/entaillaw31.VaultsReady", spec := "vaultsReady", inPlace := ["internal/bytealg.Compare", "math/bits.Add64", "math/bits.Sub64"], unfollowed := true, recurses := true, apart := false }
def VaultsReadySaid : Prop := vaultsReadyRow.holds Tryz.pinned (OpenSpec.ofChange vaultsReadySpec)

/-- ITS FALSE NEIGHBOUR: 'it returns false'. Refute it at one input. -/
def vaultsReadyWrong : ChangeSpec := { name := "vaultsReady", fn := fun _ => fun
  | [d1, d2, d3] => { results := [.lit (.bool false)], args := [d1, d2, d3] }
  | _ => none }
def VaultsReadyWrongFalsely : Prop := vaultsReadyRow.holds Tryz.pinned (OpenSpec.ofChange vaultsReadyWrong)

/-- 'entaillaw31.VaultsUndone': WHATEVER THE INPUT: true; the input reads as it did. -/
def vaultsUndoneSpec : ChangeSpec := { name := "vaultsUndone", fn := fun _ => fun
  | [d1, d2, d3] => { results := [.lit (.bool true)], args := [d1, d2, d3] }
  | _ => none }
def vaultsUndoneRow : OpenClaim := { program := "ytfahccoobfjkeaagreat", sum := "6abaedc32a457124d8ccfcf4aa0e81cb314f6f072f5b3fa4239886ea6642be94", func := "entail/entaillaw31.VaultsUndone", spec := "vaultsUndone", inPlace := ["internal/bytealg.Compare", "math/bits.Add64", "math/bits.Sub64"], unfollowed := true, recurses := true, apart := false }
def VaultsUndoneSaid : Prop := vaultsUndoneRow.holds Tryz.pinned (OpenSpec.ofChange vaultsUndoneSpec)

/-- ITS FALSE NEIGHBOUR: 'it returns false'. Refute it at one input. -/
def vaultsUndoneWrong : ChangeSpec := { name := "vaultsUndone", fn := fun _ => fun
  | [d1, d2, d3] => { results := [.lit (.bool false)], args := [d1, d2, d3] }
  | _ => none }
def VaultsUndoneWrongFalsely : Prop := vaultsUndoneRow.holds Tryz.pinned (OpenSpec.ofChange vaultsUndoneWrong)

/-- 'entaillaw31.VaultsStates': WHATEVER THE INPUT: true; the input reads as it did. -/
def vaultsStatesSpec : ChangeSpec := { name := "vaultsStates", fn := fun _ => fun
  | [d1, d2, d3] => { results := [.lit (.bool true)], args := [d1, d2, d3] }
  | _ => none }
def vaultsStatesRow : OpenClaim := { program := "ytfahccoobfjkeaagreat", sum := "6abaedc32a457124d8ccfcf4aa0e81cb314f6f072f5b3fa4239886ea6642be94", func := "entail/entaillaw31.VaultsStates", spec := "vaultsStates", inPlace := ["internal/bytealg.Compare", "math/bits.Add64", "math/bits.Sub64"], unfollowed := true, recurses := true, apart := false }
def VaultsStatesSaid : Prop := vaultsStatesRow.holds Tryz.pinned (OpenSpec.ofChange vaultsStatesSpec)

/-- ITS FALSE NEIGHBOUR: 'it returns false'. Refute it at one input. -/
def vaultsStatesWrong : ChangeSpec := { name := "vaultsStates", fn := fun _ => fun
  | [d1, d2, d3] => { results := [.lit (.bool false)], args := [d1, d2, d3] }
  | _ => none }
def VaultsStatesWrongFalsely : Prop := vaultsStatesRow.holds Tryz.pinned (OpenSpec.ofChange vaultsStatesWrong)

/-- 'entaillaw31.VaultsPlays': WHATEVER THE INPUT: true; the input reads as it did. -/
def vaultsPlaysSpec : ChangeSpec := { name := "vaultsPlays", fn := fun _ => fun
  | [d1, d2, d3] => { results := [.lit (.bool true)], args := [d1, d2, d3] }
  | _ => none }
def vaultsPlaysRow : OpenClaim := { program := "ytfahccoobfjkeaagreat", sum := "6abaedc32a457124d8ccfcf4aa0e81cb314f6f072f5b3fa4239886ea6642be94", func := "entail/entaillaw31.VaultsPlays", spec := "vaultsPlays", inPlace := ["internal/bytealg.Compare", "math/bits.Add64", "math/bits.Sub64"], unfollowed := true, recurses := true, apart := false }
def VaultsPlaysSaid : Prop := vaultsPlaysRow.holds Tryz.pinned (OpenSpec.ofChange vaultsPlaysSpec)

/-- ITS FALSE NEIGHBOUR: 'it returns false'. Refute it at one input. -/
def vaultsPlaysWrong : ChangeSpec := { name := "vaultsPlays", fn := fun _ => fun
  | [d1, d2, d3] => { results := [.lit (.bool false)], args := [d1, d2, d3] }
  | _ => none }
def VaultsPlaysWrongFalsely : Prop := vaultsPlaysRow.holds Tryz.pinned (OpenSpec.ofChange vaultsPlaysWrong)

/-- 'entaillaw31.VaultsPath': WHATEVER THE INPUT: true; the input reads as it did. -/
def vaultsPathSpec : ChangeSpec := { name := "vaultsPath", fn := fun _ => fun
  | [d1, d2, d3] => { results := [.lit (.bool true)], args := [d1, d2, d3] }
  | _ => none }
def vaultsPathRow : OpenClaim := { program := "ytfahccoobfjkeaagreat", sum := "6abaedc32a457124d8ccfcf4aa0e81cb314f6f072f5b3fa4239886ea6642be94", func := "entail/entaillaw31.VaultsPath", spec := "vaultsPath", inPlace := ["internal/bytealg.Compare", "math/bits.Add64", "math/bits.Sub64"], unfollowed := true, recurses := true, apart := false }
def VaultsPathSaid : Prop := vaultsPathRow.holds Tryz.pinned (OpenSpec.ofChange vaultsPathSpec)

/-- ITS FALSE NEIGHBOUR: 'it returns false'. Refute it at one input. -/
def vaultsPathWrong : ChangeSpec := { name := "vaultsPath", fn := fun _ => fun
  | [d1, d2, d3] => { results := [.lit (.bool false)], args := [d1, d2, d3] }
  | _ => none }
def VaultsPathWrongFalsely : Prop := vaultsPathRow.holds Tryz.pinned (OpenSpec.ofChange vaultsPathWrong)

/- THE SECOND FORM. 'bulk': how many values and letters a reading holds, each counted each time it is reached (what is shared counts as often as it is met; a slice's spare places count too). A statement '..UptoSaid' is the law's where the arguments, and the package variables that the reading takes, are together of bulk at most 1048576: NARROWER than '..Said'. Prove '..Said' where nothing that the law and all that it calls make is longer than what came in: it says more and counts as full. Else prove '..UptoSaid'. A law counts once. -/
mutual
def uptoBulk {H : Type} : DataW H → Nat
  | .lit (.string bytes) => bytes.length + 1
  | .lit _ => 1
  | .nil => 1
  | .ptr d => uptoBulk d + 1
  | .slice elems spare => uptoBulkAll elems + uptoBulkAll spare + 1
  | .agg parts => uptoBulkAll parts + 1
  | .iface _ d => uptoBulk d + 1
  | .map entries => uptoBulkEntries entries + 1
  | .held _ => 1
def uptoBulkAll {H : Type} : List (DataW H) → Nat
  | [] => 0
  | d :: r => uptoBulk d + uptoBulkAll r
def uptoBulkEntries {H : Type} : List (Lit × DataW H) → Nat
  | [] => 0
  | x :: r => uptoBulkEntry x + uptoBulkEntries r
def uptoBulkEntry {H : Type} : Lit × DataW H → Nat
  | (.string bytes, d) => bytes.length + uptoBulk d + 1
  | (_, d) => uptoBulk d + 1
 end
def uptoSmall : (H : Type) → List (DataW H) → Bool := fun _ ds => decide (uptoBulkAll ds ≤ 1048576)
def OpenSpec.upto (s : _root_.Go.ChangeSpec) : _root_.Go.OpenSpec := { _root_.Go.OpenSpec.ofChange s with cond := some uptoSmall }

/-- 'entaillaw31.VaultsReady', WHERE WHAT IT READS IS OF BULK AT MOST 1048576: true; the input reads as it did. -/
def vaultsReadyUptoRow : OpenClaim := { program := "ytfahccoobfjkeaagreat", sum := "6abaedc32a457124d8ccfcf4aa0e81cb314f6f072f5b3fa4239886ea6642be94", func := "entail/entaillaw31.VaultsReady", spec := "vaultsReady", inPlace := ["internal/bytealg.Compare", "math/bits.Add64", "math/bits.Sub64"], unfollowed := true, recurses := true, apart := false, narrowed := true }
def VaultsReadyUptoSaid : Prop := vaultsReadyUptoRow.holds Tryz.pinned (OpenSpec.upto vaultsReadySpec)

/-- 'entaillaw31.VaultsUndone', WHERE WHAT IT READS IS OF BULK AT MOST 1048576: true; the input reads as it did. -/
def vaultsUndoneUptoRow : OpenClaim := { program := "ytfahccoobfjkeaagreat", sum := "6abaedc32a457124d8ccfcf4aa0e81cb314f6f072f5b3fa4239886ea6642be94", func := "entail/entaillaw31.VaultsUndone", spec := "vaultsUndone", inPlace := ["internal/bytealg.Compare", "math/bits.Add64", "math/bits.Sub64"], unfollowed := true, recurses := true, apart := false, narrowed := true }
def VaultsUndoneUptoSaid : Prop := vaultsUndoneUptoRow.holds Tryz.pinned (OpenSpec.upto vaultsUndoneSpec)

/-- 'entaillaw31.VaultsStates', WHERE WHAT IT READS IS OF BULK AT MOST 1048576: true; the input reads as it did. -/
def vaultsStatesUptoRow : OpenClaim := { program := "ytfahccoobfjkeaagreat", sum := "6abaedc32a457124d8ccfcf4aa0e81cb314f6f072f5b3fa4239886ea6642be94", func := "entail/entaillaw31.VaultsStates", spec := "vaultsStates", inPlace := ["internal/bytealg.Compare", "math/bits.Add64", "math/bits.Sub64"], unfollowed := true, recurses := true, apart := false, narrowed := true }
def VaultsStatesUptoSaid : Prop := vaultsStatesUptoRow.holds Tryz.pinned (OpenSpec.upto vaultsStatesSpec)

/-- 'entaillaw31.VaultsPlays', WHERE WHAT IT READS IS OF BULK AT MOST 1048576: true; the input reads as it did. -/
def vaultsPlaysUptoRow : OpenClaim := { program := "ytfahccoobfjkeaagreat", sum := "6abaedc32a457124d8ccfcf4aa0e81cb314f6f072f5b3fa4239886ea6642be94", func := "entail/entaillaw31.VaultsPlays", spec := "vaultsPlays", inPlace := ["internal/bytealg.Compare", "math/bits.Add64", "math/bits.Sub64"], unfollowed := true, recurses := true, apart := false, narrowed := true }
def VaultsPlaysUptoSaid : Prop := vaultsPlaysUptoRow.holds Tryz.pinned (OpenSpec.upto vaultsPlaysSpec)

/-- 'entaillaw31.VaultsPath', WHERE WHAT IT READS IS OF BULK AT MOST 1048576: true; the input reads as it did. -/
def vaultsPathUptoRow : OpenClaim := { program := "ytfahccoobfjkeaagreat", sum := "6abaedc32a457124d8ccfcf4aa0e81cb314f6f072f5b3fa4239886ea6642be94", func := "entail/entaillaw31.VaultsPath", spec := "vaultsPath", inPlace := ["internal/bytealg.Compare", "math/bits.Add64", "math/bits.Sub64"], unfollowed := true, recurses := true, apart := false, narrowed := true }
def VaultsPathUptoSaid : Prop := vaultsPathUptoRow.holds Tryz.pinned (OpenSpec.upto vaultsPathSpec)

end Rows
end Go.Proofs.YtfahccoobfjkeaaGreat
