/-
  No cell of these rows narrows 'for every input' (looked for: loops, veiled, ifaces, maps, wideKeys, modest, calm, conditions, laid).
  DERIVED. THE GIVEN ROWS OF THIS SEAT. 10 by the template 'for every input the law returns true; each argument reads behind the call as it read before'; 0 by the template 'total and deterministic' (their statements: YtmfnimjnneflnaaGreatTotals.lean).
  GIVEN WITH THE SEED: the statements are not yours to turn. If you find one false, say at which input.
  Laid BY PROGRAM, IN A SANDBOX (cutbox-rows.mjs): the forced cells as the released guide's own fill.sh prints them over the translation b110a8afac3aaab1… (all of the seat's roots in one cut). By AI agents, Wed Nov 11 2026. No macro, syntax, notation, axiom, sorry.
-/
import Derived.Test.YtmfnimjnneflnaaGreatChecked
import GoSem.Claim
import GoSem.ClaimJoined
import GoSem.ClaimMapViews
import Derived.JoinedTies
import Derived.KernelRfl
namespace Go.Proofs.YtmfnimjnneflnaaGreat
/- THE CELL 'sum', in the pinned program and in every row, IS THE sha256 OF THE DUMP (.gsa) THAT YtmfnimjnneflnaaGreatProg.lean LOADS. Nothing in Lean hashes anything: it is a label: what it is worth is what the hold of that sum in a sandbox is worth. -/
noncomputable def Tryz.pinned : Pinned := { name := "ytmfnimjnneflnaagreat", sum := "b110a8afac3aaab1697db447b4f9b4dd9cf579c48ebeb9312ace2cd3e9cd3fff", checked := Tryz.checked }
namespace Rows
def none {H : Type} : Left H := { results := [], args := [] }

/-- 'entaillaw22.EngineTemplate': WHATEVER THE INPUT: true; the input reads as it did. -/
def engineTemplateSpec : ChangeSpec := { name := "engineTemplate", fn := fun _ => fun
  | [d1, d2] => { results := [.lit (.bool true)], args := [d1, d2] }
  | _ => none }
def engineTemplateRow : OpenClaim := { program := "ytmfnimjnneflnaagreat", sum := "b110a8afac3aaab1697db447b4f9b4dd9cf579c48ebeb9312ace2cd3e9cd3fff", func := "entail/entaillaw22.EngineTemplate", spec := "engineTemplate", inPlace := ["math/bits.Add64", "math/bits.Sub64", "internal/bytealg.Compare"], unfollowed := true, recurses := true, apart := false }
def EngineTemplateSaid : Prop := engineTemplateRow.holds Tryz.pinned (OpenSpec.ofChange engineTemplateSpec)

/-- ITS FALSE NEIGHBOUR: 'it returns false'. Refute it at one input. -/
def engineTemplateWrong : ChangeSpec := { name := "engineTemplate", fn := fun _ => fun
  | [d1, d2] => { results := [.lit (.bool false)], args := [d1, d2] }
  | _ => none }
def EngineTemplateWrongFalsely : Prop := engineTemplateRow.holds Tryz.pinned (OpenSpec.ofChange engineTemplateWrong)

/-- 'entaillaw22.EngineRecover': WHATEVER THE INPUT: true; the input reads as it did. -/
def engineRecoverSpec : ChangeSpec := { name := "engineRecover", fn := fun _ => fun
  | [d1, d2] => { results := [.lit (.bool true)], args := [d1, d2] }
  | _ => none }
def engineRecoverRow : OpenClaim := { program := "ytmfnimjnneflnaagreat", sum := "b110a8afac3aaab1697db447b4f9b4dd9cf579c48ebeb9312ace2cd3e9cd3fff", func := "entail/entaillaw22.EngineRecover", spec := "engineRecover", inPlace := ["math/bits.Add64", "math/bits.Sub64", "internal/bytealg.Compare"], unfollowed := true, recurses := true, apart := false }
def EngineRecoverSaid : Prop := engineRecoverRow.holds Tryz.pinned (OpenSpec.ofChange engineRecoverSpec)

/-- ITS FALSE NEIGHBOUR: 'it returns false'. Refute it at one input. -/
def engineRecoverWrong : ChangeSpec := { name := "engineRecover", fn := fun _ => fun
  | [d1, d2] => { results := [.lit (.bool false)], args := [d1, d2] }
  | _ => none }
def EngineRecoverWrongFalsely : Prop := engineRecoverRow.holds Tryz.pinned (OpenSpec.ofChange engineRecoverWrong)

/-- 'entaillaw22.EngineIdle': WHATEVER THE INPUT: true; the input reads as it did. -/
def engineIdleSpec : ChangeSpec := { name := "engineIdle", fn := fun _ => fun
  | [d1, d2] => { results := [.lit (.bool true)], args := [d1, d2] }
  | _ => none }
def engineIdleRow : OpenClaim := { program := "ytmfnimjnneflnaagreat", sum := "b110a8afac3aaab1697db447b4f9b4dd9cf579c48ebeb9312ace2cd3e9cd3fff", func := "entail/entaillaw22.EngineIdle", spec := "engineIdle", inPlace := ["math/bits.Add64", "math/bits.Sub64", "internal/bytealg.Compare"], unfollowed := true, recurses := true, apart := false }
def EngineIdleSaid : Prop := engineIdleRow.holds Tryz.pinned (OpenSpec.ofChange engineIdleSpec)

/-- ITS FALSE NEIGHBOUR: 'it returns false'. Refute it at one input. -/
def engineIdleWrong : ChangeSpec := { name := "engineIdle", fn := fun _ => fun
  | [d1, d2] => { results := [.lit (.bool false)], args := [d1, d2] }
  | _ => none }
def EngineIdleWrongFalsely : Prop := engineIdleRow.holds Tryz.pinned (OpenSpec.ofChange engineIdleWrong)

/-- 'entaillaw22.EngineWaits': WHATEVER THE INPUT: true; the input reads as it did. -/
def engineWaitsSpec : ChangeSpec := { name := "engineWaits", fn := fun _ => fun
  | [d1, d2] => { results := [.lit (.bool true)], args := [d1, d2] }
  | _ => none }
def engineWaitsRow : OpenClaim := { program := "ytmfnimjnneflnaagreat", sum := "b110a8afac3aaab1697db447b4f9b4dd9cf579c48ebeb9312ace2cd3e9cd3fff", func := "entail/entaillaw22.EngineWaits", spec := "engineWaits", inPlace := ["math/bits.Add64", "math/bits.Sub64", "internal/bytealg.Compare"], unfollowed := true, recurses := true, apart := false }
def EngineWaitsSaid : Prop := engineWaitsRow.holds Tryz.pinned (OpenSpec.ofChange engineWaitsSpec)

/-- ITS FALSE NEIGHBOUR: 'it returns false'. Refute it at one input. -/
def engineWaitsWrong : ChangeSpec := { name := "engineWaits", fn := fun _ => fun
  | [d1, d2] => { results := [.lit (.bool false)], args := [d1, d2] }
  | _ => none }
def EngineWaitsWrongFalsely : Prop := engineWaitsRow.holds Tryz.pinned (OpenSpec.ofChange engineWaitsWrong)

/-- 'entaillaw22.EngineVault': WHATEVER THE INPUT: true; the input reads as it did. -/
def engineVaultSpec : ChangeSpec := { name := "engineVault", fn := fun _ => fun
  | [d1, d2, d3] => { results := [.lit (.bool true)], args := [d1, d2, d3] }
  | _ => none }
def engineVaultRow : OpenClaim := { program := "ytmfnimjnneflnaagreat", sum := "b110a8afac3aaab1697db447b4f9b4dd9cf579c48ebeb9312ace2cd3e9cd3fff", func := "entail/entaillaw22.EngineVault", spec := "engineVault", inPlace := ["math/bits.Add64", "math/bits.Sub64", "internal/bytealg.Compare"], unfollowed := true, recurses := true, apart := false }
def EngineVaultSaid : Prop := engineVaultRow.holds Tryz.pinned (OpenSpec.ofChange engineVaultSpec)

/-- ITS FALSE NEIGHBOUR: 'it returns false'. Refute it at one input. -/
def engineVaultWrong : ChangeSpec := { name := "engineVault", fn := fun _ => fun
  | [d1, d2, d3] => { results := [.lit (.bool false)], args := [d1, d2, d3] }
  | _ => none }
def EngineVaultWrongFalsely : Prop := engineVaultRow.holds Tryz.pinned (OpenSpec.ofChange engineVaultWrong)

/-- 'entaillaw23.PlanRecovers': WHATEVER THE INPUT: true; the input reads as it did. -/
def planRecoversSpec : ChangeSpec := { name := "planRecovers", fn := fun _ => fun
  | [d1, d2, d3] => { results := [.lit (.bool true)], args := [d1, d2, d3] }
  | _ => none }
def planRecoversRow : OpenClaim := { program := "ytmfnimjnneflnaagreat", sum := "b110a8afac3aaab1697db447b4f9b4dd9cf579c48ebeb9312ace2cd3e9cd3fff", func := "entail/entaillaw23.PlanRecovers", spec := "planRecovers", inPlace := ["internal/bytealg.Compare", "math/bits.Add64", "math/bits.Sub64"], unfollowed := true, recurses := true, apart := false }
def PlanRecoversSaid : Prop := planRecoversRow.holds Tryz.pinned (OpenSpec.ofChange planRecoversSpec)

/-- ITS FALSE NEIGHBOUR: 'it returns false'. Refute it at one input. -/
def planRecoversWrong : ChangeSpec := { name := "planRecovers", fn := fun _ => fun
  | [d1, d2, d3] => { results := [.lit (.bool false)], args := [d1, d2, d3] }
  | _ => none }
def PlanRecoversWrongFalsely : Prop := planRecoversRow.holds Tryz.pinned (OpenSpec.ofChange planRecoversWrong)

/-- 'entaillaw23.PlanWithdraws': WHATEVER THE INPUT: true; the input reads as it did. -/
def planWithdrawsSpec : ChangeSpec := { name := "planWithdraws", fn := fun _ => fun
  | [d1, d2, d3] => { results := [.lit (.bool true)], args := [d1, d2, d3] }
  | _ => none }
def planWithdrawsRow : OpenClaim := { program := "ytmfnimjnneflnaagreat", sum := "b110a8afac3aaab1697db447b4f9b4dd9cf579c48ebeb9312ace2cd3e9cd3fff", func := "entail/entaillaw23.PlanWithdraws", spec := "planWithdraws", inPlace := ["internal/bytealg.Compare", "math/bits.Add64", "math/bits.Sub64"], unfollowed := true, recurses := true, apart := false }
def PlanWithdrawsSaid : Prop := planWithdrawsRow.holds Tryz.pinned (OpenSpec.ofChange planWithdrawsSpec)

/-- ITS FALSE NEIGHBOUR: 'it returns false'. Refute it at one input. -/
def planWithdrawsWrong : ChangeSpec := { name := "planWithdraws", fn := fun _ => fun
  | [d1, d2, d3] => { results := [.lit (.bool false)], args := [d1, d2, d3] }
  | _ => none }
def PlanWithdrawsWrongFalsely : Prop := planWithdrawsRow.holds Tryz.pinned (OpenSpec.ofChange planWithdrawsWrong)

/-- 'entaillaw24.SpendTogether': WHATEVER THE INPUT: true; the input reads as it did. -/
def spendTogetherSpec : ChangeSpec := { name := "spendTogether", fn := fun _ => fun
  | [d1, d2] => { results := [.lit (.bool true)], args := [d1, d2] }
  | _ => none }
def spendTogetherRow : OpenClaim := { program := "ytmfnimjnneflnaagreat", sum := "b110a8afac3aaab1697db447b4f9b4dd9cf579c48ebeb9312ace2cd3e9cd3fff", func := "entail/entaillaw24.SpendTogether", spec := "spendTogether", inPlace := ["math/bits.Add64", "math/bits.Sub64", "internal/bytealg.Compare"], unfollowed := true, recurses := true, apart := false }
def SpendTogetherSaid : Prop := spendTogetherRow.holds Tryz.pinned (OpenSpec.ofChange spendTogetherSpec)

/-- ITS FALSE NEIGHBOUR: 'it returns false'. Refute it at one input. -/
def spendTogetherWrong : ChangeSpec := { name := "spendTogether", fn := fun _ => fun
  | [d1, d2] => { results := [.lit (.bool false)], args := [d1, d2] }
  | _ => none }
def SpendTogetherWrongFalsely : Prop := spendTogetherRow.holds Tryz.pinned (OpenSpec.ofChange spendTogetherWrong)

/-- 'entaillaw24.SpendKey': WHATEVER THE INPUT: true; the input reads as it did. -/
def spendKeySpec : ChangeSpec := { name := "spendKey", fn := fun _ => fun
  | [d1, d2, d3] => { results := [.lit (.bool true)], args := [d1, d2, d3] }
  | _ => none }
def spendKeyRow : OpenClaim := { program := "ytmfnimjnneflnaagreat", sum := "b110a8afac3aaab1697db447b4f9b4dd9cf579c48ebeb9312ace2cd3e9cd3fff", func := "entail/entaillaw24.SpendKey", spec := "spendKey", inPlace := ["math/bits.Sub64", "math/bits.Add64", "internal/bytealg.Compare"], unfollowed := true, recurses := true, apart := false }
def SpendKeySaid : Prop := spendKeyRow.holds Tryz.pinned (OpenSpec.ofChange spendKeySpec)

/-- ITS FALSE NEIGHBOUR: 'it returns false'. Refute it at one input. -/
def spendKeyWrong : ChangeSpec := { name := "spendKey", fn := fun _ => fun
  | [d1, d2, d3] => { results := [.lit (.bool false)], args := [d1, d2, d3] }
  | _ => none }
def SpendKeyWrongFalsely : Prop := spendKeyRow.holds Tryz.pinned (OpenSpec.ofChange spendKeyWrong)

/-- 'entaillaw23.PlanTriggers': WHATEVER THE INPUT: true; the input reads as it did. -/
def planTriggersSpec : ChangeSpec := { name := "planTriggers", fn := fun _ => fun
  | [d1, d2, d3] => { results := [.lit (.bool true)], args := [d1, d2, d3] }
  | _ => none }
def planTriggersRow : OpenClaim := { program := "ytmfnimjnneflnaagreat", sum := "b110a8afac3aaab1697db447b4f9b4dd9cf579c48ebeb9312ace2cd3e9cd3fff", func := "entail/entaillaw23.PlanTriggers", spec := "planTriggers", inPlace := ["math/bits.Sub64", "math/bits.Add64", "internal/bytealg.Compare"], unfollowed := true, recurses := true, apart := false }
def PlanTriggersSaid : Prop := planTriggersRow.holds Tryz.pinned (OpenSpec.ofChange planTriggersSpec)

/-- ITS FALSE NEIGHBOUR: 'it returns false'. Refute it at one input. -/
def planTriggersWrong : ChangeSpec := { name := "planTriggers", fn := fun _ => fun
  | [d1, d2, d3] => { results := [.lit (.bool false)], args := [d1, d2, d3] }
  | _ => none }
def PlanTriggersWrongFalsely : Prop := planTriggersRow.holds Tryz.pinned (OpenSpec.ofChange planTriggersWrong)

/- THE SECOND FORM. 'bulk': how many values and letters a reading holds, each counted each time it is reached (what is shared counts as often as it is met; a slice's spare places count too). A statement '..UptoSaid' is the law's where the arguments, and the package variables that the reading takes, are together of bulk at most 1048576: NARROWER than '..Said'. Prove '..Said' where nothing that the law and all that it calls make is longer than what came in: it says more and counts as full. Else prove '..UptoSaid'. A law counts once. -/
mutual
def uptoBulk {H : Type} : DataW H → Nat
  | .lit (.string bytes) => bytes.length + 1
  | .lit _ => 1
  | .nil => 1
  | .ptr d => uptoBulk d + 1
  | .slice elems spare => uptoBulkAll elems + uptoBulkAll spare + 1
  | .agg parts => uptoBulkAll parts + 1
  | .iface _ d => uptoBulk d + 1
  | .map entries => uptoBulkEntries entries + 1
  | .held _ => 1
def uptoBulkAll {H : Type} : List (DataW H) → Nat
  | [] => 0
  | d :: r => uptoBulk d + uptoBulkAll r
def uptoBulkEntries {H : Type} : List (Lit × DataW H) → Nat
  | [] => 0
  | x :: r => uptoBulkEntry x + uptoBulkEntries r
def uptoBulkEntry {H : Type} : Lit × DataW H → Nat
  | (.string bytes, d) => bytes.length + uptoBulk d + 1
  | (_, d) => uptoBulk d + 1
 end
def uptoSmall : (H : Type) → List (DataW H) → Bool := fun _ ds => decide (uptoBulkAll ds ≤ 1048576)
def OpenSpec.upto (s : _root_.Go.ChangeSpec) : _root_.Go.OpenSpec := { _root_.Go.OpenSpec.ofChange s with cond := some uptoSmall }

/-- 'entaillaw22.EngineTemplate', WHERE WHAT IT READS IS OF BULK AT MOST 1048576: true; the input reads as it did. -/
def engineTemplateUptoRow : OpenClaim := { program := "ytmfnimjnneflnaagreat", sum := "b110a8afac3aaab1697db447b4f9b4dd9cf579c48ebeb9312ace2cd3e9cd3fff", func := "entail/entaillaw22.EngineTemplate", spec := "engineTemplate", inPlace := ["math/bits.Add64", "math/bits.Sub64", "internal/bytealg.Compare"], unfollowed := true, recurses := true, apart := false, narrowed := true }
def EngineTemplateUptoSaid : Prop := engineTemplateUptoRow.holds Tryz.pinned (OpenSpec.upto engineTemplateSpec)

/-- 'entaillaw22.EngineRecover', WHERE WHAT IT READS IS OF BULK AT MOST 1048576: true; the input reads as it did. -/
def engineRecoverUptoRow : OpenClaim := { program := "ytmfnimjnneflnaagreat", sum := "b110a8afac3aaab1697db447b4f9b4dd9cf579c48ebeb9312ace2cd3e9cd3fff", func := "entail/entaillaw22.EngineRecover", spec := "engineRecover", inPlace := ["math/bits.Add64", "math/bits.Sub64", "internal/bytealg.Compare"], unfollowed := true, recurses := true, apart := false, narrowed := true }
def EngineRecoverUptoSaid : Prop := engineRecoverUptoRow.holds Tryz.pinned (OpenSpec.upto engineRecoverSpec)

/-- 'entaillaw22.EngineIdle', WHERE WHAT IT READS IS OF BULK AT MOST 1048576: true; the input reads as it did. -/
def engineIdleUptoRow : OpenClaim := { program := "ytmfnimjnneflnaagreat", sum := "b110a8afac3aaab1697db447b4f9b4dd9cf579c48ebeb9312ace2cd3e9cd3fff", func := "entail/entaillaw22.EngineIdle", spec := "engineIdle", inPlace := ["math/bits.Add64", "math/bits.Sub64", "internal/bytealg.Compare"], unfollowed := true, recurses := true, apart := false, narrowed := true }
def EngineIdleUptoSaid : Prop := engineIdleUptoRow.holds Tryz.pinned (OpenSpec.upto engineIdleSpec)

/-- 'entaillaw22.EngineWaits', WHERE WHAT IT READS IS OF BULK AT MOST 1048576: true; the input reads as it did. -/
def engineWaitsUptoRow : OpenClaim := { program := "ytmfnimjnneflnaagreat", sum := "b110a8afac3aaab1697db447b4f9b4dd9cf579c48ebeb9312ace2cd3e9cd3fff", func := "entail/entaillaw22.EngineWaits", spec := "engineWaits", inPlace := ["math/bits.Add64", "math/bits.Sub64", "internal/bytealg.Compare"], unfollowed := true, recurses := true, apart := false, narrowed := true }
def EngineWaitsUptoSaid : Prop := engineWaitsUptoRow.holds Tryz.pinned (OpenSpec.upto engineWaitsSpec)

/-- 'entaillaw22.EngineVault', WHERE WHAT IT READS IS OF BULK AT MOST 1048576: true; the input reads as it did. -/
def engineVaultUptoRow : OpenClaim := { program := "ytmfnimjnneflnaagreat", sum := "b110a8afac3aaab1697db447b4f9b4dd9cf579c48ebeb9312ace2cd3e9cd3fff", func := "entail/entaillaw22.EngineVault", spec := "engineVault", inPlace := ["math/bits.Add64", "math/bits.Sub64", "internal/bytealg.Compare"], unfollowed := true, recurses := true, apart := false, narrowed := true }
def EngineVaultUptoSaid : Prop := engineVaultUptoRow.holds Tryz.pinned (OpenSpec.upto engineVaultSpec)

/-- 'entaillaw23.PlanRecovers', WHERE WHAT IT READS IS OF BULK AT MOST 1048576: true; the input reads as it did. -/
def planRecoversUptoRow : OpenClaim := { program := "ytmfnimjnneflnaagreat", sum := "b110a8afac3aaab1697db447b4f9b4dd9cf579c48ebeb9312ace2cd3e9cd3fff", func := "entail/entaillaw23.PlanRecovers", spec := "planRecovers", inPlace := ["internal/bytealg.Compare", "math/bits.Add64", "math/bits.Sub64"], unfollowed := true, recurses := true, apart := false, narrowed := true }
def PlanRecoversUptoSaid : Prop := planRecoversUptoRow.holds Tryz.pinned (OpenSpec.upto planRecoversSpec)

/-- 'entaillaw23.PlanWithdraws', WHERE WHAT IT READS IS OF BULK AT MOST 1048576: true; the input reads as it did. -/
def planWithdrawsUptoRow : OpenClaim := { program := "ytmfnimjnneflnaagreat", sum := "b110a8afac3aaab1697db447b4f9b4dd9cf579c48ebeb9312ace2cd3e9cd3fff", func := "entail/entaillaw23.PlanWithdraws", spec := "planWithdraws", inPlace := ["internal/bytealg.Compare", "math/bits.Add64", "math/bits.Sub64"], unfollowed := true, recurses := true, apart := false, narrowed := true }
def PlanWithdrawsUptoSaid : Prop := planWithdrawsUptoRow.holds Tryz.pinned (OpenSpec.upto planWithdrawsSpec)

/-- 'entaillaw24.SpendTogether', WHERE WHAT IT READS IS OF BULK AT MOST 1048576: true; the input reads as it did. -/
def spendTogetherUptoRow : OpenClaim := { program := "ytmfnimjnneflnaagreat", sum := "b110a8afac3aaab1697db447b4f9b4dd9cf579c48ebeb9312ace2cd3e9cd3fff", func := "entail/entaillaw24.SpendTogether", spec := "spendTogether", inPlace := ["math/bits.Add64", "math/bits.Sub64", "internal/bytealg.Compare"], unfollowed := true, recurses := true, apart := false, narrowed := true }
def SpendTogetherUptoSaid : Prop := spendTogetherUptoRow.holds Tryz.pinned (OpenSpec.upto spendTogetherSpec)

/-- 'entaillaw24.SpendKey', WHERE WHAT IT READS IS OF BULK AT MOST 1048576: true; the input reads as it did. -/
def spendKeyUptoRow : OpenClaim := { program := "ytmfnimjnneflnaagreat", sum := "b110a8afac3aaab1697db447b4f9b4dd9cf579c48ebeb9312ace2cd3e9cd3fff", func := "entail/entaillaw24.SpendKey", spec := "spendKey", inPlace := ["math/bits.Sub64", "math/bits.Add64", "internal/bytealg.Compare"], unfollowed := true, recurses := true, apart := false, narrowed := true }
def SpendKeyUptoSaid : Prop := spendKeyUptoRow.holds Tryz.pinned (OpenSpec.upto spendKeySpec)

/-- 'entaillaw23.PlanTriggers', WHERE WHAT IT READS IS OF BULK AT MOST 1048576: true; the input reads as it did. -/
def planTriggersUptoRow : OpenClaim := { program := "ytmfnimjnneflnaagreat", sum := "b110a8afac3aaab1697db447b4f9b4dd9cf579c48ebeb9312ace2cd3e9cd3fff", func := "entail/entaillaw23.PlanTriggers", spec := "planTriggers", inPlace := ["math/bits.Sub64", "math/bits.Add64", "internal/bytealg.Compare"], unfollowed := true, recurses := true, apart := false, narrowed := true }
def PlanTriggersUptoSaid : Prop := planTriggersUptoRow.holds Tryz.pinned (OpenSpec.upto planTriggersSpec)

end Rows
end Go.Proofs.YtmfnimjnneflnaaGreat
