/-
  No cell of these rows narrows 'for every input' (looked for: loops, veiled, ifaces, maps, wideKeys, modest, calm, conditions, laid).
  DERIVED. THE GIVEN ROWS OF THIS SEAT. 5 by the template 'for every input the law returns true; each argument reads behind the call as it read before'; 0 by the template 'total and deterministic' (their statements: YtofkjmhcddgeeaaTotals.lean).
  GIVEN WITH THE SEED: the statements are not yours to turn. If you find one false, say at which input.
  Laid BY PROGRAM, IN A SANDBOX (cutbox-rows.mjs): the forced cells as the released guide's own fill.sh prints them over the translation 45649bb867ed0b77… (all of the seat's roots in one cut). By AI agents, Wed Nov 11 2026. No macro, syntax, notation, axiom, sorry.
-/
import Derived.Test.YtofkjmhcddgeeaaChecked
import GoSem.Claim
import GoSem.ClaimJoined
import GoSem.ClaimMapViews
import Derived.JoinedTies
import Derived.KernelRfl
namespace Go.Proofs.Ytofkjmhcddgeeaa
/- THE CELL 'sum', in the pinned program and in every row, IS THE sha256 OF THE DUMP (.gsa) THAT YtofkjmhcddgeeaaProg.lean LOADS. Nothing in Lean hashes anything: it is a label: what it is worth is what the hold of that sum in a sandbox is worth. -/
noncomputable def Try.pinned : Pinned := { name := "ytofkjmhcddgeeaa", sum := "45649bb867ed0b77a2082a024cbdbfd5c774b0ef856ae5e21f9ee8b0ffef16eb", checked := Try.checked }
namespace Rows
def none {H : Type} : Left H := { results := [], args := [] }

/-- 'vergelaw12.FiringTicks': WHATEVER THE INPUT: true; the input reads as it did. -/
def firingTicksSpec : ChangeSpec := { name := "firingTicks", fn := fun _ => fun
  | [d] => { results := [.lit (.bool true)], args := [d] }
  | _ => none }
def firingTicksRow : OpenClaim := { program := "ytofkjmhcddgeeaa", sum := "45649bb867ed0b77a2082a024cbdbfd5c774b0ef856ae5e21f9ee8b0ffef16eb", func := "verge/vergelaw12.FiringTicks", spec := "firingTicks", unfollowed := true, recurses := true, plainKeys := false, apart := false }
def FiringTicksSaid : Prop := firingTicksRow.holds Try.pinned (OpenSpec.ofChange firingTicksSpec)

/-- ITS FALSE NEIGHBOUR: 'it returns false'. Refute it at one input. -/
def firingTicksWrong : ChangeSpec := { name := "firingTicks", fn := fun _ => fun
  | [d] => { results := [.lit (.bool false)], args := [d] }
  | _ => none }
def FiringTicksWrongFalsely : Prop := firingTicksRow.holds Try.pinned (OpenSpec.ofChange firingTicksWrong)

/-- 'vergelaw12.FiringFaults': WHATEVER THE INPUT: true; the input reads as it did. -/
def firingFaultsSpec : ChangeSpec := { name := "firingFaults", fn := fun _ => fun
  | [d1, d2, d3] => { results := [.lit (.bool true)], args := [d1, d2, d3] }
  | _ => none }
def firingFaultsRow : OpenClaim := { program := "ytofkjmhcddgeeaa", sum := "45649bb867ed0b77a2082a024cbdbfd5c774b0ef856ae5e21f9ee8b0ffef16eb", func := "verge/vergelaw12.FiringFaults", spec := "firingFaults", inPlace := ["math/bits.Add64"], unfollowed := true, recurses := true, plainKeys := false, apart := false }
def FiringFaultsSaid : Prop := firingFaultsRow.holds Try.pinned (OpenSpec.ofChange firingFaultsSpec)

/-- ITS FALSE NEIGHBOUR: 'it returns false'. Refute it at one input. -/
def firingFaultsWrong : ChangeSpec := { name := "firingFaults", fn := fun _ => fun
  | [d1, d2, d3] => { results := [.lit (.bool false)], args := [d1, d2, d3] }
  | _ => none }
def FiringFaultsWrongFalsely : Prop := firingFaultsRow.holds Try.pinned (OpenSpec.ofChange firingFaultsWrong)

/-- 'vergelaw12.FiringParts': WHATEVER THE INPUT: true; the input reads as it did. -/
def firingPartsSpec : ChangeSpec := { name := "firingParts", fn := fun _ => fun
  | [d] => { results := [.lit (.bool true)], args := [d] }
  | _ => none }
def firingPartsRow : OpenClaim := { program := "ytofkjmhcddgeeaa", sum := "45649bb867ed0b77a2082a024cbdbfd5c774b0ef856ae5e21f9ee8b0ffef16eb", func := "verge/vergelaw12.FiringParts", spec := "firingParts", unfollowed := true, recurses := true, plainKeys := false, apart := false }
def FiringPartsSaid : Prop := firingPartsRow.holds Try.pinned (OpenSpec.ofChange firingPartsSpec)

/-- ITS FALSE NEIGHBOUR: 'it returns false'. Refute it at one input. -/
def firingPartsWrong : ChangeSpec := { name := "firingParts", fn := fun _ => fun
  | [d] => { results := [.lit (.bool false)], args := [d] }
  | _ => none }
def FiringPartsWrongFalsely : Prop := firingPartsRow.holds Try.pinned (OpenSpec.ofChange firingPartsWrong)

/-- 'vergelaw12.FiringLogs': WHATEVER THE INPUT: true; the input reads as it did. -/
def firingLogsSpec : ChangeSpec := { name := "firingLogs", fn := fun _ => fun
  | [d1, d2, d3, d4] => { results := [.lit (.bool true)], args := [d1, d2, d3, d4] }
  | _ => none }
def firingLogsRow : OpenClaim := { program := "ytofkjmhcddgeeaa", sum := "45649bb867ed0b77a2082a024cbdbfd5c774b0ef856ae5e21f9ee8b0ffef16eb", func := "verge/vergelaw12.FiringLogs", spec := "firingLogs", unfollowed := true, recurses := true, plainKeys := false, apart := false }
def FiringLogsSaid : Prop := firingLogsRow.holds Try.pinned (OpenSpec.ofChange firingLogsSpec)

/-- ITS FALSE NEIGHBOUR: 'it returns false'. Refute it at one input. -/
def firingLogsWrong : ChangeSpec := { name := "firingLogs", fn := fun _ => fun
  | [d1, d2, d3, d4] => { results := [.lit (.bool false)], args := [d1, d2, d3, d4] }
  | _ => none }
def FiringLogsWrongFalsely : Prop := firingLogsRow.holds Try.pinned (OpenSpec.ofChange firingLogsWrong)

/-- 'vergelaw12.FiringNone': WHATEVER THE INPUT: true; the input reads as it did. -/
def firingNoneSpec : ChangeSpec := { name := "firingNone", fn := fun _ => fun
  | [d] => { results := [.lit (.bool true)], args := [d] }
  | _ => none }
def firingNoneRow : OpenClaim := { program := "ytofkjmhcddgeeaa", sum := "45649bb867ed0b77a2082a024cbdbfd5c774b0ef856ae5e21f9ee8b0ffef16eb", func := "verge/vergelaw12.FiringNone", spec := "firingNone", unfollowed := true, recurses := true, plainKeys := false, apart := false }
def FiringNoneSaid : Prop := firingNoneRow.holds Try.pinned (OpenSpec.ofChange firingNoneSpec)

/-- ITS FALSE NEIGHBOUR: 'it returns false'. Refute it at one input. -/
def firingNoneWrong : ChangeSpec := { name := "firingNone", fn := fun _ => fun
  | [d] => { results := [.lit (.bool false)], args := [d] }
  | _ => none }
def FiringNoneWrongFalsely : Prop := firingNoneRow.holds Try.pinned (OpenSpec.ofChange firingNoneWrong)

/- THE SECOND FORM. 'bulk': how many values and letters a reading holds, each counted each time it is reached (what is shared counts as often as it is met; a slice's spare places count too). A statement '..UptoSaid' is the law's where the arguments, and the package variables that the reading takes, are together of bulk at most 1048576: NARROWER than '..Said'. Prove '..Said' where nothing that the law and all that it calls make is longer than what came in: it says more and counts as full. Else prove '..UptoSaid'. A law counts once. -/
mutual
def uptoBulk {H : Type} : DataW H → Nat
  | .lit (.string bytes) => bytes.length + 1
  | .lit _ => 1
  | .nil => 1
  | .ptr d => uptoBulk d + 1
  | .slice elems spare => uptoBulkAll elems + uptoBulkAll spare + 1
  | .agg parts => uptoBulkAll parts + 1
  | .iface _ d => uptoBulk d + 1
  | .map entries => uptoBulkEntries entries + 1
  | .held _ => 1
def uptoBulkAll {H : Type} : List (DataW H) → Nat
  | [] => 0
  | d :: r => uptoBulk d + uptoBulkAll r
def uptoBulkEntries {H : Type} : List (Lit × DataW H) → Nat
  | [] => 0
  | x :: r => uptoBulkEntry x + uptoBulkEntries r
def uptoBulkEntry {H : Type} : Lit × DataW H → Nat
  | (.string bytes, d) => bytes.length + uptoBulk d + 1
  | (_, d) => uptoBulk d + 1
 end
def uptoSmall : (H : Type) → List (DataW H) → Bool := fun _ ds => decide (uptoBulkAll ds ≤ 1048576)
def OpenSpec.upto (s : _root_.Go.ChangeSpec) : _root_.Go.OpenSpec := { _root_.Go.OpenSpec.ofChange s with cond := some uptoSmall }

/-- 'vergelaw12.FiringTicks', WHERE WHAT IT READS IS OF BULK AT MOST 1048576: true; the input reads as it did. -/
def firingTicksUptoRow : OpenClaim := { program := "ytofkjmhcddgeeaa", sum := "45649bb867ed0b77a2082a024cbdbfd5c774b0ef856ae5e21f9ee8b0ffef16eb", func := "verge/vergelaw12.FiringTicks", spec := "firingTicks", unfollowed := true, recurses := true, plainKeys := false, apart := false, narrowed := true }
def FiringTicksUptoSaid : Prop := firingTicksUptoRow.holds Try.pinned (OpenSpec.upto firingTicksSpec)

/-- 'vergelaw12.FiringFaults', WHERE WHAT IT READS IS OF BULK AT MOST 1048576: true; the input reads as it did. -/
def firingFaultsUptoRow : OpenClaim := { program := "ytofkjmhcddgeeaa", sum := "45649bb867ed0b77a2082a024cbdbfd5c774b0ef856ae5e21f9ee8b0ffef16eb", func := "verge/vergelaw12.FiringFaults", spec := "firingFaults", inPlace := ["math/bits.Add64"], unfollowed := true, recurses := true, plainKeys := false, apart := false, narrowed := true }
def FiringFaultsUptoSaid : Prop := firingFaultsUptoRow.holds Try.pinned (OpenSpec.upto firingFaultsSpec)

/-- 'vergelaw12.FiringParts', WHERE WHAT IT READS IS OF BULK AT MOST 1048576: true; the input reads as it did. -/
def firingPartsUptoRow : OpenClaim := { program := "ytofkjmhcddgeeaa", sum := "45649bb867ed0b77a2082a024cbdbfd5c774b0ef856ae5e21f9ee8b0ffef16eb", func := "verge/vergelaw12.FiringParts", spec := "firingParts", unfollowed := true, recurses := true, plainKeys := false, apart := false, narrowed := true }
def FiringPartsUptoSaid : Prop := firingPartsUptoRow.holds Try.pinned (OpenSpec.upto firingPartsSpec)

/-- 'vergelaw12.FiringLogs', WHERE WHAT IT READS IS OF BULK AT MOST 1048576: true; the input reads as it did. -/
def firingLogsUptoRow : OpenClaim := { program := "ytofkjmhcddgeeaa", sum := "45649bb867ed0b77a2082a024cbdbfd5c774b0ef856ae5e21f9ee8b0ffef16eb", func := "verge/vergelaw12.FiringLogs", spec := "firingLogs", unfollowed := true, recurses := true, plainKeys := false, apart := false, narrowed := true }
def FiringLogsUptoSaid : Prop := firingLogsUptoRow.holds Try.pinned (OpenSpec.upto firingLogsSpec)

/-- 'vergelaw12.FiringNone', WHERE WHAT IT READS IS OF BULK AT MOST 1048576: true; the input reads as it did. -/
def firingNoneUptoRow : OpenClaim := { program := "ytofkjmhcddgeeaa", sum := "45649bb867ed0b77a2082a024cbdbfd5c774b0ef856ae5e21f9ee8b0ffef16eb", func := "verge/vergelaw12.FiringNone", spec := "firingNone", unfollowed := true, recurses := true, plainKeys := false, apart := false, narrowed := true }
def FiringNoneUptoSaid : Prop := firingNoneUptoRow.holds Try.pinned (OpenSpec.upto firingNoneSpec)

end Rows
end Go.Proofs.Ytofkjmhcddgeeaa
