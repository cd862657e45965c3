/-
  No cell of these rows narrows 'for every input' (looked for: loops, veiled, ifaces, maps, wideKeys, modest, calm, conditions, laid).
  DERIVED. THE GIVEN ROWS OF THIS SEAT. 11 by the template 'for every input the law returns true; each argument reads behind the call as it read before'; 0 by the template 'total and deterministic' (their statements: YtpnkkdpggofanaaTotals.lean).
  GIVEN WITH THE SEED: the statements are not yours to turn. If you find one false, say at which input.
  Laid BY PROGRAM, IN A SANDBOX (cutbox-rows.mjs): the forced cells as the released guide's own fill.sh prints them over the translation 4c59831687ffa2ad… (all of the seat's roots in one cut). By AI agents, Wed Nov 11 2026. No macro, syntax, notation, axiom, sorry.
-/
import Derived.Test.YtpnkkdpggofanaaChecked
import GoSem.Claim
import GoSem.ClaimJoined
import GoSem.ClaimMapViews
import Derived.JoinedTies
import Derived.KernelRfl
namespace Go.Proofs.Ytpnkkdpggofanaa
/- THE CELL 'sum', in the pinned program and in every row, IS THE sha256 OF THE DUMP (.gsa) THAT YtpnkkdpggofanaaProg.lean LOADS. Nothing in Lean hashes anything: it is a label: what it is worth is what the hold of that sum in a sandbox is worth. -/
noncomputable def Try.pinned : Pinned := { name := "ytpnkkdpggofanaa", sum := "4c59831687ffa2adb46b9e0417cfb359372f3b4f3e52980387867300824dc626", checked := Try.checked }
namespace Rows
def none {H : Type} : Left H := { results := [], args := [] }

/-- 'vergelaw21.SpecBegins': WHATEVER THE INPUT: true; the input reads as it did. -/
def specBeginsSpec : ChangeSpec := { name := "specBegins", fn := fun _ => fun
  | [d1, d2, d3, d4] => { results := [.lit (.bool true)], args := [d1, d2, d3, d4] }
  | _ => none }
def specBeginsRow : OpenClaim := { program := "ytpnkkdpggofanaa", sum := "4c59831687ffa2adb46b9e0417cfb359372f3b4f3e52980387867300824dc626", func := "verge/vergelaw21.SpecBegins", spec := "specBegins", inPlace := ["math/bits.Add64"], unfollowed := true, recurses := true, plainKeys := false, apart := false }
def SpecBeginsSaid : Prop := specBeginsRow.holds Try.pinned (OpenSpec.ofChange specBeginsSpec)

/-- ITS FALSE NEIGHBOUR: 'it returns false'. Refute it at one input. -/
def specBeginsWrong : ChangeSpec := { name := "specBegins", fn := fun _ => fun
  | [d1, d2, d3, d4] => { results := [.lit (.bool false)], args := [d1, d2, d3, d4] }
  | _ => none }
def SpecBeginsWrongFalsely : Prop := specBeginsRow.holds Try.pinned (OpenSpec.ofChange specBeginsWrong)

/-- 'vergelaw21.SpecCancel': WHATEVER THE INPUT: true; the input reads as it did. -/
def specCancelSpec : ChangeSpec := { name := "specCancel", fn := fun _ => fun
  | [d1, d2] => { results := [.lit (.bool true)], args := [d1, d2] }
  | _ => none }
def specCancelRow : OpenClaim := { program := "ytpnkkdpggofanaa", sum := "4c59831687ffa2adb46b9e0417cfb359372f3b4f3e52980387867300824dc626", func := "verge/vergelaw21.SpecCancel", spec := "specCancel", inPlace := ["math/bits.Add64"], unfollowed := true, recurses := true, plainKeys := false, apart := false }
def SpecCancelSaid : Prop := specCancelRow.holds Try.pinned (OpenSpec.ofChange specCancelSpec)

/-- ITS FALSE NEIGHBOUR: 'it returns false'. Refute it at one input. -/
def specCancelWrong : ChangeSpec := { name := "specCancel", fn := fun _ => fun
  | [d1, d2] => { results := [.lit (.bool false)], args := [d1, d2] }
  | _ => none }
def SpecCancelWrongFalsely : Prop := specCancelRow.holds Try.pinned (OpenSpec.ofChange specCancelWrong)

/-- 'vergelaw24.OrderLine': WHATEVER THE INPUT: true; the input reads as it did. -/
def orderLineSpec : ChangeSpec := { name := "orderLine", fn := fun _ => fun
  | [d] => { results := [.lit (.bool true)], args := [d] }
  | _ => none }
def orderLineRow : OpenClaim := { program := "ytpnkkdpggofanaa", sum := "4c59831687ffa2adb46b9e0417cfb359372f3b4f3e52980387867300824dc626", func := "verge/vergelaw24.OrderLine", spec := "orderLine", unfollowed := true, recurses := true, plainKeys := false, apart := false }
def OrderLineSaid : Prop := orderLineRow.holds Try.pinned (OpenSpec.ofChange orderLineSpec)

/-- ITS FALSE NEIGHBOUR: 'it returns false'. Refute it at one input. -/
def orderLineWrong : ChangeSpec := { name := "orderLine", fn := fun _ => fun
  | [d] => { results := [.lit (.bool false)], args := [d] }
  | _ => none }
def OrderLineWrongFalsely : Prop := orderLineRow.holds Try.pinned (OpenSpec.ofChange orderLineWrong)

/-- 'vergelaw21.SpecRhythm': WHATEVER THE INPUT: true; the input reads as it did. -/
def specRhythmSpec : ChangeSpec := { name := "specRhythm", fn := fun _ => fun
  | [d1, d2] => { results := [.lit (.bool true)], args := [d1, d2] }
  | _ => none }
def specRhythmRow : OpenClaim := { program := "ytpnkkdpggofanaa", sum := "4c59831687ffa2adb46b9e0417cfb359372f3b4f3e52980387867300824dc626", func := "verge/vergelaw21.SpecRhythm", spec := "specRhythm", inPlace := ["math/bits.Add64"], unfollowed := true, recurses := true, plainKeys := false, apart := false }
def SpecRhythmSaid : Prop := specRhythmRow.holds Try.pinned (OpenSpec.ofChange specRhythmSpec)

/-- ITS FALSE NEIGHBOUR: 'it returns false'. Refute it at one input. -/
def specRhythmWrong : ChangeSpec := { name := "specRhythm", fn := fun _ => fun
  | [d1, d2] => { results := [.lit (.bool false)], args := [d1, d2] }
  | _ => none }
def SpecRhythmWrongFalsely : Prop := specRhythmRow.holds Try.pinned (OpenSpec.ofChange specRhythmWrong)

/-- 'vergelaw21.SpecFires': WHATEVER THE INPUT: true; the input reads as it did. -/
def specFiresSpec : ChangeSpec := { name := "specFires", fn := fun _ => fun
  | [d1, d2] => { results := [.lit (.bool true)], args := [d1, d2] }
  | _ => none }
def specFiresRow : OpenClaim := { program := "ytpnkkdpggofanaa", sum := "4c59831687ffa2adb46b9e0417cfb359372f3b4f3e52980387867300824dc626", func := "verge/vergelaw21.SpecFires", spec := "specFires", inPlace := ["math/bits.Add64"], unfollowed := true, recurses := true, plainKeys := false, apart := false }
def SpecFiresSaid : Prop := specFiresRow.holds Try.pinned (OpenSpec.ofChange specFiresSpec)

/-- ITS FALSE NEIGHBOUR: 'it returns false'. Refute it at one input. -/
def specFiresWrong : ChangeSpec := { name := "specFires", fn := fun _ => fun
  | [d1, d2] => { results := [.lit (.bool false)], args := [d1, d2] }
  | _ => none }
def SpecFiresWrongFalsely : Prop := specFiresRow.holds Try.pinned (OpenSpec.ofChange specFiresWrong)

/-- 'vergelaw24.OrderOps': WHATEVER THE INPUT: true; the input reads as it did. -/
def orderOpsSpec : ChangeSpec := { name := "orderOps", fn := fun _ => fun
  | [d] => { results := [.lit (.bool true)], args := [d] }
  | _ => none }
def orderOpsRow : OpenClaim := { program := "ytpnkkdpggofanaa", sum := "4c59831687ffa2adb46b9e0417cfb359372f3b4f3e52980387867300824dc626", func := "verge/vergelaw24.OrderOps", spec := "orderOps", unfollowed := true, recurses := true, plainKeys := false, apart := false }
def OrderOpsSaid : Prop := orderOpsRow.holds Try.pinned (OpenSpec.ofChange orderOpsSpec)

/-- ITS FALSE NEIGHBOUR: 'it returns false'. Refute it at one input. -/
def orderOpsWrong : ChangeSpec := { name := "orderOps", fn := fun _ => fun
  | [d] => { results := [.lit (.bool false)], args := [d] }
  | _ => none }
def OrderOpsWrongFalsely : Prop := orderOpsRow.holds Try.pinned (OpenSpec.ofChange orderOpsWrong)

/-- 'vergelaw24.OrderOne': WHATEVER THE INPUT: true; the input reads as it did. -/
def orderOneSpec : ChangeSpec := { name := "orderOne", fn := fun _ => fun
  | [d1, d2] => { results := [.lit (.bool true)], args := [d1, d2] }
  | _ => none }
def orderOneRow : OpenClaim := { program := "ytpnkkdpggofanaa", sum := "4c59831687ffa2adb46b9e0417cfb359372f3b4f3e52980387867300824dc626", func := "verge/vergelaw24.OrderOne", spec := "orderOne", inPlace := ["math/bits.Add64"], unfollowed := true, recurses := true, plainKeys := false, apart := false }
def OrderOneSaid : Prop := orderOneRow.holds Try.pinned (OpenSpec.ofChange orderOneSpec)

/-- ITS FALSE NEIGHBOUR: 'it returns false'. Refute it at one input. -/
def orderOneWrong : ChangeSpec := { name := "orderOne", fn := fun _ => fun
  | [d1, d2] => { results := [.lit (.bool false)], args := [d1, d2] }
  | _ => none }
def OrderOneWrongFalsely : Prop := orderOneRow.holds Try.pinned (OpenSpec.ofChange orderOneWrong)

/-- 'vergelaw24.OrderSame': WHATEVER THE INPUT: true; the input reads as it did. -/
def orderSameSpec : ChangeSpec := { name := "orderSame", fn := fun _ => fun
  | [d1, d2] => { results := [.lit (.bool true)], args := [d1, d2] }
  | _ => none }
def orderSameRow : OpenClaim := { program := "ytpnkkdpggofanaa", sum := "4c59831687ffa2adb46b9e0417cfb359372f3b4f3e52980387867300824dc626", func := "verge/vergelaw24.OrderSame", spec := "orderSame", inPlace := ["math/bits.Add64"], unfollowed := true, recurses := true, plainKeys := false, apart := false }
def OrderSameSaid : Prop := orderSameRow.holds Try.pinned (OpenSpec.ofChange orderSameSpec)

/-- ITS FALSE NEIGHBOUR: 'it returns false'. Refute it at one input. -/
def orderSameWrong : ChangeSpec := { name := "orderSame", fn := fun _ => fun
  | [d1, d2] => { results := [.lit (.bool false)], args := [d1, d2] }
  | _ => none }
def OrderSameWrongFalsely : Prop := orderSameRow.holds Try.pinned (OpenSpec.ofChange orderSameWrong)

/-- 'vergelaw21.SpecChecks': WHATEVER THE INPUT: true; the input reads as it did. -/
def specChecksSpec : ChangeSpec := { name := "specChecks", fn := fun _ => fun
  | [d1, d2] => { results := [.lit (.bool true)], args := [d1, d2] }
  | _ => none }
def specChecksRow : OpenClaim := { program := "ytpnkkdpggofanaa", sum := "4c59831687ffa2adb46b9e0417cfb359372f3b4f3e52980387867300824dc626", func := "verge/vergelaw21.SpecChecks", spec := "specChecks", inPlace := ["math/bits.Add64"], unfollowed := true, recurses := true, plainKeys := false, apart := false }
def SpecChecksSaid : Prop := specChecksRow.holds Try.pinned (OpenSpec.ofChange specChecksSpec)

/-- ITS FALSE NEIGHBOUR: 'it returns false'. Refute it at one input. -/
def specChecksWrong : ChangeSpec := { name := "specChecks", fn := fun _ => fun
  | [d1, d2] => { results := [.lit (.bool false)], args := [d1, d2] }
  | _ => none }
def SpecChecksWrongFalsely : Prop := specChecksRow.holds Try.pinned (OpenSpec.ofChange specChecksWrong)

/-- 'vergelaw21.SpecRoom': WHATEVER THE INPUT: true; the input reads as it did. -/
def specRoomSpec : ChangeSpec := { name := "specRoom", fn := fun _ => fun
  | [d1, d2, d3] => { results := [.lit (.bool true)], args := [d1, d2, d3] }
  | _ => none }
def specRoomRow : OpenClaim := { program := "ytpnkkdpggofanaa", sum := "4c59831687ffa2adb46b9e0417cfb359372f3b4f3e52980387867300824dc626", func := "verge/vergelaw21.SpecRoom", spec := "specRoom", inPlace := ["math/bits.Add64"], unfollowed := true, recurses := true, plainKeys := false, apart := false }
def SpecRoomSaid : Prop := specRoomRow.holds Try.pinned (OpenSpec.ofChange specRoomSpec)

/-- ITS FALSE NEIGHBOUR: 'it returns false'. Refute it at one input. -/
def specRoomWrong : ChangeSpec := { name := "specRoom", fn := fun _ => fun
  | [d1, d2, d3] => { results := [.lit (.bool false)], args := [d1, d2, d3] }
  | _ => none }
def SpecRoomWrongFalsely : Prop := specRoomRow.holds Try.pinned (OpenSpec.ofChange specRoomWrong)

/-- 'vergelaw24.OrderMay': WHATEVER THE INPUT: true; the input reads as it did. -/
def orderMaySpec : ChangeSpec := { name := "orderMay", fn := fun _ => fun
  | [d1, d2] => { results := [.lit (.bool true)], args := [d1, d2] }
  | _ => none }
def orderMayRow : OpenClaim := { program := "ytpnkkdpggofanaa", sum := "4c59831687ffa2adb46b9e0417cfb359372f3b4f3e52980387867300824dc626", func := "verge/vergelaw24.OrderMay", spec := "orderMay", inPlace := ["math/bits.Add64"], unfollowed := true, recurses := true, plainKeys := false, apart := false }
def OrderMaySaid : Prop := orderMayRow.holds Try.pinned (OpenSpec.ofChange orderMaySpec)

/-- ITS FALSE NEIGHBOUR: 'it returns false'. Refute it at one input. -/
def orderMayWrong : ChangeSpec := { name := "orderMay", fn := fun _ => fun
  | [d1, d2] => { results := [.lit (.bool false)], args := [d1, d2] }
  | _ => none }
def OrderMayWrongFalsely : Prop := orderMayRow.holds Try.pinned (OpenSpec.ofChange orderMayWrong)

/- THE SECOND FORM. 'bulk': how many values and letters a reading holds, each counted each time it is reached (what is shared counts as often as it is met; a slice's spare places count too). A statement '..UptoSaid' is the law's where the arguments, and the package variables that the reading takes, are together of bulk at most 1048576: NARROWER than '..Said'. Prove '..Said' where nothing that the law and all that it calls make is longer than what came in: it says more and counts as full. Else prove '..UptoSaid'. A law counts once. -/
mutual
def uptoBulk {H : Type} : DataW H → Nat
  | .lit (.string bytes) => bytes.length + 1
  | .lit _ => 1
  | .nil => 1
  | .ptr d => uptoBulk d + 1
  | .slice elems spare => uptoBulkAll elems + uptoBulkAll spare + 1
  | .agg parts => uptoBulkAll parts + 1
  | .iface _ d => uptoBulk d + 1
  | .map entries => uptoBulkEntries entries + 1
  | .held _ => 1
def uptoBulkAll {H : Type} : List (DataW H) → Nat
  | [] => 0
  | d :: r => uptoBulk d + uptoBulkAll r
def uptoBulkEntries {H : Type} : List (Lit × DataW H) → Nat
  | [] => 0
  | x :: r => uptoBulkEntry x + uptoBulkEntries r
def uptoBulkEntry {H : Type} : Lit × DataW H → Nat
  | (.string bytes, d) => bytes.length + uptoBulk d + 1
  | (_, d) => uptoBulk d + 1
 end
def uptoSmall : (H : Type) → List (DataW H) → Bool := fun _ ds => decide (uptoBulkAll ds ≤ 1048576)
def OpenSpec.upto (s : _root_.Go.ChangeSpec) : _root_.Go.OpenSpec := { _root_.Go.OpenSpec.ofChange s with cond := some uptoSmall }

/-- 'vergelaw21.SpecBegins', WHERE WHAT IT READS IS OF BULK AT MOST 1048576: true; the input reads as it did. -/
def specBeginsUptoRow : OpenClaim := { program := "ytpnkkdpggofanaa", sum := "4c59831687ffa2adb46b9e0417cfb359372f3b4f3e52980387867300824dc626", func := "verge/vergelaw21.SpecBegins", spec := "specBegins", inPlace := ["math/bits.Add64"], unfollowed := true, recurses := true, plainKeys := false, apart := false, narrowed := true }
def SpecBeginsUptoSaid : Prop := specBeginsUptoRow.holds Try.pinned (OpenSpec.upto specBeginsSpec)

/-- 'vergelaw21.SpecCancel', WHERE WHAT IT READS IS OF BULK AT MOST 1048576: true; the input reads as it did. -/
def specCancelUptoRow : OpenClaim := { program := "ytpnkkdpggofanaa", sum := "4c59831687ffa2adb46b9e0417cfb359372f3b4f3e52980387867300824dc626", func := "verge/vergelaw21.SpecCancel", spec := "specCancel", inPlace := ["math/bits.Add64"], unfollowed := true, recurses := true, plainKeys := false, apart := false, narrowed := true }
def SpecCancelUptoSaid : Prop := specCancelUptoRow.holds Try.pinned (OpenSpec.upto specCancelSpec)

/-- 'vergelaw24.OrderLine', WHERE WHAT IT READS IS OF BULK AT MOST 1048576: true; the input reads as it did. -/
def orderLineUptoRow : OpenClaim := { program := "ytpnkkdpggofanaa", sum := "4c59831687ffa2adb46b9e0417cfb359372f3b4f3e52980387867300824dc626", func := "verge/vergelaw24.OrderLine", spec := "orderLine", unfollowed := true, recurses := true, plainKeys := false, apart := false, narrowed := true }
def OrderLineUptoSaid : Prop := orderLineUptoRow.holds Try.pinned (OpenSpec.upto orderLineSpec)

/-- 'vergelaw21.SpecRhythm', WHERE WHAT IT READS IS OF BULK AT MOST 1048576: true; the input reads as it did. -/
def specRhythmUptoRow : OpenClaim := { program := "ytpnkkdpggofanaa", sum := "4c59831687ffa2adb46b9e0417cfb359372f3b4f3e52980387867300824dc626", func := "verge/vergelaw21.SpecRhythm", spec := "specRhythm", inPlace := ["math/bits.Add64"], unfollowed := true, recurses := true, plainKeys := false, apart := false, narrowed := true }
def SpecRhythmUptoSaid : Prop := specRhythmUptoRow.holds Try.pinned (OpenSpec.upto specRhythmSpec)

/-- 'vergelaw21.SpecFires', WHERE WHAT IT READS IS OF BULK AT MOST 1048576: true; the input reads as it did. -/
def specFiresUptoRow : OpenClaim := { program := "ytpnkkdpggofanaa", sum := "4c59831687ffa2adb46b9e0417cfb359372f3b4f3e52980387867300824dc626", func := "verge/vergelaw21.SpecFires", spec := "specFires", inPlace := ["math/bits.Add64"], unfollowed := true, recurses := true, plainKeys := false, apart := false, narrowed := true }
def SpecFiresUptoSaid : Prop := specFiresUptoRow.holds Try.pinned (OpenSpec.upto specFiresSpec)

/-- 'vergelaw24.OrderOps', WHERE WHAT IT READS IS OF BULK AT MOST 1048576: true; the input reads as it did. -/
def orderOpsUptoRow : OpenClaim := { program := "ytpnkkdpggofanaa", sum := "4c59831687ffa2adb46b9e0417cfb359372f3b4f3e52980387867300824dc626", func := "verge/vergelaw24.OrderOps", spec := "orderOps", unfollowed := true, recurses := true, plainKeys := false, apart := false, narrowed := true }
def OrderOpsUptoSaid : Prop := orderOpsUptoRow.holds Try.pinned (OpenSpec.upto orderOpsSpec)

/-- 'vergelaw24.OrderOne', WHERE WHAT IT READS IS OF BULK AT MOST 1048576: true; the input reads as it did. -/
def orderOneUptoRow : OpenClaim := { program := "ytpnkkdpggofanaa", sum := "4c59831687ffa2adb46b9e0417cfb359372f3b4f3e52980387867300824dc626", func := "verge/vergelaw24.OrderOne", spec := "orderOne", inPlace := ["math/bits.Add64"], unfollowed := true, recurses := true, plainKeys := false, apart := false, narrowed := true }
def OrderOneUptoSaid : Prop := orderOneUptoRow.holds Try.pinned (OpenSpec.upto orderOneSpec)

/-- 'vergelaw24.OrderSame', WHERE WHAT IT READS IS OF BULK AT MOST 1048576: true; the input reads as it did. -/
def orderSameUptoRow : OpenClaim := { program := "ytpnkkdpggofanaa", sum := "4c59831687ffa2adb46b9e0417cfb359372f3b4f3e52980387867300824dc626", func := "verge/vergelaw24.OrderSame", spec := "orderSame", inPlace := ["math/bits.Add64"], unfollowed := true, recurses := true, plainKeys := false, apart := false, narrowed := true }
def OrderSameUptoSaid : Prop := orderSameUptoRow.holds Try.pinned (OpenSpec.upto orderSameSpec)

/-- 'vergelaw21.SpecChecks', WHERE WHAT IT READS IS OF BULK AT MOST 1048576: true; the input reads as it did. -/
def specChecksUptoRow : OpenClaim := { program := "ytpnkkdpggofanaa", sum := "4c59831687ffa2adb46b9e0417cfb359372f3b4f3e52980387867300824dc626", func := "verge/vergelaw21.SpecChecks", spec := "specChecks", inPlace := ["math/bits.Add64"], unfollowed := true, recurses := true, plainKeys := false, apart := false, narrowed := true }
def SpecChecksUptoSaid : Prop := specChecksUptoRow.holds Try.pinned (OpenSpec.upto specChecksSpec)

/-- 'vergelaw21.SpecRoom', WHERE WHAT IT READS IS OF BULK AT MOST 1048576: true; the input reads as it did. -/
def specRoomUptoRow : OpenClaim := { program := "ytpnkkdpggofanaa", sum := "4c59831687ffa2adb46b9e0417cfb359372f3b4f3e52980387867300824dc626", func := "verge/vergelaw21.SpecRoom", spec := "specRoom", inPlace := ["math/bits.Add64"], unfollowed := true, recurses := true, plainKeys := false, apart := false, narrowed := true }
def SpecRoomUptoSaid : Prop := specRoomUptoRow.holds Try.pinned (OpenSpec.upto specRoomSpec)

/-- 'vergelaw24.OrderMay', WHERE WHAT IT READS IS OF BULK AT MOST 1048576: true; the input reads as it did. -/
def orderMayUptoRow : OpenClaim := { program := "ytpnkkdpggofanaa", sum := "4c59831687ffa2adb46b9e0417cfb359372f3b4f3e52980387867300824dc626", func := "verge/vergelaw24.OrderMay", spec := "orderMay", inPlace := ["math/bits.Add64"], unfollowed := true, recurses := true, plainKeys := false, apart := false, narrowed := true }
def OrderMayUptoSaid : Prop := orderMayUptoRow.holds Try.pinned (OpenSpec.upto orderMaySpec)

end Rows
end Go.Proofs.Ytpnkkdpggofanaa
