/- vergeref24.Right's great region: its operations may be walked in the order of the text. -/
import Derived.Test.YtpnkkdpggofanaaRefRightA
namespace Go.Proofs.Ytpnkkdpggofanaa
open Go.Shelf Go.RowKit Go.Lib Go.Sort Go.Proofs

/-- The operations of each region of a code that draws its order, in the order of the text. -/
def drawnOps : Code → List (List Oper)
  | .region _ ops true => [ops.toList]
  | .seq a b => drawnOps a ++ drawnOps b
  | .cond _ a b => drawnOps a ++ drawnOps b
  | .block _ b => drawnOps b
  | .loop b => drawnOps b
  | .scope b => drawnOps b
  | .rangeFunc _ _ _ b => drawnOps b
  | _ => []
def nthOps (f : Func) (n : Nat) : List Oper := (((f.body.map drawnOps).getD [])[n]?).getD []
set_option maxRecDepth 1000000 in
theorem right_lex : Region.lexB .any (nthOps Try.f29 1).toArray = true := by kernel_rfl
end Go.Proofs.Ytpnkkdpggofanaa
