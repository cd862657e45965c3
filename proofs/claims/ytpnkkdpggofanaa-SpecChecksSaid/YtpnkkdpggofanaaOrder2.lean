/- A region that draws its order, held by a condition: an append alone comes up, its run known. Of whatever program. -/
import Derived.Test.YtpnkkdpggofanaaOrder
import Derived.Deep.RegionHeld3
namespace Go.Proofs.Ytpnkkdpggofanaa
open Go.RowKit

section
variable {P : Program} {ops : Array Oper} {Q : Exit → Act → World → Prop} {md : Region.Mode} {S : World → Prop}
theorem wpAnyH_one {k fuel : Nat} {listed : Array Bool} {a : Act} {w : World} {o : Oper} (hr : Region.ready md ops listed = [k]) (ho : ops[k]? = some o)
    (h : ∀ K : Act → World → Prop, Hid (∀ a w, S w → wpAnyH P md ops Q S fuel (listed.setIfInBounds k true) a w → K a w) → if Region.wanted o (yielded ops a.tmps) = true then o.wp P a w K Q else K (a.put o.dst undef) w) : wpAnyH P md ops Q S (fuel + 1) listed a w :=
  wpAnyH_ready hr (by simp) (AllReadyH.cons ho (fun K' hK => h K' (show Hid _ from fun a w hS hW => hK.out a w hS (fun _ => hW))) AllReadyH.nil)
theorem wpAnyH_append {k fuel : Nat} {listed : Array Bool} {a : Act} {w w' : World} {o : Oper} {t : TypeId} {s x : Operand} {vs vx v' : Value} (hr : Region.ready md ops listed = [k]) (ho : ops[k]? = some o) (hg : o.guard = none)
    (hop : o.op = .call { callee := .builtin .append, args := #[s, x], argTypes := #[t, t] }) (hs : a.eval s = vs) (hx : a.eval x = vx) (hrun : (Builtin.append_ #[t, t] o.type #[vs, vx]).run P w = .ok v' w') (hS : S w')
    (h : wpAnyH P md ops Q S fuel (listed.setIfInBounds k true) (a.put o.dst v') w') : wpAnyH P md ops Q S (fuel + 1) listed a w := by
  refine wpAnyH_one hr ho (fun K hK => ?_)
  rw [if_pos (by unfold Region.wanted; rw [hg])]
  unfold Oper.wp execOp
  simp only [hop, resolve, invoke, builtin, Sem.run_bind, Sem.run_pure, Result.andThen_ok, List.map_toArray, List.map_cons, List.map_nil, hs, hx, hrun]
  exact hK.out _ _ hS h
end
end Go.Proofs.Ytpnkkdpggofanaa
