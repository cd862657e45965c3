/- vergeref24.Right, what it computes. -/
import Derived.Test.YtpnkkdpggofanaaRefLine
namespace Go.Proofs.Ytpnkkdpggofanaa
open Go.Shelf Go.RowKit Go.Lib Go.Sort Go.Proofs
def rthere (i : Nat) (e : Ev) (o : OpD) : Bool := decide (o.beg ≤ (i : Int)) && (((i : Int) == o.beg) == (e.kind == 1)) && (decide (o.fin < 0) || decide ((i : Int) ≤ o.fin)) && (!isDoes e.kind || ((i : Int) == o.did)) && (e.kind != 2 || (decide (0 ≤ o.did) && decide (o.did < (i : Int))))
def thereTo (os : List OpD) (i : Nat) (e : Ev) : Nat → Bool
  | 0 => false
  | k + 1 => match os[k]? with
    | some o => if o.no = e.call then rthere i e o else thereTo os i e k
    | none => thereTo os i e k
theorem thereTo_succ (os : List OpD) (i : Nat) (e : Ev) (k : Nat) (h : k < os.length) : thereTo os i e (k + 1) = if os[k].no = e.call then rthere i e os[k] else thereTo os i e k := by
  rw [thereTo, List.getElem?_eq_getElem h]
def refRight (l : List Ev) (os : List OpD) : Bool := (List.range l.length).all fun i => match l[i]? with
  | some e => thereTo os i e os.length
  | none => true
theorem refRight_false (l : List Ev) (os : List OpD) (i : Nat) (hi : i < l.length) (h : thereTo os i l[i] os.length = false) : refRight l os = false := by
  unfold refRight
  rw [List.all_eq_false]
  refine ⟨i, List.mem_range.2 hi, ?_⟩
  rw [List.getElem?_eq_getElem hi]
  simp [h]
theorem refRight_true (l : List Ev) (os : List OpD) (h : ∀ i (hi : i < l.length), thereTo os i l[i] os.length = true) : refRight l os = true := by
  unfold refRight
  rw [List.all_eq_true]
  intro i hi
  have hi := List.mem_range.1 hi
  rw [List.getElem?_eq_getElem hi]
  exact h i hi

end Go.Proofs.Ytpnkkdpggofanaa
