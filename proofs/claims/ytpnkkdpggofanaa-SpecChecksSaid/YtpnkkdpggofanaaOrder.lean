/- A region that draws its order: a first part that makes memory and calls, in the one order that is left, and then only reads, in stages. Of whatever program. -/
import Derived.Test.YtpnkkdpggofanaaGen
import Derived.Deep.QuietTactic
import Derived.BigQuiet
import Derived.StillTail
namespace Go.Proofs.Ytpnkkdpggofanaa
open Go.RowKit

section
variable {P : Program} {ops : Array Oper} {md : Region.Mode} {Q : Exit → Act → World → Prop} {C : World → Prop}

/-- One operation alone may come up. -/
theorem wpAny_step {k fuel : Nat} {listed : Array Bool} {a : Act} {w : World} {o : Oper} (hr : Region.ready md ops listed = [k]) (ho : ops[k]? = some o)
    (h : ∀ K : Act → World → Prop, Hid (∀ a w, wpAny P md ops Q fuel (listed.setIfInBounds k true) a w → K a w) → if Region.wanted o (yielded ops a.tmps) = true then o.wp P a w K Q else K (a.put o.dst undef) w) : wpAny P md ops Q (fuel + 1) listed a w := by
  refine wpAny_all hr (by simp) (fun i hi => ?_)
  obtain rfl : i = k := by simpa using hi
  have := h _ (show Hid _ from fun _ _ h => h)
  unfold wpOp
  simp only [ho]
  split
  · rename_i hw; rw [if_pos hw] at this; exact .inl this
  · rename_i hw; rw [if_neg hw] at this; exact this

/-- One of two may come up. -/
theorem wpAny_two {k1 k2 fuel : Nat} {listed : Array Bool} {a : Act} {w : World} {o1 o2 : Oper} (hr : Region.ready md ops listed = [k1, k2]) (ho1 : ops[k1]? = some o1) (ho2 : ops[k2]? = some o2)
    (h1 : ∀ K : Act → World → Prop, Hid (∀ a w, wpAny P md ops Q fuel (listed.setIfInBounds k1 true) a w → K a w) → if Region.wanted o1 (yielded ops a.tmps) = true then o1.wp P a w K Q else K (a.put o1.dst undef) w)
    (h2 : ∀ K : Act → World → Prop, Hid (∀ a w, wpAny P md ops Q fuel (listed.setIfInBounds k2 true) a w → K a w) → if Region.wanted o2 (yielded ops a.tmps) = true then o2.wp P a w K Q else K (a.put o2.dst undef) w) : wpAny P md ops Q (fuel + 1) listed a w := by
  refine wpAny_all hr (by simp) (fun i hi => ?_)
  rcases List.mem_cons.1 hi with rfl | hi
  · have := h1 _ (show Hid _ from fun _ _ h => h)
    unfold wpOp
    simp only [ho1]
    split
    · rename_i hw; rw [if_pos hw] at this; exact .inl this
    · rename_i hw; rw [if_neg hw] at this; exact this
  · obtain rfl : i = k2 := by simpa using hi
    have := h2 _ (show Hid _ from fun _ _ h => h)
    unfold wpOp
    simp only [ho2]
    split
    · rename_i hw; rw [if_pos hw] at this; exact .inl this
    · rename_i hw; rw [if_neg hw] at this; exact this

/-- An append alone may come up; its run is known. -/
theorem wpAny_append {k fuel : Nat} {listed : Array Bool} {a : Act} {w w' : World} {o : Oper} {t : TypeId} {s x : Operand} {vs vx v' : Value} (hr : Region.ready md ops listed = [k]) (ho : ops[k]? = some o) (hg : o.guard = none)
    (hop : o.op = .call { callee := .builtin .append, args := #[s, x], argTypes := #[t, t] }) (hs : a.eval s = vs) (hx : a.eval x = vx) (hrun : (Builtin.append_ #[t, t] o.type #[vs, vx]).run P w = .ok v' w')
    (h : wpAny P md ops Q fuel (listed.setIfInBounds k true) (a.put o.dst v') w') : wpAny P md ops Q (fuel + 1) listed a w := by
  refine wpAny_step hr ho (fun K hK => ?_)
  rw [if_pos (by unfold Region.wanted; rw [hg])]
  unfold Oper.wp execOp
  simp only [hop, resolve, invoke, builtin, Sem.run_bind, Sem.run_pure, Result.andThen_ok, List.map_toArray, List.map_cons, List.map_nil, hs, hx, hrun]
  exact hK.out _ _ h

/-- All that is left only reads. -/
theorem wpAny_quiet_rest {k fuel : Nat} {listed : Array Bool} {a : Act} {w : World} (l : List Oper) (hs : Region.noSelect ops = true) (hlen : l.length = fuel) (hl : ops.toList.drop k = l) (hB : Region.lexFrom md ops fuel k listed = true)
    (h : wpQuiet P ops (fun w' => ∃ n, w' = w.drewN n) (fun a' => ∀ w', (∃ n, w' = w.drewN n) → Q .normal a' w') l a) : wpAny P md ops Q fuel listed a w := by
  subst hlen
  refine wpAny_of_quiet (C := fun w' => ∃ n, w' = w.drewN n) (Q := fun a' => ∀ w', (∃ n, w' = w.drewN n) → Q .normal a' w') (fun _ w' hw' h => h w' hw') _ _ _ _ ⟨0, rfl⟩ ?_
  exact wpAnyQ_lex hs l k listed a (fun j => by rw [← hl]; simp [List.getElem?_drop]) hB h

end
end Go.Proofs.Ytpnkkdpggofanaa
