/- The document's machine as it lies in memory: its rows of calls and of timers, and what a store or an append does to them. -/
import Derived.Test.YtpnkkdpggofanaaRmC
import Derived.Test.YtpnkkdpggofanaaRmD
import Derived.Test.YtpnkkdpggofanaaOrder2
namespace Go.Proofs.Ytpnkkdpggofanaa
open Go.RowKit

theorem rm_call_info : (Try.prog.info? 115).map (fun i => (i.zero, i.size, i.bytes)) = some (some (.agg #[.int .i64 0, .int .i64 0, .int .i64 0, .int .i64 0, .int .u64 0, .int .u64 0, .int .u64 0, .int .u64 0, .int .u64 0, .int .i64 0, .bool false, .bool false, .int .u64 0, .int .u64 0, .int .i64 0]), 15, 112) := rcl_info

/-- A row stands if its block does. -/
theorem row_same {w w' : World} {B : Nat} {e : TypeId} {size n : Nat} {v : Value} {xs : List Value} (h : w.ownsRow B e size v n xs) (hb : ∀ g, v.ownBlock = some g → w'.heap[g]? = w.heap[g]?) : w'.ownsRow B e size v n xs := by
  obtain ⟨h1, h2 | ⟨g, cap, cur, rfl, hg, hc, r⟩⟩ := h
  · exact ⟨h1, .inl h2⟩
  · exact ⟨h1, .inr ⟨g, cap, cur, rfl, hg, (hb g rfl).trans hc, r⟩⟩
theorem row_lt {w : World} {B : Nat} {e : TypeId} {size n : Nat} {v : Value} {xs : List Value} (h : w.ownsRow B e size v n xs) {g : Nat} (hg : v.ownBlock = some g) : B ≤ g ∧ g < w.heap.size := by
  obtain ⟨_, ⟨rfl, _⟩ | ⟨k, cap, cur, rfl, hk, hc, _⟩⟩ := h
  · simp [Value.ownBlock] at hg
  · simp [Value.ownBlock] at hg; subst hg; exact ⟨hk, (Array.getElem?_eq_some_iff.1 hc).1⟩
theorem row_chg {S : Nat → Prop} {w w' : World} {B : Nat} {e : TypeId} {size n : Nat} {v : Value} {xs : List Value} (h : w.ownsRow B e size v n xs) (hc : Chg S w w') (hn : ∀ g, v.ownBlock = some g → ¬ S g) : w'.ownsRow B e size v n xs :=
  row_same h (fun g hg => hc.block g (row_lt h hg).2 (hn g hg))
theorem row_ne {w : World} {B B' : Nat} {e e' : TypeId} {size size' n n' : Nat} {v v' : Value} {xs xs' : List Value} (h : w.ownsRow B e size v n xs) (h' : w.ownsRow B' e' size' v' n' xs') (he : e ≠ e') {g : Nat} (hg : v.ownBlock = some g) : v'.ownBlock ≠ some g := by
  obtain ⟨_, ⟨rfl, _⟩ | ⟨k, cap, cur, rfl, _, hc, _⟩⟩ := h
  · simp [Value.ownBlock] at hg
  obtain ⟨_, ⟨rfl, _⟩ | ⟨k', cap', cur', rfl, _, hc', _⟩⟩ := h'
  · simp [Value.ownBlock]
  · simp [Value.ownBlock] at hg ⊢
    subst hg
    intro e
    subst e
    rw [hc] at hc'
    simp at hc'
    exact he hc'.2

theorem seg_take (l xs : List Value) (o k n : Nat) (hx : xs.length = k) (ho : o + k ≤ n) (hn : n ≤ l.length) : (l.take o ++ xs ++ l.drop (o + k)).take n = (l.take n).take o ++ xs ++ (l.take n).drop (o + k) := by
  apply List.ext_getElem?
  intro j
  simp only [List.getElem?_take, List.getElem?_append, List.length_append, List.length_take, List.getElem?_drop]
  have e1 : min o l.length = o := by omega
  have e2 : min o (min n l.length) = o := by omega
  rw [e1, e2, hx]
  by_cases h1 : j < n
  · rw [if_pos h1]
    by_cases h2 : j < o + k
    · rw [if_pos h2, if_pos h2]
      by_cases h3 : j < o
      · simp [h3, h1]
      · simp [h3]
    · rw [if_neg h2, if_neg h2, show o + k + (j - (o + k)) = j by omega, if_pos h1]
  · rw [if_neg h1, if_neg (by omega), show o + k + (j - (o + k)) = j by omega, if_neg h1]
/-- A store into one place of a row. -/
theorem row_store {w : World} {B : Nat} {e : TypeId} {size n i : Nat} {v : Value} {xs cs : List Value} (h : w.ownsRow B e size v n xs) (hi : i < n) (hc : cs.length = size) (h1 : ∀ v ∈ cs, v.oneCell' = true) (hinfo : (Try.prog.info? e).map (·.size) = some size) :
    ∃ g cap w', v = .slice (some ⟨g, 0, none⟩) n cap ∧ n ≤ cap ∧ cap ≤ maxLen ∧ (storeVar e ⟨g, i * size, none⟩ (.agg cs.toArray)).run Try.prog w = .ok () w' ∧ w'.ownsRow B e size v n (xs.take (i * size) ++ cs ++ xs.drop (i * size + size)) ∧ Chg (fun k => v.ownBlock = some k) w w' := by
  obtain ⟨hx, ⟨rfl, hn⟩ | ⟨g, cap, cur, rfl, hg, hcur, hcap, hmax, hsz, htk⟩⟩ := h
  · omega
  have hle : (i + 1) * size ≤ n * size := Nat.mul_le_mul_right _ hi
  have hle2 : n * size ≤ cap * size := Nat.mul_le_mul_right _ hcap
  rw [Nat.succ_mul] at hle
  have hst := run_storeCells_at Try.prog g (i * size) e cs 0 cur w hcur (by omega) h1
  refine ⟨g, cap, w.setRow g (cur.toList.take (i * size + 0) ++ cs ++ cur.toList.drop (i * size + 0 + cs.length)).toArray, rfl, hcap, hmax, ?_, ?_, ?_⟩
  · cases hq : Try.prog.info? e with
    | none => simp [hq] at hinfo
    | some r =>
      have hr : r.size = size := by simpa [hq] using hinfo
      have hs : cs.toArray.size = r.size := by simp [hc, hr]
      simp [storeVar, sizeOf, typeInfo, hq, Value.cells, hs, hst]
  · refine ⟨by simp [List.length_take, List.length_drop]; omega, .inr ⟨g, cap, _, rfl, hg, setRow_heap w g cur _ e (0, 0) hcur, hcap, hmax, ?_, ?_⟩⟩
    · simp [List.length_take, List.length_drop]; omega
    · simp only [Nat.add_zero, hc]
      rw [seg_take _ _ _ _ _ hc (by omega) (by simp; omega), htk]
  · exact ⟨rfl, rfl, rfl, by simp, fun k _ hk => setRow_other w g k _ (fun e => hk (by simp [Value.ownBlock, e]))⟩

section
variable {P : Program} {ops : Array Oper} {Q : Exit → Act → World → Prop} {md : Region.Mode} {S : World → Prop}
/-- One of two may come up. -/
theorem held_two {k1 k2 fuel : Nat} {listed : Array Bool} {a : Act} {w : World} {o1 o2 : Oper} (hr : Region.ready md ops listed = [k1, k2]) (ho1 : ops[k1]? = some o1) (ho2 : ops[k2]? = some o2)
    (h1 : ∀ K : Act → World → Prop, Hid (∀ a w, S w → wpAnyH P md ops Q S fuel (listed.setIfInBounds k1 true) a w → K a w) → if Region.wanted o1 (yielded ops a.tmps) = true then o1.wp P a w K Q else K (a.put o1.dst undef) w)
    (h2 : ∀ K : Act → World → Prop, Hid (∀ a w, S w → wpAnyH P md ops Q S fuel (listed.setIfInBounds k2 true) a w → K a w) → if Region.wanted o2 (yielded ops a.tmps) = true then o2.wp P a w K Q else K (a.put o2.dst undef) w) : wpAnyH P md ops Q S (fuel + 1) listed a w :=
  wpAnyH_ready hr (by simp) (AllReadyH.cons ho1 (fun K' hK => h1 K' (show Hid _ from fun a w hS hW => hK.out a w hS (fun _ => hW))) (AllReadyH.cons ho2 (fun K' hK => h2 K' (show Hid _ from fun a w hS hW => hK.out a w hS (fun _ => hW))) AllReadyH.nil))
end
structure RRep (B : Nat) (w : World) (bm : Nat) (R : Rm) (vc vt : Value) : Prop where
  base : B ≤ bm
  m : Blk w bm 91 (mcC R vc vt)
  calls : w.ownsRow B 115 15 vc R.calls.length (R.calls.flatMap clC')
  tms : w.ownsRow B 105 8 vt R.tms.length (R.tms.flatMap rtC)
/-- What a step ends in: did it come, and the machine behind it. -/
def StepEnds (B : Nat) (w : World) (bm : Nat) (R : Rm) (o : Option Rm) (x : Ending) (w' : World) : Prop :=
  x = .returned (.bool o.isSome) ∧ ∃ vc vt, RRep B w' bm (o.getD R) vc vt ∧ Below B w w'
section
variable {B : Nat} {w w' : World} {bm : Nat} {R : Rm} {vc vt : Value}
theorem RRep.chg {S : Nat → Prop} (h : RRep B w bm R vc vt) (hc : Chg S w w') (h1 : ¬ S bm) (h2 : ∀ g, vc.ownBlock = some g → ¬ S g) (h3 : ∀ g, vt.ownBlock = some g → ¬ S g) : RRep B w' bm R vc vt :=
  ⟨h.base, h.m.chg hc h1, row_chg h.calls hc h2, row_chg h.tms hc h3⟩
theorem RRep.below (h : RRep B w bm R vc vt) (hb : Below w.heap.size w w') : RRep B w' bm R vc vt :=
  ⟨h.base, h.m.kept (hb.block _ h.m.lt), row_same h.calls (fun g hg => hb.block g (row_lt h.calls hg).2), row_same h.tms (fun g hg => hb.block g (row_lt h.tms hg).2)⟩
theorem RRep.bm_calls (h : RRep B w bm R vc vt) : vc.ownBlock ≠ some bm := h.m.ne_row h.calls (by decide)
theorem RRep.bm_tms (h : RRep B w bm R vc vt) : vt.ownBlock ≠ some bm := h.m.ne_row h.tms (by decide)
theorem RRep.reads (h : RRep B w bm R vc vt) : ∀ W, Chg (· = bm) w W → Reads W vt R.tms.length (R.tms.flatMap rtC) := fun _ hc =>
  Reads.of_owns (row_chg h.tms hc (fun _ hg e => h.bm_tms (e ▸ hg)))
theorem RRep.lt (h : RRep B w bm R vc vt) : B ≤ w.heap.size := Nat.le_trans h.base (Nat.le_of_lt h.m.lt)
theorem rno (h : RRep B w' bm R vc vt) (hb : Below B w w') : StepEnds B w bm R none (.returned (.bool false)) w' := ⟨rfl, vc, vt, h, hb⟩
end
theorem rbusy_upto {l : List Cl} {thr : Int} {k : Nat} (hk : k < l.length) (h : l[k].opn = true) (ht : l[k].bg.thr = thr) : rbusy l thr = true := by
  unfold rbusy; rw [List.any_eq_true]; exact ⟨l[k], List.getElem_mem hk, by simp [h, ht]⟩
theorem rbusy_not {l : List Cl} {thr : Int} (h : ∀ j (hj : j < l.length), ¬ (l[j].opn = true ∧ l[j].bg.thr = thr)) : rbusy l thr = false := by
  unfold rbusy
  rw [List.any_eq_false]
  intro c hc
  obtain ⟨j, hj, rfl⟩ := List.mem_iff_getElem.1 hc
  have := h j hj
  simpa using this
end Go.Proofs.Ytpnkkdpggofanaa
