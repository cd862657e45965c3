/- order.done's iterator, by its walk. -/
import Derived.Test.YtpnkkdpggofanaaOpsW
import Derived.RangeFuncNested
import Derived.RangeFuncBound
import Derived.RangeFuncCalls
import Derived.RangeFuncLeaves
import Derived.RangeFuncKeeps
import Derived.Shelf.Abstract
import Derived.Shelf.AbstractIn
import Derived.OwnWalkIn
import Derived.TacticsInMore
import Derived.RegionIn
import Derived.LoopNIn
import Derived.LoopIn
namespace Go.Proofs.Ytpnkkdpggofanaa
open Go.RowKit Go.Shelf Go.Sort
attribute [local go_sem] Oper.semAt_some

theorem Reads.ops {w : World} {v : Value} {l : List OpD} {n : Nat} (h : Reads w v n (l.flatMap opC)) :
    ∃ ao c, v = .slice ao n c ∧ ∀ i e, l[i]? = some e → ∃ b o, ao = some ⟨b, o, none⟩ ∧ ∀ r u, (opC e)[r]? = some u → w.cell? ⟨b, o + i * 6 + r, none⟩ = some u := by
  obtain ⟨ao, c, hv, _, hx⟩ := h
  refine ⟨ao, c, hv, fun i e he => ?_⟩
  have key := fun r u hu => flatMap_getElem? opC 6 opC_len l i e r u he hu
  obtain ⟨b, o, hao, hc⟩ := hx (fun h0 => by have := key 0 _ rfl; rw [h0] at this; simp at this)
  exact ⟨b, o, hao, fun r u hu => by simpa [Nat.add_assoc] using hc _ _ (key r u hu)⟩

theorem grownBy_of_below {w w' : World} (h : Below w.heap.size w w') (row : Option Nat) : w.grownBy w' row := ⟨h.os, h.tape, h.output, h.size, fun k hk _ => h.block k hk⟩
theorem filter_prefix {α : Type} (p : α → Bool) (l : List α) (k : Nat) : (l.take k).filter p <+: l.filter p := by
  have h := List.take_prefix k l
  exact h.filter p
theorem filter_lt {α : Type} (p : α → Bool) (l : List α) (k : Nat) (h : k < l.length) (hp : p l[k] = true) : ((l.take k).filter p).length < (l.filter p).length := by
  have h1 := filter_snoc p l k h
  rw [if_pos hp] at h1
  have h2 := (filter_prefix p l (k + 1)).length_le
  rw [h1, List.length_append] at h2
  simp at h2; omega
theorem ownFrom_block {β : Type} (B Bx : Nat) (c : Array Value) (t : TypeId) (fr : Nat × Nat) : OwnFrom B (fun (_ : β) W => W.heap[Bx]? = some (.cells c t fr)) := by
  intro s W W' row hs hg hr
  refine (hg.block Bx (Array.getElem?_eq_some_iff.1 hs).1 ?_).trans hs
  intro e
  obtain ⟨_, o, ho, hc⟩ := hr Bx e.symm
  rw [hs] at ho; cases ho; simp [Obj.isCells] at hc
theorem ownFrom_box {β : Type} (B Bx : Nat) (t : TypeId) (f : β → Value) : OwnFrom B (fun s W => Boxed W Bx t (f s)) := by
  intro s W W' row hs hg hr
  refine (hg.block Bx (Array.getElem?_eq_some_iff.1 hs).1 ?_).trans hs
  intro e
  obtain ⟨_, o, ho, hc⟩ := hr Bx e.symm
  rw [show W.heap[Bx]? = _ from hs] at ho; cases ho; simp [Obj.isCells] at hc

/-- The calls that did, in the order in which they did. -/
def doneOf (l : List Ev) : List OpD := (stabL (opsOf l)).filter (fun o => decide (0 ≤ o.did))
def opV (o : OpD) : Value := .agg #[.int .i64 o.no, .int .i64 o.thr, .int .i64 o.what, .int .i64 o.beg, .int .i64 o.did, .int .i64 o.fin]

/-- What a round of such a loop keeps: each block of ops that was there. -/
structure KeepsOps (W W' : World) : Prop where
  size : W.heap.size ≤ W'.heap.size
  same : ∀ (k : Nat) (cur : Array Value) (fz : Nat × Nat), W.heap[k]? = some (.cells cur 40 fz) → W'.heap[k]? = W.heap[k]?
theorem KeepsOps.refl (W : World) : KeepsOps W W := ⟨Nat.le_refl _, fun _ _ _ _ => rfl⟩
theorem KeepsOps.trans {A B C : World} (h : KeepsOps A B) (k : KeepsOps B C) : KeepsOps A C :=
  ⟨Nat.le_trans h.size k.size, fun i cur fz hi => (k.same i cur fz ((h.same i cur fz hi).trans hi)).trans (h.same i cur fz hi)⟩
theorem KeepsOps.of_below {A B : World} (h : Below A.heap.size A B) : KeepsOps A B := ⟨h.size, fun i _ _ hi => h.block i (Array.getElem?_eq_some_iff.1 hi).1⟩
theorem KeepsOps.of_grown {A B : World} {row : Option Nat} (hg : A.grownBy B row) (h : ∀ r, row = some r → ∀ cur fz, A.heap[r]? ≠ some (.cells cur 40 fz)) : KeepsOps A B :=
  ⟨hg.size, fun i cur fz hi => hg.block i (Array.getElem?_eq_some_iff.1 hi).1 (fun e => h i e.symm cur fz hi)⟩
theorem KeepsOps.owns {A B : World} (hk : KeepsOps A B) {base n : Nat} {v : Value} {xs : List Value} (h : A.ownsRow base 40 6 v n xs) : B.ownsRow base 40 6 v n xs := by
  refine ⟨h.1, ?_⟩
  rcases h.2 with h | ⟨g, cap, cur, hv, hg, hb, r⟩
  · exact .inl h
  · exact .inr ⟨g, cap, cur, hv, hg, (hk.same g _ _ hb).trans hb, r⟩

set_option maxRecDepth 100000 in
set_option maxHeartbeats 4000000 in
theorem done1_in (n : Nat) (hn : 1 ≤ n) (l bL : Nat) (v : Value) (evs : List Ev) (hev : evs.length ≤ 1000000) (J Jx : List OpD → World → Prop) (W : World)
    (hJ : AbidesFrom W.heap.size J)
    (hY : ∀ pre x W1, J pre W1 → pre.length < (doneOf evs).length → YieldAt Fence.wide (n - 1) Try.prog l #[opV x] W1 fun e W' =>
      (e = .returned (.bool true) ∧ J (pre ++ [x]) W' ∧ KeepsOps W1 W') ∨ (e = .returned (.bool false) ∧ Jx (pre ++ [x]) W'))
    (hc : W.cell? ⟨bL, 0, none⟩ = some v) (hr : Reads W v evs.length (evs.flatMap evC)) (h0 : J [] W) :
    CallsIn Fence.wide n Try.prog 50 #[.func (.yield l) #[] #[], .pointer (some ⟨bL, 0, none⟩)] W fun e W' => (∃ v, e = .returned v) ∧
      ((∃ ys, ys = doneOf evs ∧ J ys W') ∨ (∃ pre, pre <+: doneOf evs ∧ Jx pre W')) := by
  obtain ⟨ao, c, rfl, _⟩ := hr.evs
  have HR := hid (ops_any evs (.slice ao evs.length c) W hr hev)
  have hol : (opsOf evs).length ≤ 1000000 := by
    rw [opsOf, opsB_len]; have := opsA_len evs evs.length; omega
  obtain ⟨ds, hds⟩ : ∃ ds, ds = stabL (opsOf evs) := ⟨_, rfl⟩
  have hdl : ds.length = (opsOf evs).length := by rw [hds]; exact stabL_len _
  have HSRT := hid (fun v' W1 h => sorted_any (opsOf evs) v' W1 h hol)
  rw [← hds, ← hdl] at HSRT
  rw [← hdl] at HR hol
  have HD : doneOf evs = ds.filter (fun o => decide (0 ≤ o.did)) := by rw [hds]; rfl
  rw [HD] at hY ⊢
  have HJJ := hid hJ
  have HYY := hid hY
  have HJ0 := hid h0
  clear hr hds hdl HD hJ hY h0
  refine callsIn_of_wp Try.func50 rfl trivial ?_ rfl
  simp only [Try.ntmps50, List.size_toArray, List.length_cons, List.length_nil, Nat.reduceAdd, Nat.reduceSub, Array.replicate_succ, Array.replicate_zero, List.push_toArray, List.append_toArray, List.nil_append, List.cons_append]
  gi_wp2
  refine ⟨trivial, (callsIn_wide.2 HR.out).mono ?_⟩
  rintro e W1 ⟨v1, rfl, ho1, hb1⟩
  have H1 := hid (HSRT.out v1 W1 (Reads.of_owns ho1))
  have HB1 := hid hb1
  clear ho1 hb1
  gi_wp2
  refine ⟨trivial, (callsIn_wide.2 H1.out).mono ?_⟩
  rintro e W2 ⟨v2, rfl, ho2, hb2⟩
  obtain ⟨ao2, c2, rfl⟩ := owns_shape ho2
  have hB : Below W.heap.size W W2 := HB1.out.trans (hb2.mono HB1.out.size)
  have HJ2 := hid (HJJ.out _ _ _ none HJ0.out (grownBy_of_below hB _) (fun r e => by cases e))
  have HO2 := hid ho2
  have HB := hid hB
  clear ho2 hb2 hB
  gi_wp2
  gi_loopw [9] (fun i wr => ∃ k : Nat, k ≤ ds.length ∧ i = .int .i64 k ∧ J ((ds.take k).filter (fun o => decide (0 ≤ o.did))) wr ∧ KeepsOps W2 wr)
    (fun i _ => ds.length - (intOf i).toNat)
  case atStart => exact ⟨0, Nat.zero_le _, rfl, HJ2.out, KeepsOps.refl _⟩
  case round =>
    obtain ⟨k, hk, rfl, hJs, hnx⟩ := hrel
    by_cases hlt : k < ds.length
    · obtain ⟨ao', c', hv', hx'⟩ := (Reads.of_owns (hnx.owns HO2.out)).ops
      simp only [Value.slice.injEq] at hv'
      obtain ⟨rfl, _, rfl⟩ := hv'
      obtain ⟨b, o, rfl, hcell⟩ := hx' k _ (List.getElem?_eq_getElem hlt)
      clear hx'
      have p0 := hcell 0 _ rfl
      have p1 := hcell 1 _ rfl
      have p2 := hcell 2 _ rfl
      have p3 := hcell 3 _ rfl
      have p4 := hcell 4 _ rfl
      have p5 := hcell 5 _ rfl
      simp only [Nat.add_zero] at p0
      clear hcell
      have hst := hid (filter_snoc (fun o : OpD => decide (0 ≤ o.did)) ds k hlt)
      have hlen := hid (filter_lt (fun o : OpD => decide (0 ≤ o.did)) ds k hlt)
      have hpre := hid (filter_prefix (fun o : OpD => decide (0 ≤ o.did)) ds (k + 1))
      have HW0 := hid (fun o1 => HJJ.out _ _ _ none hJs (World.grownBy_alloc wr o1 none) (fun r e => by cases e))
      have HN := hid (fun o1 => hnx.trans (KeepsOps.of_below ((Below.refl wr.heap.size wr).alloc (Nat.le_refl _) o1)))
      clear hJs hnx
      obtain ⟨x, hx⟩ : ∃ x, x = ds[k] := ⟨_, rfl⟩
      rw [← hx] at p0 p1 p2 p3 p4 p5 hst hlen
      clear hx
      by_cases hp : 0 ≤ x.did
      · have hst' := hst.out
        rw [if_pos (by simpa using hp)] at hst'
        have hst2 := hid hst'
        have hlen2 := hid (hlen.out (by simpa using hp))
        clear hst' hst hlen
        obtain ⟨fn, tmps, assign, body, hy, hR⟩ := HYY.out _ x _ (HW0.out (.cells #[.int .i64 x.no, .int .i64 x.thr, .int .i64 x.what, .int .i64 x.beg, .int .i64 x.did, .int .i64 x.fin] 40)) hlen2.out
        simp only [opV] at hy
        gi_wp2
        refine hR.mono ?_
        rintro e W3 (⟨rfl, hJ3, hk3⟩ | ⟨rfl, hJx3⟩)
        · gi_wp2
          go_roundw
          case rel => exact ⟨k + 1, by omega, by go_num, by rw [hst2.out]; exact hJ3, (HN.out _).trans hk3⟩
          case measure => simp [intOf]; omega
        · gi_wp2
          refine bodyPost_ret (results_none rfl _ _ _) rfl ?_
          exact ⟨⟨_, rfl⟩, .inr ⟨_, by rw [← hst2.out]; exact hpre.out, hJx3⟩⟩
      · have hst' := hst.out
        rw [if_neg (by simpa using hp), List.append_nil] at hst'
        have hst2 := hid hst'
        clear hst' hst hlen
        gi_wp2
        refine ⟨fun _ h => (by cases h), ?_⟩
        gi_wp2
        go_roundw
        case rel => exact ⟨k + 1, by omega, by go_num, by rw [hst2.out]; exact HW0.out _, HN.out _⟩
        case measure => simp [intOf]; omega
    · obtain rfl : k = ds.length := by omega
      gi_wp2
      go_end0
      exact ⟨⟨_, rfl⟩, .inl ⟨_, rfl, by rw [List.take_length] at hJs; exact hJs⟩⟩
end Go.Proofs.Ytpnkkdpggofanaa
