/- maps.Keys over a map with uint64 keys; slices.AppendSeq, Collect, Sorted at []uint64: by their walks. -/
import Derived.Test.YtpnkkdpggofanaaMap
import Derived.Test.YtpnkkdpggofanaaSortN
import Derived.Sort.MapsRangeIn
import Derived.Lib.SlKeysI
import Derived.Maps.Range
import Derived.RangeFuncNested
import Derived.RangeFuncBound
import Derived.RangeFuncCalls
import Derived.RangeFuncLeaves
import Derived.RangeFuncKeeps
import Derived.Shelf.Abstract
import Derived.Shelf.AbstractIn
import Derived.OwnWalkIn
import Derived.TacticsInMore
import Derived.RegionIn
import Derived.LoopNIn
import Derived.LoopIn
namespace Go.Proofs.Ytpnkkdpggofanaa
open Go.RowKit Go.Sort Go.Shelf Go.Proofs
attribute [local go_sem] Oper.semAt_some

abbrev encU : Int → Value := Value.int .u64
/-- Whatever an element is, it reads. -/
def anyR : Value → Option (DataW Unit × List MemPlace) := fun _ => some (.nil, [])

theorem u64_key : Try.prog.underlying 29 = some (.int .u64) := Try.underlying29
theorem u64_keyed : Maps.Keyed Try.prog 29 := Maps.int_keyed Try.underlying29

theorem keyOf_u64 {key : Value} {kl : Lit} (h : keyOf Try.prog 29 key = some kl) : ∃ x : Int, key = encU x ∧ kl = .int .u64 x := by
  obtain ⟨x, hx, hk, _⟩ := Maps.keyOf_int_inv Try.underlying29 h
  exact ⟨x, hx, hk⟩

theorem mapIs_owns {ν : Type} {encV : ν → Value} {w : World} {b : Nat} {m : List (Int × ν)} (h : MapIs encU encV w b m) (hwf : ∀ p ∈ m, (Lit.int .u64 p.1).wf = true) (hn : m.length ≤ maxLen) :
    ∃ D : DataW Unit, w.ownsMap Try.prog 29 anyR b m.length D ∧ (∀ x, Maps.has D (.int .u64 x) = true ↔ x ∈ m.map (·.1)) ∧ Maps.size D = m.length := by
  obtain ⟨es, cl, hb, he, hnd, hbn, hcl⟩ := h
  have hks := keys_of_pairs he
  have hlen : es.size = m.length := by have := congrArg List.length he; simpa using this
  have hrd : ∀ x ∈ es.toList, ∃ k, x.key = encU k ∧ k ∈ m.map (·.1) ∧ WideElems.rd Try.prog 29 anyR x = some (.int .u64 k, .nil) := by
    intro x hx
    have h1 : x.key ∈ es.toList.map (·.key) := List.mem_map_of_mem hx
    rw [hks] at h1
    obtain ⟨k, hk, hkx⟩ := List.mem_map.1 h1
    obtain ⟨p, hp, rfl⟩ := List.mem_map.1 hk
    refine ⟨p.1, hkx.symm, hk, ?_⟩
    simp only [WideElems.rd, ← hkx, Maps.keyOf_int_mk Try.underlying29 (hwf p hp), anyR, Option.bind_some, Option.map_some]
  have F : WideElems.Fit Try.prog 29 anyR es cl := by
    refine ⟨by omega, (Go.MapKept.stamped_iff es cl).2 ⟨hcl, hbn, ?_⟩, fun x hx => by obtain ⟨k, _, _, h⟩ := hrd x hx; exact ⟨_, h⟩⟩
    have : (es.toList.map (·.key)).Pairwise (· ≠ ·) := by
      rw [hks, List.pairwise_map]
      exact hnd.imp fun hne e => hne (by simpa [encU] using e)
    exact List.pairwise_map.1 this
  refine ⟨_, ⟨es, cl, hb, F, by omega, rfl⟩, fun x => ?_, ?_⟩
  · rw [Maps.has_eq, List.any_eq_true]
    constructor
    · rintro ⟨p, hp, hs⟩
      obtain ⟨y, hy, rfl⟩ := List.mem_map.1 (mem_sorted.1 hp)
      obtain ⟨k, _, hk, hr⟩ := hrd y hy
      rw [WideElems.rg_of hr] at hs
      have : k = x := by simpa [Lit.sameKey] using hs
      exact this ▸ hk
    · intro hx
      have h1 : encU x ∈ (m.map (·.1)).map encU := List.mem_map_of_mem hx
      rw [← hks] at h1
      obtain ⟨y, hy, hyk⟩ := List.mem_map.1 h1
      obtain ⟨k, hk, _, hr⟩ := hrd y hy
      have : k = x := by rw [hk] at hyk; simpa [encU] using hyk
      subst this
      exact ⟨_, mem_sorted.2 (List.mem_map_of_mem hy), by rw [WideElems.rg_of hr]; simp [Lit.sameKey]⟩
  · simp [Maps.size, length_sorted, hlen]

/-- What has come so far: no key twice; a key is on the list just where the map has it and it is no longer to come. -/
def Came (D0 : DataW Unit) (left : Lit → Bool) (ss : List Int) : Prop := ss.Nodup ∧ ∀ x, x ∈ ss ↔ (Maps.has D0 (.int .u64 x) = true ∧ left (.int .u64 x) = false)

theorem Came.start (D0 : DataW Unit) : Came D0 (Maps.has D0) [] := ⟨List.nodup_nil, fun x => by cases Maps.has D0 (.int .u64 x) <;> simp⟩
theorem Came.step {D0 : DataW Unit} {left : Lit → Bool} {ss : List Int} (h : Came D0 left ss) {x : Int} {y : DataW Unit} (hlk : left (.int .u64 x) = true) (hat : ∀ zd, D0.atKey (.int .u64 x) zd = y) :
    Came D0 (fun z => left z && !z.sameKey (.int .u64 x)) (ss ++ [x]) := by
  have hhas : Maps.has D0 (.int .u64 x) = true := Maps.has_true_of_atKey hat
  have hnew : x ∉ ss := fun hx => by have := ((h.2 x).1 hx).2; rw [hlk] at this; cases this
  refine ⟨List.nodup_append.2 ⟨h.1, by simp, fun a ha b hb => by simp at hb; subst hb; exact fun e => hnew (e ▸ ha)⟩, fun y => ?_⟩
  by_cases hy : y = x
  · subst hy; simp [hhas, Lit.sameKey]
  · simp [h.2 y, hy, Lit.sameKey]
theorem Came.perm {D0 : DataW Unit} {left : Lit → Bool} {ss ks : List Int} (h : Came D0 left ss) (hl : ∀ kl, left kl = false) (hD : ∀ x, Maps.has D0 (.int .u64 x) = true ↔ x ∈ ks) (hk : ks.Nodup) : ss.Perm ks :=
  (List.perm_ext_iff_of_nodup h.1 hk).2 fun x => by rw [h.2 x, hl, hD]; simp

set_option maxRecDepth 100000 in
set_option maxHeartbeats 2000000 in
/-- maps.Keys's iterator, for every loop body that leaves maps and iterators alone. -/
theorem keys1_in (n : Nat) (hn : 1 ≤ n) (l Bm b nn : Nat) (D0 : DataW Unit) (ks : List Int) (hD : ∀ x, Maps.has D0 (.int .u64 x) = true ↔ x ∈ ks) (hks : ks.Nodup) (J Jx : List Int → World → Prop)
    (hY : ∀ pre x W, J pre W → pre.length < Maps.size D0 → YieldAt Fence.wide (n - 1) Try.prog l #[encU x] W fun e W' =>
      (e = .returned (.bool true) ∧ J (pre ++ [x]) W' ∧ KeepsWalks W W') ∨ (e = .returned (.bool false) ∧ Jx (pre ++ [x]) W'))
    (W : World) (hJ : AbidesFrom W.heap.size J) (hm : W.cell? ⟨Bm, 0, none⟩ = some (.map (some b))) (hown : W.ownsMap Try.prog 29 anyR b nn D0) (h0 : J [] W) :
    CallsIn Fence.wide n Try.prog 62 #[.func (.yield l) #[] #[], .pointer (some ⟨Bm, 0, none⟩)] W fun e W' => (∃ v, e = .returned v) ∧
      ((∃ ss : List Int, ss.Perm ks ∧ J ss W') ∨ (∃ pre : List Int, True ∧ Jx pre W')) := by
  refine callsIn_of_wp Try.func62 rfl trivial ?_ rfl
  simp only [Try.ntmps62, List.size_toArray, List.length_cons, List.length_nil, Nat.reduceAdd, Nat.reduceSub, Array.replicate_succ, Array.replicate_zero, List.push_toArray, List.append_toArray, List.nil_append, List.cons_append]
  gi_wp2_with (first
    | (gi_at_range; refine wpListIn_range_own _ rfl _ 97 rfl 29 98 u64_keyed Try.underlying97 _ b nn _ rfl hown ?_; intro w0 hrg0 hg0 hs0)
    | gi_in)
  go_frame
  gi_loopw [3] (fun _ wr => ∃ (left : Lit → Bool) (cnt : Nat) (ss : List Int), wr.ranges Try.prog 29 anyR b W.heap.size nn D0 left cnt ∧ ss.length + cnt ≤ Maps.size D0 ∧ Came D0 left ss ∧ J ss wr)
    (fun _ wr => wr.rangeLeft b W.heap.size)
  case atStart =>
    exact ⟨_, _, [], hrg0, by simp, Came.start D0, hJ [] W w0 none h0 hg0 (fun r e => by cases e)⟩
  case round =>
    obtain ⟨left, cnt, ss, hrg, hcs, hC, hJs⟩ := hrel
    gi_wp2_with (first
      | (gi_at_next; refine wpListIn_next_ranges _ rfl _ rfl 29 u64_keyed anyR encU id (fun key kl hk => by obtain ⟨x, hx, _⟩ := keyOf_u64 hk; exact ⟨x, hx⟩) (fun v _ _ => ⟨v, rfl⟩) b W.heap.size nn _ _ _ rfl hrg ?_ ?_)
      | gi_in)
    · intro hc0 hl0
      gi_wp2
      go_end0
      exact ⟨⟨_, rfl⟩, .inl ⟨ss, hC.perm hl0 hD hks, hJs⟩⟩
    · intro x c kl yd yp w2 cnt2 hkey hlk hv hat hrg2 hlt hg2 hs2 hen
      obtain ⟨x', ex, rfl⟩ := keyOf_u64 hkey
      obtain rfl : x = x' := by simpa [encU] using ex
      have hJ2 : J ss w2 := hJ ss wr w2 (some W.heap.size) hJs hg2 (fun r e => by cases e; exact ⟨Nat.le_refl _, hrg.iter_walk⟩)
      obtain ⟨fn, tmps, assign, body, hy, hR⟩ := hY ss x w2 hJ2 (by omega)
      clear hs2
      gi_wp2
      refine hR.mono ?_
      have hC2 := hC.step hlk hat
      rintro e W3 (⟨rfl, hJ3, hk3⟩ | ⟨rfl, hJx3⟩)
      · gi_wp2
        have hrg3 := hrg2.of_walks hk3
        go_roundw
        case rel => exact ⟨_, cnt2, ss ++ [x], hrg3, by simp; omega, hC2, hJ3⟩
        case measure => rw [hrg3.left_eq, hrg.left_eq]; exact hlt
      · gi_wp2
        refine bodyPost_ret (results_none rfl _ _ _) rfl ?_
        exact ⟨⟨_, rfl⟩, .inr ⟨ss ++ [x], trivial, hJx3⟩⟩

/-- A map in block b, its value in the box Bm. -/
theorem keys_stops {ν : Type} {encV : ν → Value} (n : Nat) (hn : 1 ≤ n) (Bm b : Nat) (m : List (Int × ν)) (w : World) (hBm : Bm < w.heap.size) (hm : w.cell? ⟨Bm, 0, none⟩ = some (.map (some b)))
    (hM : MapIs encU encV w b m) (hwf : ∀ p ∈ m, (Lit.int .u64 p.1).wf = true) (hlen : m.length ≤ maxLen) :
    SeqStopsK Fence.wide n Try.prog 62 #[.pointer (some ⟨Bm, 0, none⟩)] (fun x => #[encU x]) KeepsWalks (fun ss => ss.Perm (m.map (·.1))) (fun _ => True) m.length w := fun l J Jx W hW hJ _ hY h0 => by
  obtain ⟨D, hD, hh, hs⟩ := mapIs_owns (hM.kept (hW.block b hM.lt)) hwf hlen
  rw [← hs] at hY
  exact keys1_in n hn l Bm b m.length D _ hh hM.nodup J Jx hY W hJ ((hW.cell (p := ⟨Bm, 0, none⟩) hBm).trans hm) hD h0

theorem keys_any (mb : Option Nat) (w : World) : Calls Try.prog 48 #[.map mb] w fun e w' =>
    e = .returned (.func (.func 62) #[] #[.pointer (some ⟨w.heap.size, 0, none⟩)]) ∧ w' = w.alloc (.cells #[.map mb] 97) := by
  go_enter Try.func48, Try.ntmps48
  go_wp2
  go_ret
  exact ⟨rfl, rfl⟩

theorem u64_info : (Try.prog.info? 29).map (fun i => (i.zero, i.size, i.bytes)) = some (some (.int .u64 0), 1, 8) := by kernel_rfl

set_option maxRecDepth 100000 in
set_option maxHeartbeats 2000000 in
theorem appendSeq64_any (w : World) (gf : Nat) (lb : Array Value) (N : Nat) (hN : N ≤ 1000000) (S Sp : List Int → Prop)
    (hseq : ∀ n, 1 ≤ n → SeqStopsK Fence.wide n Try.prog gf lb (fun x => #[encU x]) KeepsWalks S Sp N w)
    (eg : ∀ args w, (callFunc gf args).run Try.prog w = .ok (.enter gf args) w) :
    Calls Try.prog 73 #[.slice none 0 0, .func (.func gf) #[] lb] w fun e w' => ∃ v' ss, e = .returned v' ∧ S ss ∧ w'.ownsRow w.heap.size 29 1 v' ss.length (ss.map encU) ∧ Below w.heap.size w w' := by
  refine (callsIn_wide (n := 9)).1 ?_
  obtain ⟨i0, hi, hz0, hz1, hz2⟩ := info_parts u64_info
  refine callsIn_of_wp_marks Try.func73 rfl trivial ?_ rfl
  simp only [Try.ntmps73, List.size_toArray, List.length_cons, List.length_nil, Nat.reduceAdd, Nat.reduceSub, Array.replicate_succ, Array.replicate_zero, List.push_toArray, List.append_toArray, List.nil_append, List.cons_append]
  gi_wp2
  refine wpIn_rangeFunc_ownH rfl (by omega) (gf := gf) (lb := lb) rfl trivial eg (hseq 8 (by omega)) walksK_t walksK_b ((Below.refl _ _).alloc (Nat.le_refl _) _) (fun _ => rfl)
    (fun pre W => (∃ v, Boxed W w.heap.size 62 v ∧ W.ownsRow w.heap.size 29 1 v pre.length (pre.map encU) ∧ True) ∧ Below w.heap.size w W)
    (fun _ _ _ => False)
    (OwnFrom.and (Own.from (holdsRow_own w.heap.size w.heap.size 62 29 1 (fun pre : List Int => pre.length) (fun pre => pre.map encU) (fun _ _ => True)) _) (ownFrom_below (Nat.le_refl _) (by simp)))
    (fun _ _ _ _ _ h _ _ => h)
    ⟨⟨_, Boxed.new _ _ _, World.ownsRow_nil _ _ _ _, trivial⟩, (Below.refl _ _).alloc (Nat.le_refl _) _⟩
    (fun x a' W => a' = { tmps := #[.slice none 0 0, .func (.func gf) #[] lb, .pointer (some ⟨w.heap.size, 0, none⟩), undef, .slice none 0 0, encU x, .func (.func gf) #[] lb, encU x, undef, undef, undef, undef, undef], defers := [] })
    (fun x a' => ?hax) ?assign ?body ?done ?stop
  case hax =>
    intro _ W W' row h hg hr
    exact h
  case assign =>
    rintro l pre x W K ⟨⟨v, hv, hrow, _⟩, hB⟩ hK
    gi_wp2
    exact hK _ _ (KeepsFrom.refl _ _) (KeepsWalks.refl _) ⟨⟨v, hv, hrow, trivial⟩, hB⟩ rfl
  case body =>
    rintro l pre x a' W hl ⟨r, hr⟩ ⟨⟨v, hv, hrow, _⟩, hB⟩ rfl hlt
    have hsz := hB.size
    have hvc := hv.cell
    have hvf := hv.frozen
    have HB := hid hB
    clear hB hr
    gi_wp2_with (gi_at_builtin; refine wpListIn_append_own _ rfl _ _ 62 rfl w.heap.size 29 i0 _ 1 8 Try.underlying62 hi hz0 hz1 hz2 rfl (by decide) v _ _ rfl (hrow.alloc _) ⟨W.heap.size, 0, none⟩ 1 1 [encU x] rfl rfl (cells_new _ _ _) (by intro u hu; simp at hu; subst hu; rfl) (by unfold maxLen; omega) (by omega) (by simp; omega) ?_; intro v' w1 hown' hgrow _; obtain ⟨g', cap', rfl⟩ := ownsRow_succ hown'; obtain ⟨hv1, hv2, hr2, hk2, hb2⟩ := hv.appended (by decide) hrow hsz (Nat.le_refl _) hown' hgrow; have hc1 := hv1.cell; have hf1 := hv1.frozen; have hkw := ((KeepsWalks.alloc W (.cells #[encU x] 29)).trans (KeepsWalks.of_grownBy hgrow (fun j o e ho => by rcases hrow.2 with ⟨rfl, _⟩ | ⟨g, cp, cur, rfl, _, hgb, _⟩ <;> (first | (simp [Value.ownBlock] at e; done) | (simp only [Value.ownBlock, Option.some.injEq] at e; subst e; rw [World.alloc, Array.getElem?_push, if_neg (by have := (Array.getElem?_eq_some_iff.1 hgb).1; omega), hgb] at ho; cases ho; rfl))))))
    exact ⟨hk2.from _, hkw.trans (KeepsWalks.setCell _ _ _), ⟨_, hv2, by simpa using hr2, trivial⟩, HB.out.trans hb2⟩
  case done =>
    rintro D ys W hD hS ⟨⟨v, hv, hrow, _⟩, hB⟩ hK
    have hvc := hv.cell
    gi_wp2
    refine ⟨by simp, .inl ⟨_, _, rfl, run_takeDeferred hK, ?_⟩⟩
    exact ⟨_, results_tmp rfl _ _ _, _, ys, rfl, hS, ownsRow_putObj hrow _ hK rfl, hB.trans (belowK_b (w := w) (Nat.le_refl _) W D _ _ (by simp at hD; omega) hK rfl rfl)⟩
  case stop =>
    intro D c pre W _ _ h _
    exact h.elim

theorem collect64_any (w : World) (gf : Nat) (lb : Array Value) (N : Nat) (hN : N ≤ 1000000) (S Sp : List Int → Prop)
    (hseq : ∀ n, 1 ≤ n → SeqStopsK Fence.wide n Try.prog gf lb (fun x => #[encU x]) KeepsWalks S Sp N w)
    (eg : ∀ args w, (callFunc gf args).run Try.prog w = .ok (.enter gf args) w) :
    Calls Try.prog 60 #[.func (.func gf) #[] lb] w fun e w' => ∃ v' ss, e = .returned v' ∧ S ss ∧ w'.ownsRow w.heap.size 29 1 v' ss.length (ss.map encU) ∧ Below w.heap.size w w' := by
  have H := hid (appendSeq64_any w gf lb N hN S Sp hseq eg)
  clear hseq
  go_enter Try.func60, Try.ntmps60
  go_wp2_with (go_at_call 73; refine H.out.mono ?_; rintro e w' ⟨v', ss, rfl, hS, hrow, hb⟩; have HS := hid hS; have HR := hid hrow; have HB := hid hb; clear hS hrow hb)
  go_ret
  exact ⟨v', ss, rfl, HS.out, HR.out, HB.out⟩

theorem u64_holds {w : World} {g : Nat} {cur : Array Value} {e : TypeId} {ss : List Int} (hb : w.heap[g]? = some (.cells cur e (0, 0))) (ht : cur.toList.take ss.length = ss.map encU) : Holds encU w g 0 ss.toArray := by
  intro j hj
  have hj' : j < ss.length := by simpa using hj
  refine ⟨?_, by simp [World.frozen?, hb]⟩
  have h1 : (cur.toList.take ss.length)[j]? = (ss.map encU)[j]? := by rw [ht]
  rw [List.getElem?_take_of_lt hj'] at h1
  simp only [World.cell?, hb, Nat.zero_add]
  simp only [Option.isSome_none, Bool.false_eq_true, if_false]
  rw [← Array.getElem?_toList, h1]
  simp [hj']

theorem u64_row {w : World} {base g cap n : Nat} {e : TypeId} {os : Array Obj} {cur : Array Value} {ss ts : List Int} (hl : ts.length = ss.length) (hbase : base ≤ g) (hb : w.heap[g]? = some (.cells cur e (0, 0)))
    (h1 : ss.length ≤ cap) (h2 : cap ≤ maxLen) (h3 : cur.size = cap * 1) :
    (grow (putRow encU (Sort.ahead w n) g 0 ts.toArray) os).ownsRow base e 1 (.slice (some ⟨g, 0, none⟩) ss.length cap) ss.length (ts.map encU) ∧ w.grownBy (grow (putRow encU (Sort.ahead w n) g 0 ts.toArray) os) (some g) := by
  have hg : g < w.heap.size := (Array.getElem?_eq_some_iff.1 hb).1
  refine ⟨⟨by simp [hl], .inr ⟨g, cap, putCells encU 0 ts.toArray cur, rfl, hbase, ?_, h1, h2, by simp [putCells, h3], ?_⟩⟩, rfl, rfl, rfl, by simp, fun k hk hne => ?_⟩
  · rw [heap_grow_old _ _ (by simpa using hg)]
    simp [putRow, mapBlock, Sort.ahead, Array.getElem?_modify, hb, onCells]
  · rw [Nat.mul_one, ← hl]
    apply List.ext_getElem?
    intro j
    by_cases hj : j < ts.length
    · rw [List.getElem?_take_of_lt hj, Array.getElem?_toList]
      simp [putCells, hj, show j < cur.size by omega]
    · rw [List.getElem?_take_eq_none (by omega), List.getElem?_eq_none (by simp; omega)]
  · rw [heap_grow_old _ _ (by simpa using hk)]
    have : g ≠ k := fun e => hne (by rw [e])
    simp [putRow, mapBlock, Sort.ahead, Array.getElem?_modify, this]

/-- The keys ascending. -/
def asc (l : List Int) : List Int := l.mergeSort (fun x y => decide (x ≤ y))
theorem asc_perm {l l' : List Int} (h : l.Perm l') : asc l = asc l' := mergeSort_of_perm_i h
theorem asc_length (l : List Int) : (asc l).length = l.length := by simp [asc]

theorem sorted64_any (w : World) (gf : Nat) (lb : Array Value) (ks : List Int) (hN : ks.length ≤ 1000000) (Sp : List Int → Prop)
    (hseq : ∀ n, 1 ≤ n → SeqStopsK Fence.wide n Try.prog gf lb (fun x => #[encU x]) KeepsWalks (fun ss => ss.Perm ks) Sp ks.length w)
    (eg : ∀ args w, (callFunc gf args).run Try.prog w = .ok (.enter gf args) w) :
    Calls Try.prog 47 #[.func (.func gf) #[] lb] w fun e w' => ∃ v', e = .returned v' ∧ w'.ownsRow w.heap.size 29 1 v' ks.length ((asc ks).map encU) ∧ Below w.heap.size w w' := by
  have H := hid (collect64_any w gf lb ks.length hN _ Sp hseq eg)
  clear hseq
  go_enter Try.func47, Try.ntmps47
  go_wp2_with (first | (go_at_call 60; refine H.out.mono ?_; rintro e W ⟨v', ss, rfl, hS, hrow, hb⟩; have HS := hid hS; have HR := hid hrow; have HB := hid hb; clear hS hrow hb) | fail)
  have hlen : ss.length = ks.length := HS.out.length_eq
  have hasc : asc ss = asc ks := asc_perm HS.out
  have HL := hid hlen
  have HA := hid hasc
  clear hlen hasc
  rcases HR.out.2 with ⟨rfl, hz⟩ | ⟨gb, cap, cur, rfl, hbase, hgb, r1, r2, r3, r4⟩
  · have hss : ss = [] := List.eq_nil_of_length_eq_zero hz
    subst hss
    go_wp2_with (go_at_call 61; refine (s64_Sort_nil none 0 W).mono ?_; rintro e w' ⟨rfl, rfl⟩)
    go_ret
    have h0 : ks.length = 0 := HL.out.symm
    have hk : ks = [] := List.eq_nil_of_length_eq_zero h0
    subst hk
    exact ⟨.slice none 0 0, rfl, by simpa [asc] using HR.out, HB.out⟩
  · have hH : Holds (Value.int .u64) W gb 0 ss.toArray := u64_holds hgb (by simpa using r4)
    have hgl : gb < W.heap.size := (Array.getElem?_eq_some_iff.1 hgb).1
    have cS := hid (s64_Sort gb 0 cap ss.toArray W hH hgl (by have := HL.out; simp; omega))
    have X := hid (And.intro hbase (And.intro hgb (And.intro r1 (And.intro r2 r3))))
    clear hH hgl hbase hgb r1 r2 r3 r4
    go_wp2_with (go_at_call 61; refine (by simpa using cS.out : Calls Try.prog 61 #[.slice (some ⟨gb, 0, none⟩) ss.length cap] W _).mono ?_; rintro e w' ⟨rfl, nn, os, rfl⟩)
    go_ret
    obtain ⟨hbase, hgb, r1, r2, r3⟩ := X.out
    have hr := u64_row (n := nn) (os := os) (asc_length ss) hbase hgb r1 r2 r3
    refine ⟨_, rfl, ?_, HB.out.grown hr.2 HB.out.size (fun j hj => by cases hj; exact hbase)⟩
    have h2 := hr.1
    rw [HA.out, HL.out] at h2
    have := HL.out
    rw [← HL.out]
    rw [← HA.out] at h2
    rw [← HL.out] at h2
    rw [← HA.out]
    exact h2

/-- slices.Sorted(maps.Keys(m)): the two calls, one behind the other. -/
theorem sortedKeys_any {ν : Type} {encV : ν → Value} (b Bm : Nat) (m : List (Int × ν)) (w : World) (hBm : Bm < w.heap.size) (hm : w.cell? ⟨Bm, 0, none⟩ = some (.map (some b)))
    (hM : MapIs encU encV w b m) (hwf : ∀ p ∈ m, (Lit.int .u64 p.1).wf = true) (hlen : m.length ≤ 1000000) :
    Calls Try.prog 47 #[.func (.func 62) #[] #[.pointer (some ⟨Bm, 0, none⟩)]] w fun e w' => ∃ v', e = .returned v' ∧ w'.ownsRow w.heap.size 29 1 v' m.length ((asc (m.map (·.1))).map encU) ∧ Below w.heap.size w w' := by
  have h := sorted64_any w 62 #[.pointer (some ⟨Bm, 0, none⟩)] (m.map (·.1)) (by simpa using hlen) (fun _ => True)
    (fun n hn => by simpa using keys_stops n hn Bm b m w hBm hm hM hwf (by unfold maxLen; omega)) (fun args w => by kernel_rfl)
  simpa using h
end Go.Proofs.Ytpnkkdpggofanaa
