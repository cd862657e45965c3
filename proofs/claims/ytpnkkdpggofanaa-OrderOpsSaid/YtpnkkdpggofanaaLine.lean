/- order.Line, by its walk. -/
import Derived.Test.YtpnkkdpggofanaaDone
namespace Go.Proofs.Ytpnkkdpggofanaa
open Go.RowKit Go.Shelf Go.Sort
attribute [local go_sem] Oper.semAt_some

theorem done_any (ao : Option Addr) (n c : Nat) (w : World) : Calls Try.prog 41 #[.slice ao n c] w fun e w' =>
    e = .returned (.func (.func 50) #[] #[.pointer (some ⟨w.heap.size, 0, none⟩)]) ∧ w' = w.alloc (.cells #[.slice ao n c] 22) := by
  go_enter Try.func41, Try.ntmps41
  go_wp2
  go_ret
  exact ⟨rfl, rfl⟩

theorem keepsOps_b {w : World} (W : World) (l : Nat) (o o' : Obj) (_ : w.heap.size ≤ l) (h : W.heap[l]? = some o) (hc : o.isCells = false) (_ : o.isWalk = false) : KeepsOps W (W.putObj l o') :=
  KeepsOps.of_grown (grownBy_putObj' W l o') (fun r e cur fz hh => by cases e; rw [h] at hh; cases hh; simp [Obj.isCells] at hc)

theorem done_stops (n : Nat) (hn : 1 ≤ n) (bL : Nat) (v : Value) (evs : List Ev) (hev : evs.length ≤ 1000000) (w : World) (hc : w.cell? ⟨bL, 0, none⟩ = some v) (hr : Reads w v evs.length (evs.flatMap evC)) :
    SeqStopsK Fence.wide n Try.prog 50 #[.pointer (some ⟨bL, 0, none⟩)] (fun x => #[opV x]) KeepsOps (fun ys => ys = doneOf evs) (fun pre => pre <+: doneOf evs) (doneOf evs).length w :=
  fun l J Jx W hW hJ _ hY h0 => done1_in n hn l bL v evs hev J Jx W hJ hY ((hW.cell (World.block_lt_of_cell? w _ hc)).trans hc) (hr.below hW (Nat.le_refl _)) h0

theorem int_info' : (Try.prog.info? 3).map (fun i => (i.zero, i.size, i.bytes)) = some (some (.int .i64 0), 1, 8) := by kernel_rfl

theorem keepsOps_row {W w1 : World} {base n : Nat} {v : Value} {xs : List Value} {o1 : Obj} (hrow : W.ownsRow base 3 1 v n xs) (hgrow : (W.alloc o1).grownBy w1 v.ownBlock) : KeepsOps W w1 :=
  (KeepsOps.of_below ((Below.refl W.heap.size W).alloc (Nat.le_refl _) o1)).trans (KeepsOps.of_grown hgrow (fun r e cur fz hh => by
    rcases (hrow.alloc o1).2 with ⟨rfl, _⟩ | ⟨g, cap, cur', rfl, _, hb, _⟩
    · cases e
    · simp only [Value.ownBlock, Option.some.injEq] at e
      subst e
      rw [hb] at hh
      cases hh))
theorem keepsOps_box {W : World} {b : Nat} {t : TypeId} {v u : Value} (h : Boxed W b t v) (ht : t ≠ 40) : KeepsOps W (W.setCell ⟨b, 0, none⟩ u) :=
  KeepsOps.of_grown (grownBy_setCell' W b u) (fun r e cur fz hh => by
    cases e
    have := (show W.heap[b]? = _ from h).symm.trans hh
    cases this
    exact ht rfl)

set_option maxRecDepth 100000 in
set_option maxHeartbeats 2000000 in
theorem line_any (evs : List Ev) (v : Value) (w : World) (hr : Reads w v evs.length (evs.flatMap evC)) (hn : evs.length ≤ 1000000) :
    Calls Try.prog 19 #[v] w fun e w' => ∃ v', e = .returned v' ∧ w'.ownsRow w.heap.size 3 1 v' (doneOf evs).length ((doneOf evs).map (fun o => .int .i64 o.no)) ∧ Below w.heap.size w w' := by
  refine (callsIn_wide (n := 9)).1 ?_
  obtain ⟨i0, hi, hz0, hz1, hz2⟩ := info_parts int_info'
  have HRD := hid hr
  obtain ⟨ao, c, rfl, _⟩ := hr.evs
  obtain ⟨w2, hw2⟩ : ∃ w2, w2 = (w.alloc (.cells #[.slice none 0 0] 35)).alloc (.cells #[.slice ao evs.length c] 22) := ⟨_, rfl⟩
  have hs2 : w2.heap.size = w.heap.size + 2 := by rw [hw2]; simp
  have hb2 : Below w.heap.size w w2 := by rw [hw2]; exact ((Below.refl _ _).alloc (Nat.le_refl _) _).alloc (by simp) _
  have bO : Boxed w2 w.heap.size 35 (.slice none 0 0) := by rw [hw2]; exact (Boxed.new w _ _).alloc _
  have bL : Boxed w2 (w.heap.size + 1) 22 (.slice ao evs.length c) := by
    have := Boxed.new (w.alloc (.cells #[.slice none 0 0] 35)) 22 (.slice ao evs.length c)
    rw [World.size_alloc] at this; rw [hw2]; exact this
  have HSEQ := hid (fun n hn' => done_stops n hn' (w.heap.size + 1) (.slice ao evs.length c) evs hn w2 bL.cell (HRD.out.below hb2 (Nat.le_refl _)))
  have hdl : (doneOf evs).length ≤ 1000000 := by
    have h1 := List.length_filter_le (fun o : OpD => decide (0 ≤ o.did)) (stabL (opsOf evs))
    rw [stabL_len, opsOf, opsB_len] at h1
    have := opsA_len evs evs.length
    unfold doneOf opsOf; omega
  have HW := hid hw2
  have HN := hid bO
  have HB2 := hid hb2
  have HS2 := hid hs2
  clear hw2 bO bL hb2 hs2 hr
  generalize doneOf evs = ds at *
  refine callsIn_of_wp_marks Try.func19 rfl trivial ?_ rfl
  simp only [Try.ntmps19, List.size_toArray, List.length_cons, List.length_nil, Nat.reduceAdd, Nat.reduceSub, Array.replicate_succ, Array.replicate_zero, List.push_toArray, List.append_toArray, List.nil_append, List.cons_append]
  gi_wp2
  refine ⟨trivial, (callsIn_wide.2 (done_any _ _ _ _)).mono ?_⟩
  rintro e w' ⟨rfl, rfl⟩
  gi_wp2
  rw [← HW.out]
  refine wpIn_rangeFunc_ownH rfl (by omega) (gf := 50) (lb := #[.pointer (some ⟨w.heap.size + 1, 0, none⟩)]) rfl trivial (enters_of Try.func50 (by kernel_rfl) rfl) (HSEQ.out 8 (by omega)) KeepsOps.trans keepsOps_b (Below.refl _ _) (fun _ => rfl)
    (fun pre W => (∃ v, Boxed W w.heap.size 35 v ∧ W.ownsRow w.heap.size 3 1 v pre.length (pre.map (fun o => .int .i64 o.no)) ∧ True) ∧ Below w.heap.size w W)
    (fun _ _ _ => False)
    (OwnFrom.and (Own.from (holdsRow_own w.heap.size w.heap.size 35 3 1 (fun pre : List OpD => pre.length) (fun pre => pre.map (fun o => .int .i64 o.no)) (fun _ _ => True)) _) (ownFrom_below (Nat.le_refl _) (by rw [HS2.out]; omega)))
    (fun _ _ _ _ _ h _ _ => h)
    ⟨⟨_, HN.out, World.ownsRow_nil _ _ _ _, trivial⟩, HB2.out⟩
    (fun x a' W => ∃ Bx, w.heap.size < Bx ∧ W.heap[Bx]? = some (.cells (opC x).toArray 40 (0, 0)) ∧ a' = { tmps := #[.slice ao evs.length c, undef, .slice none 0 0, .pointer (some ⟨w.heap.size, 0, none⟩), .pointer (some ⟨Bx, 0, none⟩), .slice ao evs.length c, .func (.func 50) #[] #[.pointer (some ⟨w.heap.size + 1, 0, none⟩)], opV x, undef, undef, undef, undef, undef, undef], defers := [] })
    (fun x a' => ?hax) ?assign ?body ?done ?stop
  case hax =>
    intro _ W W' row ⟨Bx, h1, h2, h3⟩ hg hr
    exact ⟨Bx, h1, ownFrom_block _ Bx _ _ _ () W W' row h2 hg hr, h3⟩
  case assign =>
    rintro l pre x W K ⟨⟨v, hv, hrow, _⟩, hB⟩ hK
    have hsz := hB.size
    simp only [opV] at hK ⊢
    gi_wp2
    exact hK _ _ ((KeepsOthers.alloc _ _).from _) (KeepsOps.of_below ((Below.refl _ _).alloc (Nat.le_refl _) _)) ⟨⟨v, hv.alloc _, hrow.alloc _, trivial⟩, hB.alloc hsz _⟩ ⟨W.heap.size, hv.lt, heap_alloc_new W _, rfl⟩
  case body =>
    rintro l pre x a' W hl ⟨r, hr⟩ ⟨⟨v, hv, hrow, _⟩, hB⟩ ⟨Bx, hBx, hX, rfl⟩ hlt
    have hsz := hB.size
    have hvc := hv.cell
    have hvf := hv.frozen
    have hXlt : Bx < W.heap.size := (Array.getElem?_eq_some_iff.1 hX).1
    have x0 : W.cell? ⟨Bx, 0, none⟩ = some (.int .i64 x.no) := by simp [World.cell?, hX, opC]
    have HB := hid hB
    clear hX hB hr
    gi_wp2_with (gi_at_builtin; refine wpListIn_append_own _ rfl _ _ 35 rfl w.heap.size 3 i0 _ 1 8 Try.underlying35 hi hz0 hz1 hz2 rfl (by decide) v _ _ rfl (hrow.alloc _) ⟨W.heap.size, 0, none⟩ 1 1 [.int .i64 x.no] rfl rfl (cells_new _ _ _) (by simp [Value.oneCell']) (by unfold maxLen; omega) (by omega) (by simp; omega) ?_; intro v' w1 hown' hgrow _; obtain ⟨g', cap', rfl⟩ := ownsRow_succ hown'; have HKO := hid (keepsOps_row hrow hgrow); obtain ⟨hv1, hv2, hr2, hk2, hb2⟩ := hv.appended (by decide) hrow hsz (Nat.le_refl _) hown' hgrow; have hc1 := hv1.cell; have hf1 := hv1.frozen)
    exact ⟨hk2.from _, HKO.out.trans (keepsOps_box hv1 (by decide)), ⟨_, hv2, by simpa using hr2, trivial⟩, HB.out.trans hb2⟩
  case done =>
    rintro D ys W hD rfl ⟨⟨v, hv, hrow, _⟩, hB⟩ hK
    have hvc := hv.cell
    gi_wp2
    refine ⟨by simp, .inl ⟨_, _, rfl, run_takeDeferred hK, ?_⟩⟩
    exact ⟨_, results_tmp rfl _ _ _, _, rfl, ownsRow_putObj hrow _ hK rfl, hB.trans (belowK_b (w := w) (Nat.le_refl _) W D _ _ (by rw [HS2.out] at hD; omega) hK rfl rfl)⟩
  case stop =>
    intro D c pre W _ _ h _
    exact h.elim
end Go.Proofs.Ytpnkkdpggofanaa
