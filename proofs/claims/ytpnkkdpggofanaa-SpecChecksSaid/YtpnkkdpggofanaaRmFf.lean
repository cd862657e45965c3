/- The document's machine: first by its walk, part 6. -/
import Derived.Test.YtpnkkdpggofanaaRmR
import Derived.Test.YtpnkkdpggofanaaRmB
namespace Go.Proofs.Ytpnkkdpggofanaa
open Go.RowKit

set_option maxHeartbeats 4000000 in
set_option maxRecDepth 100000 in
theorem rfirst_110 (R : Rm) (c : Cl) (t : RT) (e : Ev) (bm : Nat) (vc vt : Value) (w : World) (HM : Hid (Blk w bm 91 (mcC R vc vt))) (k3 : (e.kind == 3) = false) (k11 : (e.kind == 11) = true) (x1 : (c.bg.what != 7) = true) :
    Calls Try.prog 59 #[ptrV bm, clV c, rtV t, evV e] w (EndsR w bm vc vt (rfirst R c t e)) := by
  obtain ⟨tid, tlive, tgen, tdl, tper, tlast, tarmed, tbtw⟩ := t
  try dsimp only at *
  have HV := hid (show (rfirst R c ⟨tid, tlive, tgen, tdl, tper, tlast, tarmed, tbtw⟩ e) = (R, c, ⟨tid, tlive, tgen, tdl, tper, tlast, tarmed, tbtw⟩, false) by simp [rfirst, k3, k11, x1])
  have hlt := HM.out.lt
  go_enter Try.func59, Try.ntmps59
  go_wp2
  refine named ((five w (clC' (c)) (rtC (⟨tid, tlive, tgen, tdl, tper, tlast, tarmed, tbtw⟩)) (evC e) clZ rtZ).alloc (.cells (evC c.bg).toArray 31)) (fun V hV => ?_)
  have hL : Loc w bm (mcC R vc vt) w.heap.size (clC' (c)) (rtC (⟨tid, tlive, tgen, tdl, tper, tlast, tarmed, tbtw⟩)) (evC e) (some (evC c.bg)) V := by rw [hV]; exact (loc_five (HM.out) (Chg.refl _ _) rfl _ _ _).six (evC c.bg) (five_size _ _ _ _ _ _)
  replace hL := hL.drew
  refine wp_region_held_drew (by kernel_rfl) hL (fun _ => ?_)
  simp only [List.size_toArray, List.length_cons, List.length_nil, Nat.reduceAdd, Array.replicate_succ, Array.replicate_zero, List.push_toArray, List.nil_append, List.cons_append]
  refine tp 0 hL ?_
  refine tq 1 hL (fun _ h => (h.b _ rfl).cell 3 rfl) ?_
  refine tp 2 hL ?_
  refine tp 3 hL ?_
  refine sp 4 hL ?_
  refine sp 5 hL ?_
  refine sp 6 hL ?_
  refine sp 7 hL ?_
  refine tp 8 hL ?_
  refine tp 9 hL ?_
  refine sp 10 hL ?_
  refine sp 11 hL ?_
  refine sp 12 hL ?_
  refine sp 13 hL ?_
  refine sp 14 hL ?_
  refine tp 15 hL ?_
  refine tp 16 hL ?_
  refine sp 17 hL ?_
  refine sp 18 hL ?_
  refine sp 19 hL ?_
  refine sp 20 hL ?_
  refine sp 21 hL ?_
  refine sp 22 hL ?_
  refine sp 23 hL ?_
  refine sp 24 hL ?_
  refine tp 25 hL ?_
  refine wpAnyH_done (by kernel_rfl) ?_ _
  clear hL
  rw [hV]
  clear hV
  simp only [five, drew_alloc, clC', rtC, evC, clZ, rtZ]
  obtain ⟨W1, hW⟩ : ∃ W, W = w.drew := ⟨_, rfl⟩
  have hMW1 : Hid (Blk W1 bm 91 (mcC R vc vt)) := by rw [hW]; exact hid (HM.out.drew)
  have hCW1 : Hid (Chg (· = bm) w W1) := by rw [hW]; exact hid (Chg.drew (Chg.refl _ _))
  have hSW1 : Hid (w.heap.size = W1.heap.size) := by rw [hW]; exact hid (rfl)
  have hz : w.heap.size = W1.heap.size := by rw [hW]; rfl
  rw [← hW, hz]
  clear hW hz
  go_wp2
  refine named ((five W1 (clC' (c)) (rtC (⟨tid, tlive, tgen, tdl, tper, tlast, tarmed, tbtw⟩)) (evC e) clZ rtZ).alloc (.cells (evC c.bg).toArray 31)) (fun V hV => ?_)
  have hL : Loc w bm (mcC R vc vt) W1.heap.size (clC' (c)) (rtC (⟨tid, tlive, tgen, tdl, tper, tlast, tarmed, tbtw⟩)) (evC e) (some (evC c.bg)) V := by rw [hV]; exact (loc_five (hMW1.out) (hCW1.out) hSW1.out _ _ _).six (evC c.bg) (five_size _ _ _ _ _ _)
  clear hV
  replace hL := hL.drew
  refine wp_region_held_drew (by kernel_rfl) hL (fun _ => ?_)
  simp only [List.size_toArray, List.length_cons, List.length_nil, Nat.reduceAdd, Array.replicate_succ, Array.replicate_zero, List.push_toArray, List.nil_append, List.cons_append]
  refine tkC 0 hL ?_
  refine tkT 1 hL ?_
  have hL0 := hL
  refine Loc.putC 2 (c) (by kernel_rfl) rfl (by kernel_rfl) rfl (by kernel_rfl) (by kernel_rfl) hL ?_
  replace hL := hL.setC (xs := clC' (c)) rfl
  simp only [nA,nB,nC,Act.put,nD,nE,nF]
  refine Loc.putT 3 (⟨tid, tlive, tgen, tdl, tper, tlast, tarmed, tbtw⟩) (by kernel_rfl) rfl (by kernel_rfl) rfl (by kernel_rfl) (by kernel_rfl) hL ?_
  replace hL := hL.setT (xs := rtC (⟨tid, tlive, tgen, tdl, tper, tlast, tarmed, tbtw⟩)) rfl
  simp only [nA,nB,nC,Act.put,nD,nE,nF]
  refine held_put 4 (by kernel_rfl) rfl (by kernel_rfl) (fun W => by go_simp; try rfl) hL ?_
  simp only [nA,nB,nC,Act.put,nD,nE,nF]
  refine wpAnyH_done (by kernel_rfl) ?_ _
  go_wp2
  refine bodyPost_ret (v := .tuple #[clV (c), rtV (⟨tid, tlive, tgen, tdl, tper, tlast, tarmed, tbtw⟩), .bool (false)]) (results_loc (by kernel_rfl) _ _ (c) (⟨tid, tlive, tgen, tdl, tper, tlast, tarmed, tbtw⟩) (false) ⟨W1.heap.size + 1 + 1 + 1, 0, none⟩ ⟨W1.heap.size + 1 + 1 + 1 + 1, 0, none⟩ (by kernel_rfl) (by kernel_rfl) (by kernel_rfl) (hL0.gotC (c) _) (hL0.gotT (⟨tid, tlive, tgen, tdl, tper, tlast, tarmed, tbtw⟩) _)) rfl ?_
  rw [HV.out]
  exact ⟨rfl, hL.m, hL.chg⟩

set_option maxHeartbeats 4000000 in
set_option maxRecDepth 100000 in
theorem rfirst_111 (R : Rm) (c : Cl) (t : RT) (e : Ev) (bm : Nat) (vc vt : Value) (w : World) (HM : Hid (Blk w bm 91 (mcC R vc vt))) (k3 : (e.kind == 3) = false) (k11 : (e.kind == 11) = true) (x1 : (c.bg.what != 7) = false) (x2 : (R.ended) = true) :
    Calls Try.prog 59 #[ptrV bm, clV c, rtV t, evV e] w (EndsR w bm vc vt (rfirst R c t e)) := by
  obtain ⟨tid, tlive, tgen, tdl, tper, tlast, tarmed, tbtw⟩ := t
  try dsimp only at *
  have HV := hid (show (rfirst R c ⟨tid, tlive, tgen, tdl, tper, tlast, tarmed, tbtw⟩ e) = (R, c, ⟨tid, tlive, tgen, tdl, tper, tlast, tarmed, tbtw⟩, false) by simp [rfirst, k3, k11, x1, x2])
  have hlt := HM.out.lt
  go_enter Try.func59, Try.ntmps59
  go_wp2
  refine named ((five w (clC' (c)) (rtC (⟨tid, tlive, tgen, tdl, tper, tlast, tarmed, tbtw⟩)) (evC e) clZ rtZ).alloc (.cells (evC c.bg).toArray 31)) (fun V hV => ?_)
  have hL : Loc w bm (mcC R vc vt) w.heap.size (clC' (c)) (rtC (⟨tid, tlive, tgen, tdl, tper, tlast, tarmed, tbtw⟩)) (evC e) (some (evC c.bg)) V := by rw [hV]; exact (loc_five (HM.out) (Chg.refl _ _) rfl _ _ _).six (evC c.bg) (five_size _ _ _ _ _ _)
  replace hL := hL.drew
  refine wp_region_held_drew (by kernel_rfl) hL (fun _ => ?_)
  simp only [List.size_toArray, List.length_cons, List.length_nil, Nat.reduceAdd, Array.replicate_succ, Array.replicate_zero, List.push_toArray, List.nil_append, List.cons_append]
  refine tp 0 hL ?_
  refine tq 1 hL (fun _ h => (h.b _ rfl).cell 3 rfl) ?_
  refine tp 2 hL ?_
  refine tp 3 hL ?_
  refine tp 4 hL ?_
  refine tp 5 hL ?_
  refine tp 6 hL ?_
  refine tq 7 hL (fun _ h => h.m.cell 3 rfl) ?_
  refine tp 8 hL ?_
  refine tp 9 hL ?_
  refine sp 10 hL ?_
  refine sp 11 hL ?_
  refine sp 12 hL ?_
  refine sp 13 hL ?_
  refine sp 14 hL ?_
  refine tp 15 hL ?_
  refine tp 16 hL ?_
  refine sp 17 hL ?_
  refine sp 18 hL ?_
  refine sp 19 hL ?_
  refine sp 20 hL ?_
  refine sp 21 hL ?_
  refine sp 22 hL ?_
  refine sp 23 hL ?_
  refine sp 24 hL ?_
  refine tp 25 hL ?_
  refine wpAnyH_done (by kernel_rfl) ?_ _
  clear hL
  rw [hV]
  clear hV
  simp only [five, drew_alloc, clC', rtC, evC, clZ, rtZ]
  obtain ⟨W1, hW⟩ : ∃ W, W = w.drew := ⟨_, rfl⟩
  have hMW1 : Hid (Blk W1 bm 91 (mcC R vc vt)) := by rw [hW]; exact hid (HM.out.drew)
  have hCW1 : Hid (Chg (· = bm) w W1) := by rw [hW]; exact hid (Chg.drew (Chg.refl _ _))
  have hSW1 : Hid (w.heap.size = W1.heap.size) := by rw [hW]; exact hid (rfl)
  have hz : w.heap.size = W1.heap.size := by rw [hW]; rfl
  rw [← hW, hz]
  clear hW hz
  go_wp2
  refine named ((five W1 (clC' (c)) (rtC (⟨tid, tlive, tgen, tdl, tper, tlast, tarmed, tbtw⟩)) (evC e) clZ rtZ).alloc (.cells (evC c.bg).toArray 31)) (fun V hV => ?_)
  have hL : Loc w bm (mcC R vc vt) W1.heap.size (clC' (c)) (rtC (⟨tid, tlive, tgen, tdl, tper, tlast, tarmed, tbtw⟩)) (evC e) (some (evC c.bg)) V := by rw [hV]; exact (loc_five (hMW1.out) (hCW1.out) hSW1.out _ _ _).six (evC c.bg) (five_size _ _ _ _ _ _)
  clear hV
  replace hL := hL.drew
  refine wp_region_held_drew (by kernel_rfl) hL (fun _ => ?_)
  simp only [List.size_toArray, List.length_cons, List.length_nil, Nat.reduceAdd, Array.replicate_succ, Array.replicate_zero, List.push_toArray, List.nil_append, List.cons_append]
  refine tkC 0 hL ?_
  refine tkT 1 hL ?_
  have hL0 := hL
  refine Loc.putC 2 (c) (by kernel_rfl) rfl (by kernel_rfl) rfl (by kernel_rfl) (by kernel_rfl) hL ?_
  replace hL := hL.setC (xs := clC' (c)) rfl
  simp only [nA,nB,nC,Act.put,nD,nE,nF]
  refine Loc.putT 3 (⟨tid, tlive, tgen, tdl, tper, tlast, tarmed, tbtw⟩) (by kernel_rfl) rfl (by kernel_rfl) rfl (by kernel_rfl) (by kernel_rfl) hL ?_
  replace hL := hL.setT (xs := rtC (⟨tid, tlive, tgen, tdl, tper, tlast, tarmed, tbtw⟩)) rfl
  simp only [nA,nB,nC,Act.put,nD,nE,nF]
  refine held_put 4 (by kernel_rfl) rfl (by kernel_rfl) (fun W => by go_simp; try rfl) hL ?_
  simp only [nA,nB,nC,Act.put,nD,nE,nF]
  refine wpAnyH_done (by kernel_rfl) ?_ _
  go_wp2
  refine bodyPost_ret (v := .tuple #[clV (c), rtV (⟨tid, tlive, tgen, tdl, tper, tlast, tarmed, tbtw⟩), .bool (false)]) (results_loc (by kernel_rfl) _ _ (c) (⟨tid, tlive, tgen, tdl, tper, tlast, tarmed, tbtw⟩) (false) ⟨W1.heap.size + 1 + 1 + 1, 0, none⟩ ⟨W1.heap.size + 1 + 1 + 1 + 1, 0, none⟩ (by kernel_rfl) (by kernel_rfl) (by kernel_rfl) (hL0.gotC (c) _) (hL0.gotT (⟨tid, tlive, tgen, tdl, tper, tlast, tarmed, tbtw⟩) _)) rfl ?_
  rw [HV.out]
  exact ⟨rfl, hL.m, hL.chg⟩

set_option maxHeartbeats 4000000 in
set_option maxRecDepth 100000 in
theorem rfirst_112 (R : Rm) (c : Cl) (t : RT) (e : Ev) (bm : Nat) (vc vt : Value) (w : World) (HM : Hid (Blk w bm 91 (mcC R vc vt))) (k3 : (e.kind == 3) = false) (k11 : (e.kind == 11) = true) (x1 : (c.bg.what != 7) = false) (x2 : (R.ended) = false) (x3 : (R.now == u64top) = true) :
    Calls Try.prog 59 #[ptrV bm, clV c, rtV t, evV e] w (EndsR w bm vc vt (rfirst R c t e)) := by
  obtain ⟨tid, tlive, tgen, tdl, tper, tlast, tarmed, tbtw⟩ := t
  try dsimp only at *
  have HV := hid (show (rfirst R c ⟨tid, tlive, tgen, tdl, tper, tlast, tarmed, tbtw⟩ e) = (R, c, ⟨tid, tlive, tgen, tdl, tper, tlast, tarmed, tbtw⟩, false) by simp [rfirst, k3, k11, x1, x2, x3])
  have up : (R.now == 18446744073709551615) = true := x3
  have hlt := HM.out.lt
  go_enter Try.func59, Try.ntmps59
  go_wp2
  refine named ((five w (clC' (c)) (rtC (⟨tid, tlive, tgen, tdl, tper, tlast, tarmed, tbtw⟩)) (evC e) clZ rtZ).alloc (.cells (evC c.bg).toArray 31)) (fun V hV => ?_)
  have hL : Loc w bm (mcC R vc vt) w.heap.size (clC' (c)) (rtC (⟨tid, tlive, tgen, tdl, tper, tlast, tarmed, tbtw⟩)) (evC e) (some (evC c.bg)) V := by rw [hV]; exact (loc_five (HM.out) (Chg.refl _ _) rfl _ _ _).six (evC c.bg) (five_size _ _ _ _ _ _)
  replace hL := hL.drew
  refine wp_region_held_drew (by kernel_rfl) hL (fun _ => ?_)
  simp only [List.size_toArray, List.length_cons, List.length_nil, Nat.reduceAdd, Array.replicate_succ, Array.replicate_zero, List.push_toArray, List.nil_append, List.cons_append]
  refine tp 0 hL ?_
  refine tq 1 hL (fun _ h => (h.b _ rfl).cell 3 rfl) ?_
  refine tp 2 hL ?_
  refine tp 3 hL ?_
  refine tp 4 hL ?_
  refine tp 5 hL ?_
  refine tp 6 hL ?_
  refine tq 7 hL (fun _ h => h.m.cell 3 rfl) ?_
  refine tp 8 hL ?_
  refine tp 9 hL ?_
  refine tp 10 hL ?_
  refine tp 11 hL ?_
  refine tp 12 hL ?_
  refine tq 13 hL (fun _ h => h.m.cell 1 rfl) ?_
  refine tp 14 hL ?_
  refine tp 15 hL ?_
  refine tp 16 hL ?_
  refine sp 17 hL ?_
  refine sp 18 hL ?_
  refine sp 19 hL ?_
  refine sp 20 hL ?_
  refine sp 21 hL ?_
  refine sp 22 hL ?_
  refine sp 23 hL ?_
  refine sp 24 hL ?_
  refine tp 25 hL ?_
  refine wpAnyH_done (by kernel_rfl) ?_ _
  clear hL
  rw [hV]
  clear hV
  simp only [five, drew_alloc, clC', rtC, evC, clZ, rtZ]
  obtain ⟨W1, hW⟩ : ∃ W, W = w.drew := ⟨_, rfl⟩
  have hMW1 : Hid (Blk W1 bm 91 (mcC R vc vt)) := by rw [hW]; exact hid (HM.out.drew)
  have hCW1 : Hid (Chg (· = bm) w W1) := by rw [hW]; exact hid (Chg.drew (Chg.refl _ _))
  have hSW1 : Hid (w.heap.size = W1.heap.size) := by rw [hW]; exact hid (rfl)
  have hz : w.heap.size = W1.heap.size := by rw [hW]; rfl
  rw [← hW, hz]
  clear hW hz
  go_wp2
  refine named ((five W1 (clC' (c)) (rtC (⟨tid, tlive, tgen, tdl, tper, tlast, tarmed, tbtw⟩)) (evC e) clZ rtZ).alloc (.cells (evC c.bg).toArray 31)) (fun V hV => ?_)
  have hL : Loc w bm (mcC R vc vt) W1.heap.size (clC' (c)) (rtC (⟨tid, tlive, tgen, tdl, tper, tlast, tarmed, tbtw⟩)) (evC e) (some (evC c.bg)) V := by rw [hV]; exact (loc_five (hMW1.out) (hCW1.out) hSW1.out _ _ _).six (evC c.bg) (five_size _ _ _ _ _ _)
  clear hV
  replace hL := hL.drew
  refine wp_region_held_drew (by kernel_rfl) hL (fun _ => ?_)
  simp only [List.size_toArray, List.length_cons, List.length_nil, Nat.reduceAdd, Array.replicate_succ, Array.replicate_zero, List.push_toArray, List.nil_append, List.cons_append]
  refine tkC 0 hL ?_
  refine tkT 1 hL ?_
  have hL0 := hL
  refine Loc.putC 2 (c) (by kernel_rfl) rfl (by kernel_rfl) rfl (by kernel_rfl) (by kernel_rfl) hL ?_
  replace hL := hL.setC (xs := clC' (c)) rfl
  simp only [nA,nB,nC,Act.put,nD,nE,nF]
  refine Loc.putT 3 (⟨tid, tlive, tgen, tdl, tper, tlast, tarmed, tbtw⟩) (by kernel_rfl) rfl (by kernel_rfl) rfl (by kernel_rfl) (by kernel_rfl) hL ?_
  replace hL := hL.setT (xs := rtC (⟨tid, tlive, tgen, tdl, tper, tlast, tarmed, tbtw⟩)) rfl
  simp only [nA,nB,nC,Act.put,nD,nE,nF]
  refine held_put 4 (by kernel_rfl) rfl (by kernel_rfl) (fun W => by go_simp; try rfl) hL ?_
  simp only [nA,nB,nC,Act.put,nD,nE,nF]
  refine wpAnyH_done (by kernel_rfl) ?_ _
  go_wp2
  refine bodyPost_ret (v := .tuple #[clV (c), rtV (⟨tid, tlive, tgen, tdl, tper, tlast, tarmed, tbtw⟩), .bool (false)]) (results_loc (by kernel_rfl) _ _ (c) (⟨tid, tlive, tgen, tdl, tper, tlast, tarmed, tbtw⟩) (false) ⟨W1.heap.size + 1 + 1 + 1, 0, none⟩ ⟨W1.heap.size + 1 + 1 + 1 + 1, 0, none⟩ (by kernel_rfl) (by kernel_rfl) (by kernel_rfl) (hL0.gotC (c) _) (hL0.gotT (⟨tid, tlive, tgen, tdl, tper, tlast, tarmed, tbtw⟩) _)) rfl ?_
  rw [HV.out]
  exact ⟨rfl, hL.m, hL.chg⟩

set_option maxHeartbeats 4000000 in
set_option maxRecDepth 100000 in
theorem rfirst_113 (R : Rm) (c : Cl) (t : RT) (e : Ev) (bm : Nat) (vc vt : Value) (w : World) (HM : Hid (Blk w bm 91 (mcC R vc vt))) (k3 : (e.kind == 3) = false) (k11 : (e.kind == 11) = true) (x1 : (c.bg.what != 7) = false) (x2 : (R.ended) = false) (x3 : (R.now == u64top) = false) (x4 : (e.tk != R.now + 1) = true) (hnow : U64 R.now) :
    Calls Try.prog 59 #[ptrV bm, clV c, rtV t, evV e] w (EndsR w bm vc vt (rfirst R c t e)) := by
  obtain ⟨tid, tlive, tgen, tdl, tper, tlast, tarmed, tbtw⟩ := t
  try dsimp only at *
  have HV := hid (show (rfirst R c ⟨tid, tlive, tgen, tdl, tper, tlast, tarmed, tbtw⟩ e) = (R, c, ⟨tid, tlive, tgen, tdl, tper, tlast, tarmed, tbtw⟩, false) by simp [rfirst, k3, k11, x1, x2, x3, x4])
  have up : (R.now == 18446744073709551615) = false := x3
  have tz : 0 ≤ R.now := hnow.1
  have uq : R.now + 1 ≤ 18446744073709551615 := by have := hnow.2; have h := up; rw [beq_eq_false_iff_ne] at h; omega
  have hwv : IntKind.u64.wrap (R.now + 1) = R.now + 1 := by rw [IntKind.wrap_u64]; omega
  have hlt := HM.out.lt
  go_enter Try.func59, Try.ntmps59
  go_wp2
  refine named ((five w (clC' (c)) (rtC (⟨tid, tlive, tgen, tdl, tper, tlast, tarmed, tbtw⟩)) (evC e) clZ rtZ).alloc (.cells (evC c.bg).toArray 31)) (fun V hV => ?_)
  have hL : Loc w bm (mcC R vc vt) w.heap.size (clC' (c)) (rtC (⟨tid, tlive, tgen, tdl, tper, tlast, tarmed, tbtw⟩)) (evC e) (some (evC c.bg)) V := by rw [hV]; exact (loc_five (HM.out) (Chg.refl _ _) rfl _ _ _).six (evC c.bg) (five_size _ _ _ _ _ _)
  replace hL := hL.drew
  refine wp_region_held_drew (by kernel_rfl) hL (fun _ => ?_)
  simp only [List.size_toArray, List.length_cons, List.length_nil, Nat.reduceAdd, Array.replicate_succ, Array.replicate_zero, List.push_toArray, List.nil_append, List.cons_append]
  refine tp 0 hL ?_
  refine tq 1 hL (fun _ h => (h.b _ rfl).cell 3 rfl) ?_
  refine tp 2 hL ?_
  refine tp 3 hL ?_
  refine tp 4 hL ?_
  refine tp 5 hL ?_
  refine tp 6 hL ?_
  refine tq 7 hL (fun _ h => h.m.cell 3 rfl) ?_
  refine tp 8 hL ?_
  refine tp 9 hL ?_
  refine tp 10 hL ?_
  refine tp 11 hL ?_
  refine tp 12 hL ?_
  refine tq 13 hL (fun _ h => h.m.cell 1 rfl) ?_
  refine tp 14 hL ?_
  refine tp 15 hL ?_
  refine tp 16 hL ?_
  refine tp 17 hL ?_
  refine tq 18 hL (fun _ h => h.e.cell 8 rfl) ?_
  refine tp 19 hL ?_
  refine tp 20 hL ?_
  refine tp 21 hL ?_
  refine tq 22 hL (fun _ h => h.m.cell 1 rfl) ?_
  refine wpAnyH_take (i := 23) (v := .int .u64 (R.now + 1)) rfl (by kernel_rfl) (by kernel_rfl) (by kernel_rfl) (fun _ _ _ h => h) (Or.inl ⟨by kernel_rfl, fun W hW => by go_simp; try simp only [hwv]⟩) hL ?_
  simp only [nA,nB,nC,Act.put,nD,nE,nF]
  refine tp 24 hL ?_
  refine tp 25 hL ?_
  refine wpAnyH_done (by kernel_rfl) ?_ _
  clear hL
  rw [hV]
  clear hV
  simp only [five, drew_alloc, clC', rtC, evC, clZ, rtZ]
  obtain ⟨W1, hW⟩ : ∃ W, W = w.drew := ⟨_, rfl⟩
  have hMW1 : Hid (Blk W1 bm 91 (mcC R vc vt)) := by rw [hW]; exact hid (HM.out.drew)
  have hCW1 : Hid (Chg (· = bm) w W1) := by rw [hW]; exact hid (Chg.drew (Chg.refl _ _))
  have hSW1 : Hid (w.heap.size = W1.heap.size) := by rw [hW]; exact hid (rfl)
  have hz : w.heap.size = W1.heap.size := by rw [hW]; rfl
  rw [← hW, hz]
  clear hW hz
  go_wp2
  refine named ((five W1 (clC' (c)) (rtC (⟨tid, tlive, tgen, tdl, tper, tlast, tarmed, tbtw⟩)) (evC e) clZ rtZ).alloc (.cells (evC c.bg).toArray 31)) (fun V hV => ?_)
  have hL : Loc w bm (mcC R vc vt) W1.heap.size (clC' (c)) (rtC (⟨tid, tlive, tgen, tdl, tper, tlast, tarmed, tbtw⟩)) (evC e) (some (evC c.bg)) V := by rw [hV]; exact (loc_five (hMW1.out) (hCW1.out) hSW1.out _ _ _).six (evC c.bg) (five_size _ _ _ _ _ _)
  clear hV
  replace hL := hL.drew
  refine wp_region_held_drew (by kernel_rfl) hL (fun _ => ?_)
  simp only [List.size_toArray, List.length_cons, List.length_nil, Nat.reduceAdd, Array.replicate_succ, Array.replicate_zero, List.push_toArray, List.nil_append, List.cons_append]
  refine tkC 0 hL ?_
  refine tkT 1 hL ?_
  have hL0 := hL
  refine Loc.putC 2 (c) (by kernel_rfl) rfl (by kernel_rfl) rfl (by kernel_rfl) (by kernel_rfl) hL ?_
  replace hL := hL.setC (xs := clC' (c)) rfl
  simp only [nA,nB,nC,Act.put,nD,nE,nF]
  refine Loc.putT 3 (⟨tid, tlive, tgen, tdl, tper, tlast, tarmed, tbtw⟩) (by kernel_rfl) rfl (by kernel_rfl) rfl (by kernel_rfl) (by kernel_rfl) hL ?_
  replace hL := hL.setT (xs := rtC (⟨tid, tlive, tgen, tdl, tper, tlast, tarmed, tbtw⟩)) rfl
  simp only [nA,nB,nC,Act.put,nD,nE,nF]
  refine held_put 4 (by kernel_rfl) rfl (by kernel_rfl) (fun W => by go_simp; try rfl) hL ?_
  simp only [nA,nB,nC,Act.put,nD,nE,nF]
  refine wpAnyH_done (by kernel_rfl) ?_ _
  go_wp2
  refine bodyPost_ret (v := .tuple #[clV (c), rtV (⟨tid, tlive, tgen, tdl, tper, tlast, tarmed, tbtw⟩), .bool (false)]) (results_loc (by kernel_rfl) _ _ (c) (⟨tid, tlive, tgen, tdl, tper, tlast, tarmed, tbtw⟩) (false) ⟨W1.heap.size + 1 + 1 + 1, 0, none⟩ ⟨W1.heap.size + 1 + 1 + 1 + 1, 0, none⟩ (by kernel_rfl) (by kernel_rfl) (by kernel_rfl) (hL0.gotC (c) _) (hL0.gotT (⟨tid, tlive, tgen, tdl, tper, tlast, tarmed, tbtw⟩) _)) rfl ?_
  rw [HV.out]
  exact ⟨rfl, hL.m, hL.chg⟩

set_option maxHeartbeats 4000000 in
set_option maxRecDepth 100000 in
theorem rfirst_114 (R : Rm) (c : Cl) (t : RT) (e : Ev) (bm : Nat) (vc vt : Value) (w : World) (HM : Hid (Blk w bm 91 (mcC R vc vt))) (k3 : (e.kind == 3) = false) (k11 : (e.kind == 11) = true) (x1 : (c.bg.what != 7) = false) (x2 : (R.ended) = false) (x3 : (R.now == u64top) = false) (x4 : (e.tk != R.now + 1) = false) (hnow : U64 R.now) :
    Calls Try.prog 59 #[ptrV bm, clV c, rtV t, evV e] w (EndsR w bm vc vt (rfirst R c t e)) := by
  obtain ⟨tid, tlive, tgen, tdl, tper, tlast, tarmed, tbtw⟩ := t
  try dsimp only at *
  have HV := hid (show (rfirst R c ⟨tid, tlive, tgen, tdl, tper, tlast, tarmed, tbtw⟩ e) = ({ R with now := R.now + 1 }, { c with done := true }, ⟨tid, tlive, tgen, tdl, tper, tlast, tarmed, tbtw⟩, true) by simp [rfirst, k3, k11, x1, x2, x3, x4])
  have up : (R.now == 18446744073709551615) = false := x3
  have tz : 0 ≤ R.now := hnow.1
  have uq : R.now + 1 ≤ 18446744073709551615 := by have := hnow.2; have h := up; rw [beq_eq_false_iff_ne] at h; omega
  have hwv : IntKind.u64.wrap (R.now + 1) = R.now + 1 := by rw [IntKind.wrap_u64]; omega
  have hlt := HM.out.lt
  go_enter Try.func59, Try.ntmps59
  go_wp2
  refine named ((five w (clC' (c)) (rtC (⟨tid, tlive, tgen, tdl, tper, tlast, tarmed, tbtw⟩)) (evC e) clZ rtZ).alloc (.cells (evC c.bg).toArray 31)) (fun V hV => ?_)
  have hL : Loc w bm (mcC R vc vt) w.heap.size (clC' (c)) (rtC (⟨tid, tlive, tgen, tdl, tper, tlast, tarmed, tbtw⟩)) (evC e) (some (evC c.bg)) V := by rw [hV]; exact (loc_five (HM.out) (Chg.refl _ _) rfl _ _ _).six (evC c.bg) (five_size _ _ _ _ _ _)
  replace hL := hL.drew
  refine wp_region_held_drew (by kernel_rfl) hL (fun _ => ?_)
  simp only [List.size_toArray, List.length_cons, List.length_nil, Nat.reduceAdd, Array.replicate_succ, Array.replicate_zero, List.push_toArray, List.nil_append, List.cons_append]
  refine tp 0 hL ?_
  refine tq 1 hL (fun _ h => (h.b _ rfl).cell 3 rfl) ?_
  refine tp 2 hL ?_
  refine tp 3 hL ?_
  refine tp 4 hL ?_
  refine tp 5 hL ?_
  refine tp 6 hL ?_
  refine tq 7 hL (fun _ h => h.m.cell 3 rfl) ?_
  refine tp 8 hL ?_
  refine tp 9 hL ?_
  refine tp 10 hL ?_
  refine tp 11 hL ?_
  refine tp 12 hL ?_
  refine tq 13 hL (fun _ h => h.m.cell 1 rfl) ?_
  refine tp 14 hL ?_
  refine tp 15 hL ?_
  refine tp 16 hL ?_
  refine tp 17 hL ?_
  refine tq 18 hL (fun _ h => h.e.cell 8 rfl) ?_
  refine tp 19 hL ?_
  refine tp 20 hL ?_
  refine tp 21 hL ?_
  refine tq 22 hL (fun _ h => h.m.cell 1 rfl) ?_
  refine wpAnyH_take (i := 23) (v := .int .u64 (R.now + 1)) rfl (by kernel_rfl) (by kernel_rfl) (by kernel_rfl) (fun _ _ _ h => h) (Or.inl ⟨by kernel_rfl, fun W hW => by go_simp; try simp only [hwv]⟩) hL ?_
  simp only [nA,nB,nC,Act.put,nD,nE,nF]
  refine tp 24 hL ?_
  refine tp 25 hL ?_
  refine wpAnyH_done (by kernel_rfl) ?_ _
  clear hL
  rw [hV]
  clear hV
  simp only [five, drew_alloc, clC', rtC, evC, clZ, rtZ]
  obtain ⟨W1, hW⟩ : ∃ W, W = w.drew := ⟨_, rfl⟩
  have hMW1 : Hid (Blk W1 bm 91 (mcC R vc vt)) := by rw [hW]; exact hid (HM.out.drew)
  have hCW1 : Hid (Chg (· = bm) w W1) := by rw [hW]; exact hid (Chg.drew (Chg.refl _ _))
  have hSW1 : Hid (w.heap.size = W1.heap.size) := by rw [hW]; exact hid (rfl)
  have hz : w.heap.size = W1.heap.size := by rw [hW]; rfl
  rw [← hW, hz]
  clear hW hz
  have c1 := hMW1.out.cell 1 rfl
  have z1 := hMW1.out.frozen 1
  have hl1 : bm < W1.heap.size := hMW1.out.lt
  have n1 : bm < W1.heap.size + 1 := by omega
  have n2 : bm < W1.heap.size + 1 + 1 := by omega
  have n3 : bm < W1.heap.size + 1 + 1 + 1 := by omega
  have n4 : bm < W1.heap.size + 1 + 1 + 1 + 1 := by omega
  have n5 : bm < W1.heap.size + 1 + 1 + 1 + 1 + 1 := by omega
  have n6 : bm < W1.heap.size + 1 + 1 + 1 + 1 + 1 + 1 := by omega
  go_wp2
  have h0 := (loc_five (hMW1.out.set 1 (.int .u64 (R.now + 1))) (hCW1.out.trans (Chg.set (S := (· = bm)) W1 ⟨bm, 1, none⟩ (.int .u64 (R.now + 1)) rfl)) (hSW1.out.trans (by simp)) (clC' { c with done := true }) (rtC ⟨tid, tlive, tgen, tdl, tper, tlast, tarmed, tbtw⟩) (evC e)).six (evC c.bg) (five_size _ _ _ _ _ _)
  rw [show (W1.setCell ⟨bm, 1, none⟩ (.int .u64 (R.now + 1))).heap.size = W1.heap.size by simp] at h0
  refine named _ (fun V2 hV2 => ?_)
  have hL : Loc w bm (mcC { R with now := R.now + 1 } vc vt) W1.heap.size (clC' { c with done := true }) (rtC ⟨tid, tlive, tgen, tdl, tper, tlast, tarmed, tbtw⟩) (evC e) (some (evC c.bg)) V2 := by rw [hV2]; exact h0
  clear hV2 h0 n1 n2 n3 n4 n5 n6 hl1 c1 z1
  replace hL := hL.drew
  refine wp_region_held_drew (by kernel_rfl) hL (fun _ => ?_)
  simp only [List.size_toArray, List.length_cons, List.length_nil, Nat.reduceAdd, Array.replicate_succ, Array.replicate_zero, List.push_toArray, List.nil_append, List.cons_append]
  refine tkC 0 hL ?_
  refine tkT 1 hL ?_
  have hL0 := hL
  refine Loc.putC 2 ({ c with done := true }) (by kernel_rfl) rfl (by kernel_rfl) rfl (by kernel_rfl) (by kernel_rfl) hL ?_
  replace hL := hL.setC (xs := clC' ({ c with done := true })) rfl
  simp only [nA,nB,nC,Act.put,nD,nE,nF]
  refine Loc.putT 3 (⟨tid, tlive, tgen, tdl, tper, tlast, tarmed, tbtw⟩) (by kernel_rfl) rfl (by kernel_rfl) rfl (by kernel_rfl) (by kernel_rfl) hL ?_
  replace hL := hL.setT (xs := rtC (⟨tid, tlive, tgen, tdl, tper, tlast, tarmed, tbtw⟩)) rfl
  simp only [nA,nB,nC,Act.put,nD,nE,nF]
  refine held_put 4 (by kernel_rfl) rfl (by kernel_rfl) (fun W => by go_simp; try rfl) hL ?_
  simp only [nA,nB,nC,Act.put,nD,nE,nF]
  refine wpAnyH_done (by kernel_rfl) ?_ _
  go_wp2
  refine bodyPost_ret (v := .tuple #[clV ({ c with done := true }), rtV (⟨tid, tlive, tgen, tdl, tper, tlast, tarmed, tbtw⟩), .bool (true)]) (results_loc (by kernel_rfl) _ _ ({ c with done := true }) (⟨tid, tlive, tgen, tdl, tper, tlast, tarmed, tbtw⟩) (true) ⟨W1.heap.size + 1 + 1 + 1, 0, none⟩ ⟨W1.heap.size + 1 + 1 + 1 + 1, 0, none⟩ (by kernel_rfl) (by kernel_rfl) (by kernel_rfl) (hL0.gotC ({ c with done := true }) _) (hL0.gotT (⟨tid, tlive, tgen, tdl, tper, tlast, tarmed, tbtw⟩) _)) rfl ?_
  rw [HV.out]
  exact ⟨rfl, hL.m, hL.chg⟩

set_option maxHeartbeats 4000000 in
set_option maxRecDepth 100000 in
theorem rfirst_9 (R : Rm) (c : Cl) (t : RT) (e : Ev) (bm : Nat) (vc vt : Value) (w : World) (HM : Hid (Blk w bm 91 (mcC R vc vt))) (k3 : (e.kind == 3) = false) (k11 : (e.kind == 11) = false) (k6 : (e.kind == 6) = false) (k7 : (e.kind == 7) = false) (k8 : (e.kind == 8) = false) (k9 : (e.kind == 9) = true) (HT : Hid (∀ W, Chg (· = bm) w W → Reads W vt R.tms.length (R.tms.flatMap rtC))) (hn : R.tms.length ≤ 1000000) (hd : U64 c.bg.dl) (hp : U64 c.bg.per) :
    Calls Try.prog 59 #[ptrV bm, clV c, rtV t, evV e] w (EndsR w bm vc vt (rfirst R c t e)) := by
  obtain ⟨tid, tlive, tgen, tdl, tper, tlast, tarmed, tbtw⟩ := t
  try dsimp only at *
  have HV := hid (show (rfirst R c ⟨tid, tlive, tgen, tdl, tper, tlast, tarmed, tbtw⟩ e) = (R, { c with done := true, err := e.err }, ⟨tid, tlive, tgen, tdl, tper, tlast, tarmed, tbtw⟩, rrefused R c.bg e.err) by simp [rfirst, k3, k11, k6, k7, k8, k9])
  have hlt := HM.out.lt
  go_enter Try.func59, Try.ntmps59
  go_wp2
  refine named ((five w (clC' ({ c with done := true, err := e.err })) (rtC (⟨tid, tlive, tgen, tdl, tper, tlast, tarmed, tbtw⟩)) (evC e) clZ rtZ).alloc (.cells (evC c.bg).toArray 31)) (fun V hV => ?_)
  have hL : Loc w bm (mcC R vc vt) w.heap.size (clC' ({ c with done := true, err := e.err })) (rtC (⟨tid, tlive, tgen, tdl, tper, tlast, tarmed, tbtw⟩)) (evC e) (some (evC c.bg)) V := by rw [hV]; exact (loc_five (HM.out) (Chg.refl _ _) rfl _ _ _).six (evC c.bg) (five_size _ _ _ _ _ _)
  clear hV
  replace hL := hL.drew
  refine wp_region_held_drew (by kernel_rfl) hL (fun _ => ?_)
  simp only [List.size_toArray, List.length_cons, List.length_nil, Nat.reduceAdd, Array.replicate_succ, Array.replicate_zero, List.push_toArray, List.nil_append, List.cons_append]
  refine tkC 0 hL ?_
  refine tkT 1 hL ?_
  refine tp 2 hL ?_
  refine tkB 3 hL ?_
  refine tp 4 hL ?_
  refine tq 5 hL (fun _ h => h.e.cell 9 rfl) ?_
  refine wpAnyH_ready (rs := [6]) (by kernel_rfl) (by simp) (AllReadyH.cons rfl (fun K hK => ?_) AllReadyH.nil)
  rw [if_pos (by kernel_rfl)]
  go_simp
  refine (rrefused_any R c.bg e.err bm vc vt _ (hid hL.m) (hid (fun W h => HT.out W (hL.chg.trans h))) hn hd hp).mono ?_
  rintro x W9 ⟨rfl, hb9⟩
  go_simp
  replace hL := hL.below hb9
  clear hb9
  refine hK.out _ _ hL (fun _ => ?_)
  clear hK K
  simp only [nD,nE,nF]
  have hL0 := hL
  refine Loc.putC 7 ({ c with done := true, err := e.err }) (by kernel_rfl) rfl (by kernel_rfl) rfl (by kernel_rfl) (by kernel_rfl) hL ?_
  replace hL := hL.setC (xs := clC' ({ c with done := true, err := e.err })) rfl
  simp only [nA,nB,nC,Act.put,nD,nE,nF]
  refine Loc.putT 8 (⟨tid, tlive, tgen, tdl, tper, tlast, tarmed, tbtw⟩) (by kernel_rfl) rfl (by kernel_rfl) rfl (by kernel_rfl) (by kernel_rfl) hL ?_
  replace hL := hL.setT (xs := rtC (⟨tid, tlive, tgen, tdl, tper, tlast, tarmed, tbtw⟩)) rfl
  simp only [nA,nB,nC,Act.put,nD,nE,nF]
  refine held_put 9 (by kernel_rfl) rfl (by kernel_rfl) (fun W => by go_simp; try rfl) hL ?_
  simp only [nA,nB,nC,Act.put,nD,nE,nF]
  refine wpAnyH_done (by kernel_rfl) ?_ _
  go_wp2
  refine bodyPost_ret (v := .tuple #[clV ({ c with done := true, err := e.err }), rtV (⟨tid, tlive, tgen, tdl, tper, tlast, tarmed, tbtw⟩), .bool (rrefused R c.bg e.err)]) (results_loc (by kernel_rfl) _ _ ({ c with done := true, err := e.err }) (⟨tid, tlive, tgen, tdl, tper, tlast, tarmed, tbtw⟩) (rrefused R c.bg e.err) ⟨w.heap.size + 1 + 1 + 1, 0, none⟩ ⟨w.heap.size + 1 + 1 + 1 + 1, 0, none⟩ (by kernel_rfl) (by kernel_rfl) (by kernel_rfl) (hL0.gotC ({ c with done := true, err := e.err }) _) (hL0.gotT (⟨tid, tlive, tgen, tdl, tper, tlast, tarmed, tbtw⟩) _)) rfl ?_
  rw [HV.out]
  exact ⟨rfl, hL.m, hL.chg⟩

set_option maxHeartbeats 4000000 in
set_option maxRecDepth 100000 in
theorem rfirst_o (R : Rm) (c : Cl) (t : RT) (e : Ev) (bm : Nat) (vc vt : Value) (w : World) (HM : Hid (Blk w bm 91 (mcC R vc vt))) (k3 : (e.kind == 3) = false) (k11 : (e.kind == 11) = false) (k6 : (e.kind == 6) = false) (k7 : (e.kind == 7) = false) (k8 : (e.kind == 8) = false) (k9 : (e.kind == 9) = false) (HT : Hid (∀ W, Chg (· = bm) w W → Reads W vt R.tms.length (R.tms.flatMap rtC))) (HN : Hid (rlives R.tms).Nodup) (hn : R.tms.length ≤ 1000000) :
    Calls Try.prog 59 #[ptrV bm, clV c, rtV t, evV e] w (EndsR w bm vc vt (rfirst R c t e)) := by
  obtain ⟨tid, tlive, tgen, tdl, tper, tlast, tarmed, tbtw⟩ := t
  try dsimp only at *
  have HV := hid (show (rfirst R c ⟨tid, tlive, tgen, tdl, tper, tlast, tarmed, tbtw⟩ e) = rclosing R c ⟨tid, tlive, tgen, tdl, tper, tlast, tarmed, tbtw⟩ e by simp [rfirst, k3, k11, k6, k7, k8, k9])
  have hlt := HM.out.lt
  go_enter Try.func59, Try.ntmps59
  go_wp2_with fail
  refine namedC ((five w (clC' (c)) (rtC (⟨tid, tlive, tgen, tdl, tper, tlast, tarmed, tbtw⟩)) (evC e) clZ rtZ).alloc (.cells (evC c.bg).toArray 31)) (fun V hV => ?_)
  have hL : Loc w bm (mcC R vc vt) w.heap.size (clC' (c)) (rtC (⟨tid, tlive, tgen, tdl, tper, tlast, tarmed, tbtw⟩)) (evC e) (some (evC c.bg)) V := by rw [hV]; exact (loc_five (HM.out) (Chg.refl _ _) rfl _ _ _).six (evC c.bg) (five_size _ _ _ _ _ _)
  clear hV
  have HT2 : Hid (∀ W, Chg (· = bm) V W → Reads W vt R.tms.length (R.tms.flatMap rtC)) := hid (fun W h => HT.out W (hL.chg.trans h))
  refine (rclosing_any R c ⟨tid, tlive, tgen, tdl, tper, tlast, tarmed, tbtw⟩ e bm vc vt V (hid hL.m) HT2 HN hn).mono ?_
  rintro x V2 ⟨rfl, hm, hc⟩
  replace hL := hL.after hm hc
  clear hm hc
  have HV2 := HV
  clear HV
  generalize hr : rclosing R c ⟨tid, tlive, tgen, tdl, tper, tlast, tarmed, tbtw⟩ e = r at hL ⊢
  obtain ⟨r1, r2, r3, r4⟩ := r
  rename_i hK
  refine hK _ _ ?_
  clear hK
  dsimp only at hL ⊢
  have hL0 := hL
  refine list_take (clV r2) (by kernel_rfl) (by go_simp) ?_
  simp only [Act.put,nD,nE,nF]
  refine list_take (rtV r3) (by kernel_rfl) (by go_simp) ?_
  simp only [Act.put,nD,nE,nF]
  refine list_take (.bool r4) (by kernel_rfl) (by go_simp) ?_
  simp only [Act.put,nD,nE,nF]
  refine hL.listC r2 rfl rfl (by kernel_rfl) (by kernel_rfl) ?_
  replace hL := hL.setC (xs := clC' r2) rfl
  simp only [Act.put]
  refine hL.listT r3 rfl rfl (by kernel_rfl) (by kernel_rfl) ?_
  replace hL := hL.setT (xs := rtC r3) rfl
  simp only [Act.put]
  refine list_take (.bool r4) (by kernel_rfl) (by go_simp) ?_
  simp only [Act.put,nD,nE,nF]
  unfold wpList
  go_wp2
  refine bodyPost_ret (v := .tuple #[clV r2, rtV r3, .bool r4]) (results_loc (by kernel_rfl) _ _ r2 r3 r4 ⟨w.heap.size + 1 + 1 + 1, 0, none⟩ ⟨w.heap.size + 1 + 1 + 1 + 1, 0, none⟩ (by kernel_rfl) (by kernel_rfl) (by kernel_rfl) (hL0.gotC r2 _) (hL0.gotT r3 _)) rfl ?_
  rw [HV2.out, hr]
  exact ⟨rfl, hL.m, hL.chg⟩
end Go.Proofs.Ytpnkkdpggofanaa
