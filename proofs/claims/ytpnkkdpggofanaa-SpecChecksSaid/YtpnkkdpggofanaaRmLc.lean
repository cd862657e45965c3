/- The document's machine: later by its walk, part 3. -/
import Derived.Test.YtpnkkdpggofanaaRmD
namespace Go.Proofs.Ytpnkkdpggofanaa
open Go.RowKit

set_option maxHeartbeats 4000000 in
set_option maxRecDepth 100000 in
theorem rlater_51b (R : Rm) (c : Cl) (t : RT) (e : Ev) (bm : Nat) (vc vt : Value) (w : World) (HM : Hid (Blk w bm 91 (mcC R vc vt))) (k2 : (e.kind == 2) = false) (k3 : (c.bg.what != 7) = false) (k4 : (t.live) = true) (k5 : (e.kind == 4) = false) (k6 : (e.kind == 5) = true) (x1 : (t.armed) = true) (x2 : (t.btw) = true) (x6 : (decide (t.per > 0)) = true) (x7 : (t.last) = true) :
    Calls Try.prog 58 #[ptrV bm, clV c, rtV t, evV e] w (EndsR w bm vc vt (R, rlater R.now c t e)) := by
  obtain ⟨tid, tlive, tgen, tdl, tper, tlast, tarmed, tbtw⟩ := t
  try dsimp only at *
  subst k4
  subst x1
  subst x2
  subst x7
  have HV := hid (show (R, rlater R.now c ⟨tid, true, tgen, tdl, tper, true, true, true⟩ e) = (R, c, ⟨tid, false, tgen, tdl, tper, true, true, false⟩, false) by simp [rlater, k2, k3, k5, k6, x6])
  have hlt := HM.out.lt
  go_enter Try.func58, Try.ntmps58
  go_wp2
  refine named (five w (clC' (c)) (rtC (⟨tid, true, tgen, tdl, tper, true, true, true⟩)) (evC e) clZ rtZ) (fun V hV => ?_)
  have hL : Loc w bm (mcC R vc vt) w.heap.size (clC' (c)) (rtC (⟨tid, true, tgen, tdl, tper, true, true, true⟩)) (evC e) none V := by rw [hV]; exact loc_five (HM.out) (Chg.refl _ _) rfl _ _ _
  replace hL := hL.drew
  refine wp_region_held_drew (by kernel_rfl) hL (fun _ => ?_)
  simp only [List.size_toArray, List.length_cons, List.length_nil, Nat.reduceAdd, Array.replicate_succ, Array.replicate_zero, List.push_toArray, List.nil_append, List.cons_append]
  refine tp 0 hL ?_
  refine tq 1 hL (fun _ h => h.t.cell 6 rfl) ?_
  refine tp 2 hL ?_
  refine tp 3 hL ?_
  refine tq 4 hL (fun _ h => h.t.cell 7 rfl) ?_
  refine tp 5 hL ?_
  refine tp 6 hL ?_
  refine tp 7 hL ?_
  refine sp 8 hL ?_
  refine sp 9 hL ?_
  refine sp 10 hL ?_
  refine sp 11 hL ?_
  refine sp 12 hL ?_
  refine tp 13 hL ?_
  refine tp 14 hL ?_
  refine sp 15 hL ?_
  refine sp 16 hL ?_
  refine sp 17 hL ?_
  refine sp 18 hL ?_
  refine sp 19 hL ?_
  refine tp 20 hL ?_
  refine tp 21 hL ?_
  refine sp 22 hL ?_
  refine sp 23 hL ?_
  refine sp 24 hL ?_
  refine sp 25 hL ?_
  refine sp 26 hL ?_
  refine sp 27 hL ?_
  refine sp 28 hL ?_
  refine tp 29 hL ?_
  refine tp 30 hL ?_
  refine sp 31 hL ?_
  refine sp 32 hL ?_
  refine sp 33 hL ?_
  refine sp 34 hL ?_
  refine sp 35 hL ?_
  refine sp 36 hL ?_
  refine sp 37 hL ?_
  refine tp 38 hL ?_
  refine held_put 39 (by kernel_rfl) rfl (by kernel_rfl) (fun W => by go_simp; try rfl) hL ?_
  simp only [nA,nB,nC,Act.put,nD,nE,nF]
  refine wpAnyH_done (by kernel_rfl) ?_ _
  clear hL
  rw [hV]
  clear hV
  simp only [five, drew_alloc, clC', rtC, evC, clZ, rtZ]
  obtain ⟨W1, hW⟩ : ∃ W, W = w.drew := ⟨_, rfl⟩
  have hMW1 : Hid (Blk W1 bm 91 (mcC R vc vt)) := by rw [hW]; exact hid (HM.out.drew)
  have hCW1 : Hid (Chg (· = bm) w W1) := by rw [hW]; exact hid (Chg.drew (Chg.refl _ _))
  have hSW1 : Hid (w.heap.size = W1.heap.size) := by rw [hW]; exact hid (rfl)
  have hz : w.heap.size = W1.heap.size := by rw [hW]; rfl
  rw [← hW, hz]
  clear hW hz
  go_wp2
  refine named (five W1 (clC' (c)) (rtC (⟨tid, false, tgen, tdl, tper, true, true, false⟩)) (evC e) clZ rtZ) (fun V hV => ?_)
  have hL : Loc w bm (mcC R vc vt) W1.heap.size (clC' (c)) (rtC (⟨tid, false, tgen, tdl, tper, true, true, false⟩)) (evC e) none V := by rw [hV]; exact loc_five (hMW1.out) (hCW1.out) hSW1.out _ _ _
  clear hV
  replace hL := hL.drew
  refine wp_region_held_drew (by kernel_rfl) hL (fun _ => ?_)
  simp only [List.size_toArray, List.length_cons, List.length_nil, Nat.reduceAdd, Array.replicate_succ, Array.replicate_zero, List.push_toArray, List.nil_append, List.cons_append]
  refine tkC 0 hL ?_
  refine tkT 1 hL ?_
  refine tp 2 hL ?_
  have hL0 := hL
  refine Loc.putC 3 (c) (by kernel_rfl) rfl (by kernel_rfl) rfl (by kernel_rfl) (by kernel_rfl) hL ?_
  replace hL := hL.setC (xs := clC' (c)) rfl
  simp only [nA,nB,nC,Act.put,nD,nE,nF]
  refine Loc.putT 4 (⟨tid, false, tgen, tdl, tper, true, true, false⟩) (by kernel_rfl) rfl (by kernel_rfl) rfl (by kernel_rfl) (by kernel_rfl) hL ?_
  replace hL := hL.setT (xs := rtC (⟨tid, false, tgen, tdl, tper, true, true, false⟩)) rfl
  simp only [nA,nB,nC,Act.put,nD,nE,nF]
  refine held_put 5 (by kernel_rfl) rfl (by kernel_rfl) (fun W => by go_simp; try rfl) hL ?_
  simp only [nA,nB,nC,Act.put,nD,nE,nF]
  refine wpAnyH_done (by kernel_rfl) ?_ _
  go_wp2
  refine bodyPost_ret (v := .tuple #[clV (c), rtV (⟨tid, false, tgen, tdl, tper, true, true, false⟩), .bool (false)]) (results_loc (by kernel_rfl) _ _ (c) (⟨tid, false, tgen, tdl, tper, true, true, false⟩) (false) ⟨W1.heap.size + 1 + 1 + 1, 0, none⟩ ⟨W1.heap.size + 1 + 1 + 1 + 1, 0, none⟩ (by kernel_rfl) (by kernel_rfl) (by kernel_rfl) (hL0.gotC (c) _) (hL0.gotT (⟨tid, false, tgen, tdl, tper, true, true, false⟩) _)) rfl ?_
  rw [HV.out]
  exact ⟨rfl, hL.m, hL.chg⟩

set_option maxHeartbeats 4000000 in
set_option maxRecDepth 100000 in
theorem rlater_51c (R : Rm) (c : Cl) (t : RT) (e : Ev) (bm : Nat) (vc vt : Value) (w : World) (HM : Hid (Blk w bm 91 (mcC R vc vt))) (k2 : (e.kind == 2) = false) (k3 : (c.bg.what != 7) = false) (k4 : (t.live) = true) (k5 : (e.kind == 4) = false) (k6 : (e.kind == 5) = true) (x1 : (t.armed) = true) (x2 : (t.btw) = true) (x6 : (decide (t.per > 0)) = true) (x7 : (t.last) = false) :
    Calls Try.prog 58 #[ptrV bm, clV c, rtV t, evV e] w (EndsR w bm vc vt (R, rlater R.now c t e)) := by
  obtain ⟨tid, tlive, tgen, tdl, tper, tlast, tarmed, tbtw⟩ := t
  try dsimp only at *
  subst k4
  subst x1
  subst x2
  subst x7
  have HV := hid (show (R, rlater R.now c ⟨tid, true, tgen, tdl, tper, false, true, true⟩ e) = (R, c, ⟨tid, true, tgen, tdl, tper, false, true, true⟩, false) by simp [rlater, k2, k3, k5, k6, x6])
  have hlt := HM.out.lt
  go_enter Try.func58, Try.ntmps58
  go_wp2
  refine named (five w (clC' (c)) (rtC (⟨tid, true, tgen, tdl, tper, false, true, true⟩)) (evC e) clZ rtZ) (fun V hV => ?_)
  have hL : Loc w bm (mcC R vc vt) w.heap.size (clC' (c)) (rtC (⟨tid, true, tgen, tdl, tper, false, true, true⟩)) (evC e) none V := by rw [hV]; exact loc_five (HM.out) (Chg.refl _ _) rfl _ _ _
  replace hL := hL.drew
  refine wp_region_held_drew (by kernel_rfl) hL (fun _ => ?_)
  simp only [List.size_toArray, List.length_cons, List.length_nil, Nat.reduceAdd, Array.replicate_succ, Array.replicate_zero, List.push_toArray, List.nil_append, List.cons_append]
  refine tp 0 hL ?_
  refine tq 1 hL (fun _ h => h.t.cell 6 rfl) ?_
  refine tp 2 hL ?_
  refine tp 3 hL ?_
  refine tq 4 hL (fun _ h => h.t.cell 7 rfl) ?_
  refine tp 5 hL ?_
  refine tp 6 hL ?_
  refine tp 7 hL ?_
  refine sp 8 hL ?_
  refine sp 9 hL ?_
  refine sp 10 hL ?_
  refine sp 11 hL ?_
  refine sp 12 hL ?_
  refine tp 13 hL ?_
  refine tp 14 hL ?_
  refine sp 15 hL ?_
  refine sp 16 hL ?_
  refine sp 17 hL ?_
  refine sp 18 hL ?_
  refine sp 19 hL ?_
  refine tp 20 hL ?_
  refine tp 21 hL ?_
  refine sp 22 hL ?_
  refine sp 23 hL ?_
  refine sp 24 hL ?_
  refine sp 25 hL ?_
  refine sp 26 hL ?_
  refine sp 27 hL ?_
  refine sp 28 hL ?_
  refine tp 29 hL ?_
  refine tp 30 hL ?_
  refine sp 31 hL ?_
  refine sp 32 hL ?_
  refine sp 33 hL ?_
  refine sp 34 hL ?_
  refine sp 35 hL ?_
  refine sp 36 hL ?_
  refine sp 37 hL ?_
  refine tp 38 hL ?_
  refine held_put 39 (by kernel_rfl) rfl (by kernel_rfl) (fun W => by go_simp; try rfl) hL ?_
  simp only [nA,nB,nC,Act.put,nD,nE,nF]
  refine wpAnyH_done (by kernel_rfl) ?_ _
  clear hL
  rw [hV]
  clear hV
  simp only [five, drew_alloc, clC', rtC, evC, clZ, rtZ]
  obtain ⟨W1, hW⟩ : ∃ W, W = w.drew := ⟨_, rfl⟩
  have hMW1 : Hid (Blk W1 bm 91 (mcC R vc vt)) := by rw [hW]; exact hid (HM.out.drew)
  have hCW1 : Hid (Chg (· = bm) w W1) := by rw [hW]; exact hid (Chg.drew (Chg.refl _ _))
  have hSW1 : Hid (w.heap.size = W1.heap.size) := by rw [hW]; exact hid (rfl)
  have hz : w.heap.size = W1.heap.size := by rw [hW]; rfl
  rw [← hW, hz]
  clear hW hz
  go_wp2
  refine named (five W1 (clC' (c)) (rtC (⟨tid, true, tgen, tdl, tper, false, true, true⟩)) (evC e) clZ rtZ) (fun V hV => ?_)
  have hL : Loc w bm (mcC R vc vt) W1.heap.size (clC' (c)) (rtC (⟨tid, true, tgen, tdl, tper, false, true, true⟩)) (evC e) none V := by rw [hV]; exact loc_five (hMW1.out) (hCW1.out) hSW1.out _ _ _
  clear hV
  replace hL := hL.drew
  refine wp_region_held_drew (by kernel_rfl) hL (fun _ => ?_)
  simp only [List.size_toArray, List.length_cons, List.length_nil, Nat.reduceAdd, Array.replicate_succ, Array.replicate_zero, List.push_toArray, List.nil_append, List.cons_append]
  refine tkC 0 hL ?_
  refine tkT 1 hL ?_
  refine tp 2 hL ?_
  have hL0 := hL
  refine Loc.putC 3 (c) (by kernel_rfl) rfl (by kernel_rfl) rfl (by kernel_rfl) (by kernel_rfl) hL ?_
  replace hL := hL.setC (xs := clC' (c)) rfl
  simp only [nA,nB,nC,Act.put,nD,nE,nF]
  refine Loc.putT 4 (⟨tid, true, tgen, tdl, tper, false, true, true⟩) (by kernel_rfl) rfl (by kernel_rfl) rfl (by kernel_rfl) (by kernel_rfl) hL ?_
  replace hL := hL.setT (xs := rtC (⟨tid, true, tgen, tdl, tper, false, true, true⟩)) rfl
  simp only [nA,nB,nC,Act.put,nD,nE,nF]
  refine held_put 5 (by kernel_rfl) rfl (by kernel_rfl) (fun W => by go_simp; try rfl) hL ?_
  simp only [nA,nB,nC,Act.put,nD,nE,nF]
  refine wpAnyH_done (by kernel_rfl) ?_ _
  go_wp2
  refine bodyPost_ret (v := .tuple #[clV (c), rtV (⟨tid, true, tgen, tdl, tper, false, true, true⟩), .bool (false)]) (results_loc (by kernel_rfl) _ _ (c) (⟨tid, true, tgen, tdl, tper, false, true, true⟩) (false) ⟨W1.heap.size + 1 + 1 + 1, 0, none⟩ ⟨W1.heap.size + 1 + 1 + 1 + 1, 0, none⟩ (by kernel_rfl) (by kernel_rfl) (by kernel_rfl) (hL0.gotC (c) _) (hL0.gotT (⟨tid, true, tgen, tdl, tper, false, true, true⟩) _)) rfl ?_
  rw [HV.out]
  exact ⟨rfl, hL.m, hL.chg⟩

set_option maxHeartbeats 4000000 in
set_option maxRecDepth 100000 in
theorem rlater_52a (R : Rm) (c : Cl) (t : RT) (e : Ev) (bm : Nat) (vc vt : Value) (w : World) (HM : Hid (Blk w bm 91 (mcC R vc vt))) (k2 : (e.kind == 2) = false) (k3 : (c.bg.what != 7) = false) (k4 : (t.live) = true) (k5 : (e.kind == 4) = false) (k6 : (e.kind == 5) = true) (x1 : (t.armed) = true) (x2 : (t.btw) = false) (x3 : (e.gen == t.gen) = false) (x6 : (decide (t.per > 0)) = false) :
    Calls Try.prog 58 #[ptrV bm, clV c, rtV t, evV e] w (EndsR w bm vc vt (R, rlater R.now c t e)) := by
  obtain ⟨tid, tlive, tgen, tdl, tper, tlast, tarmed, tbtw⟩ := t
  try dsimp only at *
  subst k4
  subst x1
  subst x2
  have HV := hid (show (R, rlater R.now c ⟨tid, true, tgen, tdl, tper, tlast, true, false⟩ e) = (R, c, ⟨tid, false, tgen, tdl, tper, tlast, true, false⟩, false) by simp [rlater, k2, k3, k5, k6, x3, x6])
  have hlt := HM.out.lt
  go_enter Try.func58, Try.ntmps58
  go_wp2
  refine named (five w (clC' (c)) (rtC (⟨tid, true, tgen, tdl, tper, tlast, true, false⟩)) (evC e) clZ rtZ) (fun V hV => ?_)
  have hL : Loc w bm (mcC R vc vt) w.heap.size (clC' (c)) (rtC (⟨tid, true, tgen, tdl, tper, tlast, true, false⟩)) (evC e) none V := by rw [hV]; exact loc_five (HM.out) (Chg.refl _ _) rfl _ _ _
  replace hL := hL.drew
  refine wp_region_held_drew (by kernel_rfl) hL (fun _ => ?_)
  simp only [List.size_toArray, List.length_cons, List.length_nil, Nat.reduceAdd, Array.replicate_succ, Array.replicate_zero, List.push_toArray, List.nil_append, List.cons_append]
  refine tp 0 hL ?_
  refine tq 1 hL (fun _ h => h.t.cell 6 rfl) ?_
  refine tp 2 hL ?_
  refine tp 3 hL ?_
  refine tq 4 hL (fun _ h => h.t.cell 7 rfl) ?_
  refine tp 5 hL ?_
  refine tp 6 hL ?_
  refine tp 7 hL ?_
  refine tp 8 hL ?_
  refine tq 9 hL (fun _ h => h.e.cell 5 rfl) ?_
  refine tp 10 hL ?_
  refine tq 11 hL (fun _ h => h.t.cell 2 rfl) ?_
  refine tp 12 hL ?_
  refine tp 13 hL ?_
  refine tp 14 hL ?_
  refine sp 15 hL ?_
  refine sp 16 hL ?_
  refine sp 17 hL ?_
  refine sp 18 hL ?_
  refine sp 19 hL ?_
  refine tp 20 hL ?_
  refine tp 21 hL ?_
  refine sp 22 hL ?_
  refine sp 23 hL ?_
  refine sp 24 hL ?_
  refine sp 25 hL ?_
  refine sp 26 hL ?_
  refine sp 27 hL ?_
  refine sp 28 hL ?_
  refine tp 29 hL ?_
  refine tp 30 hL ?_
  refine sp 31 hL ?_
  refine sp 32 hL ?_
  refine sp 33 hL ?_
  refine sp 34 hL ?_
  refine sp 35 hL ?_
  refine sp 36 hL ?_
  refine sp 37 hL ?_
  refine tp 38 hL ?_
  refine held_put 39 (by kernel_rfl) rfl (by kernel_rfl) (fun W => by go_simp; try rfl) hL ?_
  simp only [nA,nB,nC,Act.put,nD,nE,nF]
  refine wpAnyH_done (by kernel_rfl) ?_ _
  clear hL
  rw [hV]
  clear hV
  simp only [five, drew_alloc, clC', rtC, evC, clZ, rtZ]
  obtain ⟨W1, hW⟩ : ∃ W, W = w.drew := ⟨_, rfl⟩
  have hMW1 : Hid (Blk W1 bm 91 (mcC R vc vt)) := by rw [hW]; exact hid (HM.out.drew)
  have hCW1 : Hid (Chg (· = bm) w W1) := by rw [hW]; exact hid (Chg.drew (Chg.refl _ _))
  have hSW1 : Hid (w.heap.size = W1.heap.size) := by rw [hW]; exact hid (rfl)
  have hz : w.heap.size = W1.heap.size := by rw [hW]; rfl
  rw [← hW, hz]
  clear hW hz
  go_wp2
  refine named (five W1 (clC' (c)) (rtC (⟨tid, false, tgen, tdl, tper, tlast, true, false⟩)) (evC e) clZ rtZ) (fun V hV => ?_)
  have hL : Loc w bm (mcC R vc vt) W1.heap.size (clC' (c)) (rtC (⟨tid, false, tgen, tdl, tper, tlast, true, false⟩)) (evC e) none V := by rw [hV]; exact loc_five (hMW1.out) (hCW1.out) hSW1.out _ _ _
  clear hV
  replace hL := hL.drew
  refine wp_region_held_drew (by kernel_rfl) hL (fun _ => ?_)
  simp only [List.size_toArray, List.length_cons, List.length_nil, Nat.reduceAdd, Array.replicate_succ, Array.replicate_zero, List.push_toArray, List.nil_append, List.cons_append]
  refine tkC 0 hL ?_
  refine tkT 1 hL ?_
  refine tp 2 hL ?_
  have hL0 := hL
  refine Loc.putC 3 (c) (by kernel_rfl) rfl (by kernel_rfl) rfl (by kernel_rfl) (by kernel_rfl) hL ?_
  replace hL := hL.setC (xs := clC' (c)) rfl
  simp only [nA,nB,nC,Act.put,nD,nE,nF]
  refine Loc.putT 4 (⟨tid, false, tgen, tdl, tper, tlast, true, false⟩) (by kernel_rfl) rfl (by kernel_rfl) rfl (by kernel_rfl) (by kernel_rfl) hL ?_
  replace hL := hL.setT (xs := rtC (⟨tid, false, tgen, tdl, tper, tlast, true, false⟩)) rfl
  simp only [nA,nB,nC,Act.put,nD,nE,nF]
  refine held_put 5 (by kernel_rfl) rfl (by kernel_rfl) (fun W => by go_simp; try rfl) hL ?_
  simp only [nA,nB,nC,Act.put,nD,nE,nF]
  refine wpAnyH_done (by kernel_rfl) ?_ _
  go_wp2
  refine bodyPost_ret (v := .tuple #[clV (c), rtV (⟨tid, false, tgen, tdl, tper, tlast, true, false⟩), .bool (false)]) (results_loc (by kernel_rfl) _ _ (c) (⟨tid, false, tgen, tdl, tper, tlast, true, false⟩) (false) ⟨W1.heap.size + 1 + 1 + 1, 0, none⟩ ⟨W1.heap.size + 1 + 1 + 1 + 1, 0, none⟩ (by kernel_rfl) (by kernel_rfl) (by kernel_rfl) (hL0.gotC (c) _) (hL0.gotT (⟨tid, false, tgen, tdl, tper, tlast, true, false⟩) _)) rfl ?_
  rw [HV.out]
  exact ⟨rfl, hL.m, hL.chg⟩

set_option maxHeartbeats 4000000 in
set_option maxRecDepth 100000 in
theorem rlater_52b (R : Rm) (c : Cl) (t : RT) (e : Ev) (bm : Nat) (vc vt : Value) (w : World) (HM : Hid (Blk w bm 91 (mcC R vc vt))) (k2 : (e.kind == 2) = false) (k3 : (c.bg.what != 7) = false) (k4 : (t.live) = true) (k5 : (e.kind == 4) = false) (k6 : (e.kind == 5) = true) (x1 : (t.armed) = true) (x2 : (t.btw) = false) (x3 : (e.gen == t.gen) = false) (x6 : (decide (t.per > 0)) = true) (x7 : (t.last) = true) :
    Calls Try.prog 58 #[ptrV bm, clV c, rtV t, evV e] w (EndsR w bm vc vt (R, rlater R.now c t e)) := by
  obtain ⟨tid, tlive, tgen, tdl, tper, tlast, tarmed, tbtw⟩ := t
  try dsimp only at *
  subst k4
  subst x1
  subst x2
  subst x7
  have HV := hid (show (R, rlater R.now c ⟨tid, true, tgen, tdl, tper, true, true, false⟩ e) = (R, c, ⟨tid, false, tgen, tdl, tper, true, true, false⟩, false) by simp [rlater, k2, k3, k5, k6, x3, x6])
  have hlt := HM.out.lt
  go_enter Try.func58, Try.ntmps58
  go_wp2
  refine named (five w (clC' (c)) (rtC (⟨tid, true, tgen, tdl, tper, true, true, false⟩)) (evC e) clZ rtZ) (fun V hV => ?_)
  have hL : Loc w bm (mcC R vc vt) w.heap.size (clC' (c)) (rtC (⟨tid, true, tgen, tdl, tper, true, true, false⟩)) (evC e) none V := by rw [hV]; exact loc_five (HM.out) (Chg.refl _ _) rfl _ _ _
  replace hL := hL.drew
  refine wp_region_held_drew (by kernel_rfl) hL (fun _ => ?_)
  simp only [List.size_toArray, List.length_cons, List.length_nil, Nat.reduceAdd, Array.replicate_succ, Array.replicate_zero, List.push_toArray, List.nil_append, List.cons_append]
  refine tp 0 hL ?_
  refine tq 1 hL (fun _ h => h.t.cell 6 rfl) ?_
  refine tp 2 hL ?_
  refine tp 3 hL ?_
  refine tq 4 hL (fun _ h => h.t.cell 7 rfl) ?_
  refine tp 5 hL ?_
  refine tp 6 hL ?_
  refine tp 7 hL ?_
  refine tp 8 hL ?_
  refine tq 9 hL (fun _ h => h.e.cell 5 rfl) ?_
  refine tp 10 hL ?_
  refine tq 11 hL (fun _ h => h.t.cell 2 rfl) ?_
  refine tp 12 hL ?_
  refine tp 13 hL ?_
  refine tp 14 hL ?_
  refine sp 15 hL ?_
  refine sp 16 hL ?_
  refine sp 17 hL ?_
  refine sp 18 hL ?_
  refine sp 19 hL ?_
  refine tp 20 hL ?_
  refine tp 21 hL ?_
  refine sp 22 hL ?_
  refine sp 23 hL ?_
  refine sp 24 hL ?_
  refine sp 25 hL ?_
  refine sp 26 hL ?_
  refine sp 27 hL ?_
  refine sp 28 hL ?_
  refine tp 29 hL ?_
  refine tp 30 hL ?_
  refine sp 31 hL ?_
  refine sp 32 hL ?_
  refine sp 33 hL ?_
  refine sp 34 hL ?_
  refine sp 35 hL ?_
  refine sp 36 hL ?_
  refine sp 37 hL ?_
  refine tp 38 hL ?_
  refine held_put 39 (by kernel_rfl) rfl (by kernel_rfl) (fun W => by go_simp; try rfl) hL ?_
  simp only [nA,nB,nC,Act.put,nD,nE,nF]
  refine wpAnyH_done (by kernel_rfl) ?_ _
  clear hL
  rw [hV]
  clear hV
  simp only [five, drew_alloc, clC', rtC, evC, clZ, rtZ]
  obtain ⟨W1, hW⟩ : ∃ W, W = w.drew := ⟨_, rfl⟩
  have hMW1 : Hid (Blk W1 bm 91 (mcC R vc vt)) := by rw [hW]; exact hid (HM.out.drew)
  have hCW1 : Hid (Chg (· = bm) w W1) := by rw [hW]; exact hid (Chg.drew (Chg.refl _ _))
  have hSW1 : Hid (w.heap.size = W1.heap.size) := by rw [hW]; exact hid (rfl)
  have hz : w.heap.size = W1.heap.size := by rw [hW]; rfl
  rw [← hW, hz]
  clear hW hz
  go_wp2
  refine named (five W1 (clC' (c)) (rtC (⟨tid, false, tgen, tdl, tper, true, true, false⟩)) (evC e) clZ rtZ) (fun V hV => ?_)
  have hL : Loc w bm (mcC R vc vt) W1.heap.size (clC' (c)) (rtC (⟨tid, false, tgen, tdl, tper, true, true, false⟩)) (evC e) none V := by rw [hV]; exact loc_five (hMW1.out) (hCW1.out) hSW1.out _ _ _
  clear hV
  replace hL := hL.drew
  refine wp_region_held_drew (by kernel_rfl) hL (fun _ => ?_)
  simp only [List.size_toArray, List.length_cons, List.length_nil, Nat.reduceAdd, Array.replicate_succ, Array.replicate_zero, List.push_toArray, List.nil_append, List.cons_append]
  refine tkC 0 hL ?_
  refine tkT 1 hL ?_
  refine tp 2 hL ?_
  have hL0 := hL
  refine Loc.putC 3 (c) (by kernel_rfl) rfl (by kernel_rfl) rfl (by kernel_rfl) (by kernel_rfl) hL ?_
  replace hL := hL.setC (xs := clC' (c)) rfl
  simp only [nA,nB,nC,Act.put,nD,nE,nF]
  refine Loc.putT 4 (⟨tid, false, tgen, tdl, tper, true, true, false⟩) (by kernel_rfl) rfl (by kernel_rfl) rfl (by kernel_rfl) (by kernel_rfl) hL ?_
  replace hL := hL.setT (xs := rtC (⟨tid, false, tgen, tdl, tper, true, true, false⟩)) rfl
  simp only [nA,nB,nC,Act.put,nD,nE,nF]
  refine held_put 5 (by kernel_rfl) rfl (by kernel_rfl) (fun W => by go_simp; try rfl) hL ?_
  simp only [nA,nB,nC,Act.put,nD,nE,nF]
  refine wpAnyH_done (by kernel_rfl) ?_ _
  go_wp2
  refine bodyPost_ret (v := .tuple #[clV (c), rtV (⟨tid, false, tgen, tdl, tper, true, true, false⟩), .bool (false)]) (results_loc (by kernel_rfl) _ _ (c) (⟨tid, false, tgen, tdl, tper, true, true, false⟩) (false) ⟨W1.heap.size + 1 + 1 + 1, 0, none⟩ ⟨W1.heap.size + 1 + 1 + 1 + 1, 0, none⟩ (by kernel_rfl) (by kernel_rfl) (by kernel_rfl) (hL0.gotC (c) _) (hL0.gotT (⟨tid, false, tgen, tdl, tper, true, true, false⟩) _)) rfl ?_
  rw [HV.out]
  exact ⟨rfl, hL.m, hL.chg⟩

set_option maxHeartbeats 4000000 in
set_option maxRecDepth 100000 in
theorem rlater_52c (R : Rm) (c : Cl) (t : RT) (e : Ev) (bm : Nat) (vc vt : Value) (w : World) (HM : Hid (Blk w bm 91 (mcC R vc vt))) (k2 : (e.kind == 2) = false) (k3 : (c.bg.what != 7) = false) (k4 : (t.live) = true) (k5 : (e.kind == 4) = false) (k6 : (e.kind == 5) = true) (x1 : (t.armed) = true) (x2 : (t.btw) = false) (x3 : (e.gen == t.gen) = false) (x6 : (decide (t.per > 0)) = true) (x7 : (t.last) = false) :
    Calls Try.prog 58 #[ptrV bm, clV c, rtV t, evV e] w (EndsR w bm vc vt (R, rlater R.now c t e)) := by
  obtain ⟨tid, tlive, tgen, tdl, tper, tlast, tarmed, tbtw⟩ := t
  try dsimp only at *
  subst k4
  subst x1
  subst x2
  subst x7
  have HV := hid (show (R, rlater R.now c ⟨tid, true, tgen, tdl, tper, false, true, false⟩ e) = (R, c, ⟨tid, true, tgen, tdl, tper, false, true, true⟩, false) by simp [rlater, k2, k3, k5, k6, x3, x6])
  have hlt := HM.out.lt
  go_enter Try.func58, Try.ntmps58
  go_wp2
  refine named (five w (clC' (c)) (rtC (⟨tid, true, tgen, tdl, tper, false, true, false⟩)) (evC e) clZ rtZ) (fun V hV => ?_)
  have hL : Loc w bm (mcC R vc vt) w.heap.size (clC' (c)) (rtC (⟨tid, true, tgen, tdl, tper, false, true, false⟩)) (evC e) none V := by rw [hV]; exact loc_five (HM.out) (Chg.refl _ _) rfl _ _ _
  replace hL := hL.drew
  refine wp_region_held_drew (by kernel_rfl) hL (fun _ => ?_)
  simp only [List.size_toArray, List.length_cons, List.length_nil, Nat.reduceAdd, Array.replicate_succ, Array.replicate_zero, List.push_toArray, List.nil_append, List.cons_append]
  refine tp 0 hL ?_
  refine tq 1 hL (fun _ h => h.t.cell 6 rfl) ?_
  refine tp 2 hL ?_
  refine tp 3 hL ?_
  refine tq 4 hL (fun _ h => h.t.cell 7 rfl) ?_
  refine tp 5 hL ?_
  refine tp 6 hL ?_
  refine tp 7 hL ?_
  refine tp 8 hL ?_
  refine tq 9 hL (fun _ h => h.e.cell 5 rfl) ?_
  refine tp 10 hL ?_
  refine tq 11 hL (fun _ h => h.t.cell 2 rfl) ?_
  refine tp 12 hL ?_
  refine tp 13 hL ?_
  refine tp 14 hL ?_
  refine sp 15 hL ?_
  refine sp 16 hL ?_
  refine sp 17 hL ?_
  refine sp 18 hL ?_
  refine sp 19 hL ?_
  refine tp 20 hL ?_
  refine tp 21 hL ?_
  refine sp 22 hL ?_
  refine sp 23 hL ?_
  refine sp 24 hL ?_
  refine sp 25 hL ?_
  refine sp 26 hL ?_
  refine sp 27 hL ?_
  refine sp 28 hL ?_
  refine tp 29 hL ?_
  refine tp 30 hL ?_
  refine sp 31 hL ?_
  refine sp 32 hL ?_
  refine sp 33 hL ?_
  refine sp 34 hL ?_
  refine sp 35 hL ?_
  refine sp 36 hL ?_
  refine sp 37 hL ?_
  refine tp 38 hL ?_
  refine held_put 39 (by kernel_rfl) rfl (by kernel_rfl) (fun W => by go_simp; try rfl) hL ?_
  simp only [nA,nB,nC,Act.put,nD,nE,nF]
  refine wpAnyH_done (by kernel_rfl) ?_ _
  clear hL
  rw [hV]
  clear hV
  simp only [five, drew_alloc, clC', rtC, evC, clZ, rtZ]
  obtain ⟨W1, hW⟩ : ∃ W, W = w.drew := ⟨_, rfl⟩
  have hMW1 : Hid (Blk W1 bm 91 (mcC R vc vt)) := by rw [hW]; exact hid (HM.out.drew)
  have hCW1 : Hid (Chg (· = bm) w W1) := by rw [hW]; exact hid (Chg.drew (Chg.refl _ _))
  have hSW1 : Hid (w.heap.size = W1.heap.size) := by rw [hW]; exact hid (rfl)
  have hz : w.heap.size = W1.heap.size := by rw [hW]; rfl
  rw [← hW, hz]
  clear hW hz
  go_wp2
  refine named (five W1 (clC' (c)) (rtC (⟨tid, true, tgen, tdl, tper, false, true, true⟩)) (evC e) clZ rtZ) (fun V hV => ?_)
  have hL : Loc w bm (mcC R vc vt) W1.heap.size (clC' (c)) (rtC (⟨tid, true, tgen, tdl, tper, false, true, true⟩)) (evC e) none V := by rw [hV]; exact loc_five (hMW1.out) (hCW1.out) hSW1.out _ _ _
  clear hV
  replace hL := hL.drew
  refine wp_region_held_drew (by kernel_rfl) hL (fun _ => ?_)
  simp only [List.size_toArray, List.length_cons, List.length_nil, Nat.reduceAdd, Array.replicate_succ, Array.replicate_zero, List.push_toArray, List.nil_append, List.cons_append]
  refine tkC 0 hL ?_
  refine tkT 1 hL ?_
  refine tp 2 hL ?_
  have hL0 := hL
  refine Loc.putC 3 (c) (by kernel_rfl) rfl (by kernel_rfl) rfl (by kernel_rfl) (by kernel_rfl) hL ?_
  replace hL := hL.setC (xs := clC' (c)) rfl
  simp only [nA,nB,nC,Act.put,nD,nE,nF]
  refine Loc.putT 4 (⟨tid, true, tgen, tdl, tper, false, true, true⟩) (by kernel_rfl) rfl (by kernel_rfl) rfl (by kernel_rfl) (by kernel_rfl) hL ?_
  replace hL := hL.setT (xs := rtC (⟨tid, true, tgen, tdl, tper, false, true, true⟩)) rfl
  simp only [nA,nB,nC,Act.put,nD,nE,nF]
  refine held_put 5 (by kernel_rfl) rfl (by kernel_rfl) (fun W => by go_simp; try rfl) hL ?_
  simp only [nA,nB,nC,Act.put,nD,nE,nF]
  refine wpAnyH_done (by kernel_rfl) ?_ _
  go_wp2
  refine bodyPost_ret (v := .tuple #[clV (c), rtV (⟨tid, true, tgen, tdl, tper, false, true, true⟩), .bool (false)]) (results_loc (by kernel_rfl) _ _ (c) (⟨tid, true, tgen, tdl, tper, false, true, true⟩) (false) ⟨W1.heap.size + 1 + 1 + 1, 0, none⟩ ⟨W1.heap.size + 1 + 1 + 1 + 1, 0, none⟩ (by kernel_rfl) (by kernel_rfl) (by kernel_rfl) (hL0.gotC (c) _) (hL0.gotT (⟨tid, true, tgen, tdl, tper, false, true, true⟩) _)) rfl ?_
  rw [HV.out]
  exact ⟨rfl, hL.m, hL.chg⟩

set_option maxHeartbeats 4000000 in
set_option maxRecDepth 100000 in
theorem rlater_53a (R : Rm) (c : Cl) (t : RT) (e : Ev) (bm : Nat) (vc vt : Value) (w : World) (HM : Hid (Blk w bm 91 (mcC R vc vt))) (k2 : (e.kind == 2) = false) (k3 : (c.bg.what != 7) = false) (k4 : (t.live) = true) (k5 : (e.kind == 4) = false) (k6 : (e.kind == 5) = true) (x1 : (t.armed) = true) (x2 : (t.btw) = false) (x3 : (e.gen == t.gen) = true) (x4 : (e.dl == t.dl) = false) (x6 : (decide (t.per > 0)) = false) :
    Calls Try.prog 58 #[ptrV bm, clV c, rtV t, evV e] w (EndsR w bm vc vt (R, rlater R.now c t e)) := by
  obtain ⟨tid, tlive, tgen, tdl, tper, tlast, tarmed, tbtw⟩ := t
  try dsimp only at *
  subst k4
  subst x1
  subst x2
  have HV := hid (show (R, rlater R.now c ⟨tid, true, tgen, tdl, tper, tlast, true, false⟩ e) = (R, c, ⟨tid, false, tgen, tdl, tper, tlast, true, false⟩, false) by simp [rlater, k2, k3, k5, k6, x3, x4, x6])
  have hlt := HM.out.lt
  go_enter Try.func58, Try.ntmps58
  go_wp2
  refine named (five w (clC' (c)) (rtC (⟨tid, true, tgen, tdl, tper, tlast, true, false⟩)) (evC e) clZ rtZ) (fun V hV => ?_)
  have hL : Loc w bm (mcC R vc vt) w.heap.size (clC' (c)) (rtC (⟨tid, true, tgen, tdl, tper, tlast, true, false⟩)) (evC e) none V := by rw [hV]; exact loc_five (HM.out) (Chg.refl _ _) rfl _ _ _
  replace hL := hL.drew
  refine wp_region_held_drew (by kernel_rfl) hL (fun _ => ?_)
  simp only [List.size_toArray, List.length_cons, List.length_nil, Nat.reduceAdd, Array.replicate_succ, Array.replicate_zero, List.push_toArray, List.nil_append, List.cons_append]
  refine tp 0 hL ?_
  refine tq 1 hL (fun _ h => h.t.cell 6 rfl) ?_
  refine tp 2 hL ?_
  refine tp 3 hL ?_
  refine tq 4 hL (fun _ h => h.t.cell 7 rfl) ?_
  refine tp 5 hL ?_
  refine tp 6 hL ?_
  refine tp 7 hL ?_
  refine tp 8 hL ?_
  refine tq 9 hL (fun _ h => h.e.cell 5 rfl) ?_
  refine tp 10 hL ?_
  refine tq 11 hL (fun _ h => h.t.cell 2 rfl) ?_
  refine tp 12 hL ?_
  refine tp 13 hL ?_
  refine tp 14 hL ?_
  refine tp 15 hL ?_
  refine tq 16 hL (fun _ h => h.e.cell 6 rfl) ?_
  refine tp 17 hL ?_
  refine tq 18 hL (fun _ h => h.t.cell 3 rfl) ?_
  refine tp 19 hL ?_
  refine tp 20 hL ?_
  refine tp 21 hL ?_
  refine sp 22 hL ?_
  refine sp 23 hL ?_
  refine sp 24 hL ?_
  refine sp 25 hL ?_
  refine sp 26 hL ?_
  refine sp 27 hL ?_
  refine sp 28 hL ?_
  refine tp 29 hL ?_
  refine tp 30 hL ?_
  refine sp 31 hL ?_
  refine sp 32 hL ?_
  refine sp 33 hL ?_
  refine sp 34 hL ?_
  refine sp 35 hL ?_
  refine sp 36 hL ?_
  refine sp 37 hL ?_
  refine tp 38 hL ?_
  refine held_put 39 (by kernel_rfl) rfl (by kernel_rfl) (fun W => by go_simp; try rfl) hL ?_
  simp only [nA,nB,nC,Act.put,nD,nE,nF]
  refine wpAnyH_done (by kernel_rfl) ?_ _
  clear hL
  rw [hV]
  clear hV
  simp only [five, drew_alloc, clC', rtC, evC, clZ, rtZ]
  obtain ⟨W1, hW⟩ : ∃ W, W = w.drew := ⟨_, rfl⟩
  have hMW1 : Hid (Blk W1 bm 91 (mcC R vc vt)) := by rw [hW]; exact hid (HM.out.drew)
  have hCW1 : Hid (Chg (· = bm) w W1) := by rw [hW]; exact hid (Chg.drew (Chg.refl _ _))
  have hSW1 : Hid (w.heap.size = W1.heap.size) := by rw [hW]; exact hid (rfl)
  have hz : w.heap.size = W1.heap.size := by rw [hW]; rfl
  rw [← hW, hz]
  clear hW hz
  go_wp2
  refine named (five W1 (clC' (c)) (rtC (⟨tid, false, tgen, tdl, tper, tlast, true, false⟩)) (evC e) clZ rtZ) (fun V hV => ?_)
  have hL : Loc w bm (mcC R vc vt) W1.heap.size (clC' (c)) (rtC (⟨tid, false, tgen, tdl, tper, tlast, true, false⟩)) (evC e) none V := by rw [hV]; exact loc_five (hMW1.out) (hCW1.out) hSW1.out _ _ _
  clear hV
  replace hL := hL.drew
  refine wp_region_held_drew (by kernel_rfl) hL (fun _ => ?_)
  simp only [List.size_toArray, List.length_cons, List.length_nil, Nat.reduceAdd, Array.replicate_succ, Array.replicate_zero, List.push_toArray, List.nil_append, List.cons_append]
  refine tkC 0 hL ?_
  refine tkT 1 hL ?_
  refine tp 2 hL ?_
  have hL0 := hL
  refine Loc.putC 3 (c) (by kernel_rfl) rfl (by kernel_rfl) rfl (by kernel_rfl) (by kernel_rfl) hL ?_
  replace hL := hL.setC (xs := clC' (c)) rfl
  simp only [nA,nB,nC,Act.put,nD,nE,nF]
  refine Loc.putT 4 (⟨tid, false, tgen, tdl, tper, tlast, true, false⟩) (by kernel_rfl) rfl (by kernel_rfl) rfl (by kernel_rfl) (by kernel_rfl) hL ?_
  replace hL := hL.setT (xs := rtC (⟨tid, false, tgen, tdl, tper, tlast, true, false⟩)) rfl
  simp only [nA,nB,nC,Act.put,nD,nE,nF]
  refine held_put 5 (by kernel_rfl) rfl (by kernel_rfl) (fun W => by go_simp; try rfl) hL ?_
  simp only [nA,nB,nC,Act.put,nD,nE,nF]
  refine wpAnyH_done (by kernel_rfl) ?_ _
  go_wp2
  refine bodyPost_ret (v := .tuple #[clV (c), rtV (⟨tid, false, tgen, tdl, tper, tlast, true, false⟩), .bool (false)]) (results_loc (by kernel_rfl) _ _ (c) (⟨tid, false, tgen, tdl, tper, tlast, true, false⟩) (false) ⟨W1.heap.size + 1 + 1 + 1, 0, none⟩ ⟨W1.heap.size + 1 + 1 + 1 + 1, 0, none⟩ (by kernel_rfl) (by kernel_rfl) (by kernel_rfl) (hL0.gotC (c) _) (hL0.gotT (⟨tid, false, tgen, tdl, tper, tlast, true, false⟩) _)) rfl ?_
  rw [HV.out]
  exact ⟨rfl, hL.m, hL.chg⟩

set_option maxHeartbeats 4000000 in
set_option maxRecDepth 100000 in
theorem rlater_53b (R : Rm) (c : Cl) (t : RT) (e : Ev) (bm : Nat) (vc vt : Value) (w : World) (HM : Hid (Blk w bm 91 (mcC R vc vt))) (k2 : (e.kind == 2) = false) (k3 : (c.bg.what != 7) = false) (k4 : (t.live) = true) (k5 : (e.kind == 4) = false) (k6 : (e.kind == 5) = true) (x1 : (t.armed) = true) (x2 : (t.btw) = false) (x3 : (e.gen == t.gen) = true) (x4 : (e.dl == t.dl) = false) (x6 : (decide (t.per > 0)) = true) (x7 : (t.last) = true) :
    Calls Try.prog 58 #[ptrV bm, clV c, rtV t, evV e] w (EndsR w bm vc vt (R, rlater R.now c t e)) := by
  obtain ⟨tid, tlive, tgen, tdl, tper, tlast, tarmed, tbtw⟩ := t
  try dsimp only at *
  subst k4
  subst x1
  subst x2
  subst x7
  have HV := hid (show (R, rlater R.now c ⟨tid, true, tgen, tdl, tper, true, true, false⟩ e) = (R, c, ⟨tid, false, tgen, tdl, tper, true, true, false⟩, false) by simp [rlater, k2, k3, k5, k6, x3, x4, x6])
  have hlt := HM.out.lt
  go_enter Try.func58, Try.ntmps58
  go_wp2
  refine named (five w (clC' (c)) (rtC (⟨tid, true, tgen, tdl, tper, true, true, false⟩)) (evC e) clZ rtZ) (fun V hV => ?_)
  have hL : Loc w bm (mcC R vc vt) w.heap.size (clC' (c)) (rtC (⟨tid, true, tgen, tdl, tper, true, true, false⟩)) (evC e) none V := by rw [hV]; exact loc_five (HM.out) (Chg.refl _ _) rfl _ _ _
  replace hL := hL.drew
  refine wp_region_held_drew (by kernel_rfl) hL (fun _ => ?_)
  simp only [List.size_toArray, List.length_cons, List.length_nil, Nat.reduceAdd, Array.replicate_succ, Array.replicate_zero, List.push_toArray, List.nil_append, List.cons_append]
  refine tp 0 hL ?_
  refine tq 1 hL (fun _ h => h.t.cell 6 rfl) ?_
  refine tp 2 hL ?_
  refine tp 3 hL ?_
  refine tq 4 hL (fun _ h => h.t.cell 7 rfl) ?_
  refine tp 5 hL ?_
  refine tp 6 hL ?_
  refine tp 7 hL ?_
  refine tp 8 hL ?_
  refine tq 9 hL (fun _ h => h.e.cell 5 rfl) ?_
  refine tp 10 hL ?_
  refine tq 11 hL (fun _ h => h.t.cell 2 rfl) ?_
  refine tp 12 hL ?_
  refine tp 13 hL ?_
  refine tp 14 hL ?_
  refine tp 15 hL ?_
  refine tq 16 hL (fun _ h => h.e.cell 6 rfl) ?_
  refine tp 17 hL ?_
  refine tq 18 hL (fun _ h => h.t.cell 3 rfl) ?_
  refine tp 19 hL ?_
  refine tp 20 hL ?_
  refine tp 21 hL ?_
  refine sp 22 hL ?_
  refine sp 23 hL ?_
  refine sp 24 hL ?_
  refine sp 25 hL ?_
  refine sp 26 hL ?_
  refine sp 27 hL ?_
  refine sp 28 hL ?_
  refine tp 29 hL ?_
  refine tp 30 hL ?_
  refine sp 31 hL ?_
  refine sp 32 hL ?_
  refine sp 33 hL ?_
  refine sp 34 hL ?_
  refine sp 35 hL ?_
  refine sp 36 hL ?_
  refine sp 37 hL ?_
  refine tp 38 hL ?_
  refine held_put 39 (by kernel_rfl) rfl (by kernel_rfl) (fun W => by go_simp; try rfl) hL ?_
  simp only [nA,nB,nC,Act.put,nD,nE,nF]
  refine wpAnyH_done (by kernel_rfl) ?_ _
  clear hL
  rw [hV]
  clear hV
  simp only [five, drew_alloc, clC', rtC, evC, clZ, rtZ]
  obtain ⟨W1, hW⟩ : ∃ W, W = w.drew := ⟨_, rfl⟩
  have hMW1 : Hid (Blk W1 bm 91 (mcC R vc vt)) := by rw [hW]; exact hid (HM.out.drew)
  have hCW1 : Hid (Chg (· = bm) w W1) := by rw [hW]; exact hid (Chg.drew (Chg.refl _ _))
  have hSW1 : Hid (w.heap.size = W1.heap.size) := by rw [hW]; exact hid (rfl)
  have hz : w.heap.size = W1.heap.size := by rw [hW]; rfl
  rw [← hW, hz]
  clear hW hz
  go_wp2
  refine named (five W1 (clC' (c)) (rtC (⟨tid, false, tgen, tdl, tper, true, true, false⟩)) (evC e) clZ rtZ) (fun V hV => ?_)
  have hL : Loc w bm (mcC R vc vt) W1.heap.size (clC' (c)) (rtC (⟨tid, false, tgen, tdl, tper, true, true, false⟩)) (evC e) none V := by rw [hV]; exact loc_five (hMW1.out) (hCW1.out) hSW1.out _ _ _
  clear hV
  replace hL := hL.drew
  refine wp_region_held_drew (by kernel_rfl) hL (fun _ => ?_)
  simp only [List.size_toArray, List.length_cons, List.length_nil, Nat.reduceAdd, Array.replicate_succ, Array.replicate_zero, List.push_toArray, List.nil_append, List.cons_append]
  refine tkC 0 hL ?_
  refine tkT 1 hL ?_
  refine tp 2 hL ?_
  have hL0 := hL
  refine Loc.putC 3 (c) (by kernel_rfl) rfl (by kernel_rfl) rfl (by kernel_rfl) (by kernel_rfl) hL ?_
  replace hL := hL.setC (xs := clC' (c)) rfl
  simp only [nA,nB,nC,Act.put,nD,nE,nF]
  refine Loc.putT 4 (⟨tid, false, tgen, tdl, tper, true, true, false⟩) (by kernel_rfl) rfl (by kernel_rfl) rfl (by kernel_rfl) (by kernel_rfl) hL ?_
  replace hL := hL.setT (xs := rtC (⟨tid, false, tgen, tdl, tper, true, true, false⟩)) rfl
  simp only [nA,nB,nC,Act.put,nD,nE,nF]
  refine held_put 5 (by kernel_rfl) rfl (by kernel_rfl) (fun W => by go_simp; try rfl) hL ?_
  simp only [nA,nB,nC,Act.put,nD,nE,nF]
  refine wpAnyH_done (by kernel_rfl) ?_ _
  go_wp2
  refine bodyPost_ret (v := .tuple #[clV (c), rtV (⟨tid, false, tgen, tdl, tper, true, true, false⟩), .bool (false)]) (results_loc (by kernel_rfl) _ _ (c) (⟨tid, false, tgen, tdl, tper, true, true, false⟩) (false) ⟨W1.heap.size + 1 + 1 + 1, 0, none⟩ ⟨W1.heap.size + 1 + 1 + 1 + 1, 0, none⟩ (by kernel_rfl) (by kernel_rfl) (by kernel_rfl) (hL0.gotC (c) _) (hL0.gotT (⟨tid, false, tgen, tdl, tper, true, true, false⟩) _)) rfl ?_
  rw [HV.out]
  exact ⟨rfl, hL.m, hL.chg⟩

set_option maxHeartbeats 4000000 in
set_option maxRecDepth 100000 in
theorem rlater_53c (R : Rm) (c : Cl) (t : RT) (e : Ev) (bm : Nat) (vc vt : Value) (w : World) (HM : Hid (Blk w bm 91 (mcC R vc vt))) (k2 : (e.kind == 2) = false) (k3 : (c.bg.what != 7) = false) (k4 : (t.live) = true) (k5 : (e.kind == 4) = false) (k6 : (e.kind == 5) = true) (x1 : (t.armed) = true) (x2 : (t.btw) = false) (x3 : (e.gen == t.gen) = true) (x4 : (e.dl == t.dl) = false) (x6 : (decide (t.per > 0)) = true) (x7 : (t.last) = false) :
    Calls Try.prog 58 #[ptrV bm, clV c, rtV t, evV e] w (EndsR w bm vc vt (R, rlater R.now c t e)) := by
  obtain ⟨tid, tlive, tgen, tdl, tper, tlast, tarmed, tbtw⟩ := t
  try dsimp only at *
  subst k4
  subst x1
  subst x2
  subst x7
  have HV := hid (show (R, rlater R.now c ⟨tid, true, tgen, tdl, tper, false, true, false⟩ e) = (R, c, ⟨tid, true, tgen, tdl, tper, false, true, true⟩, false) by simp [rlater, k2, k3, k5, k6, x3, x4, x6])
  have hlt := HM.out.lt
  go_enter Try.func58, Try.ntmps58
  go_wp2
  refine named (five w (clC' (c)) (rtC (⟨tid, true, tgen, tdl, tper, false, true, false⟩)) (evC e) clZ rtZ) (fun V hV => ?_)
  have hL : Loc w bm (mcC R vc vt) w.heap.size (clC' (c)) (rtC (⟨tid, true, tgen, tdl, tper, false, true, false⟩)) (evC e) none V := by rw [hV]; exact loc_five (HM.out) (Chg.refl _ _) rfl _ _ _
  replace hL := hL.drew
  refine wp_region_held_drew (by kernel_rfl) hL (fun _ => ?_)
  simp only [List.size_toArray, List.length_cons, List.length_nil, Nat.reduceAdd, Array.replicate_succ, Array.replicate_zero, List.push_toArray, List.nil_append, List.cons_append]
  refine tp 0 hL ?_
  refine tq 1 hL (fun _ h => h.t.cell 6 rfl) ?_
  refine tp 2 hL ?_
  refine tp 3 hL ?_
  refine tq 4 hL (fun _ h => h.t.cell 7 rfl) ?_
  refine tp 5 hL ?_
  refine tp 6 hL ?_
  refine tp 7 hL ?_
  refine tp 8 hL ?_
  refine tq 9 hL (fun _ h => h.e.cell 5 rfl) ?_
  refine tp 10 hL ?_
  refine tq 11 hL (fun _ h => h.t.cell 2 rfl) ?_
  refine tp 12 hL ?_
  refine tp 13 hL ?_
  refine tp 14 hL ?_
  refine tp 15 hL ?_
  refine tq 16 hL (fun _ h => h.e.cell 6 rfl) ?_
  refine tp 17 hL ?_
  refine tq 18 hL (fun _ h => h.t.cell 3 rfl) ?_
  refine tp 19 hL ?_
  refine tp 20 hL ?_
  refine tp 21 hL ?_
  refine sp 22 hL ?_
  refine sp 23 hL ?_
  refine sp 24 hL ?_
  refine sp 25 hL ?_
  refine sp 26 hL ?_
  refine sp 27 hL ?_
  refine sp 28 hL ?_
  refine tp 29 hL ?_
  refine tp 30 hL ?_
  refine sp 31 hL ?_
  refine sp 32 hL ?_
  refine sp 33 hL ?_
  refine sp 34 hL ?_
  refine sp 35 hL ?_
  refine sp 36 hL ?_
  refine sp 37 hL ?_
  refine tp 38 hL ?_
  refine held_put 39 (by kernel_rfl) rfl (by kernel_rfl) (fun W => by go_simp; try rfl) hL ?_
  simp only [nA,nB,nC,Act.put,nD,nE,nF]
  refine wpAnyH_done (by kernel_rfl) ?_ _
  clear hL
  rw [hV]
  clear hV
  simp only [five, drew_alloc, clC', rtC, evC, clZ, rtZ]
  obtain ⟨W1, hW⟩ : ∃ W, W = w.drew := ⟨_, rfl⟩
  have hMW1 : Hid (Blk W1 bm 91 (mcC R vc vt)) := by rw [hW]; exact hid (HM.out.drew)
  have hCW1 : Hid (Chg (· = bm) w W1) := by rw [hW]; exact hid (Chg.drew (Chg.refl _ _))
  have hSW1 : Hid (w.heap.size = W1.heap.size) := by rw [hW]; exact hid (rfl)
  have hz : w.heap.size = W1.heap.size := by rw [hW]; rfl
  rw [← hW, hz]
  clear hW hz
  go_wp2
  refine named (five W1 (clC' (c)) (rtC (⟨tid, true, tgen, tdl, tper, false, true, true⟩)) (evC e) clZ rtZ) (fun V hV => ?_)
  have hL : Loc w bm (mcC R vc vt) W1.heap.size (clC' (c)) (rtC (⟨tid, true, tgen, tdl, tper, false, true, true⟩)) (evC e) none V := by rw [hV]; exact loc_five (hMW1.out) (hCW1.out) hSW1.out _ _ _
  clear hV
  replace hL := hL.drew
  refine wp_region_held_drew (by kernel_rfl) hL (fun _ => ?_)
  simp only [List.size_toArray, List.length_cons, List.length_nil, Nat.reduceAdd, Array.replicate_succ, Array.replicate_zero, List.push_toArray, List.nil_append, List.cons_append]
  refine tkC 0 hL ?_
  refine tkT 1 hL ?_
  refine tp 2 hL ?_
  have hL0 := hL
  refine Loc.putC 3 (c) (by kernel_rfl) rfl (by kernel_rfl) rfl (by kernel_rfl) (by kernel_rfl) hL ?_
  replace hL := hL.setC (xs := clC' (c)) rfl
  simp only [nA,nB,nC,Act.put,nD,nE,nF]
  refine Loc.putT 4 (⟨tid, true, tgen, tdl, tper, false, true, true⟩) (by kernel_rfl) rfl (by kernel_rfl) rfl (by kernel_rfl) (by kernel_rfl) hL ?_
  replace hL := hL.setT (xs := rtC (⟨tid, true, tgen, tdl, tper, false, true, true⟩)) rfl
  simp only [nA,nB,nC,Act.put,nD,nE,nF]
  refine held_put 5 (by kernel_rfl) rfl (by kernel_rfl) (fun W => by go_simp; try rfl) hL ?_
  simp only [nA,nB,nC,Act.put,nD,nE,nF]
  refine wpAnyH_done (by kernel_rfl) ?_ _
  go_wp2
  refine bodyPost_ret (v := .tuple #[clV (c), rtV (⟨tid, true, tgen, tdl, tper, false, true, true⟩), .bool (false)]) (results_loc (by kernel_rfl) _ _ (c) (⟨tid, true, tgen, tdl, tper, false, true, true⟩) (false) ⟨W1.heap.size + 1 + 1 + 1, 0, none⟩ ⟨W1.heap.size + 1 + 1 + 1 + 1, 0, none⟩ (by kernel_rfl) (by kernel_rfl) (by kernel_rfl) (hL0.gotC (c) _) (hL0.gotT (⟨tid, true, tgen, tdl, tper, false, true, true⟩) _)) rfl ?_
  rw [HV.out]
  exact ⟨rfl, hL.m, hL.chg⟩

set_option maxHeartbeats 4000000 in
set_option maxRecDepth 100000 in
theorem rlater_54a (R : Rm) (c : Cl) (t : RT) (e : Ev) (bm : Nat) (vc vt : Value) (w : World) (HM : Hid (Blk w bm 91 (mcC R vc vt))) (k2 : (e.kind == 2) = false) (k3 : (c.bg.what != 7) = false) (k4 : (t.live) = true) (k5 : (e.kind == 4) = false) (k6 : (e.kind == 5) = true) (x1 : (t.armed) = true) (x2 : (t.btw) = false) (x3 : (e.gen == t.gen) = true) (x4 : (e.dl == t.dl) = true) (x5 : (e.tk == R.now) = false) (x6 : (decide (t.per > 0)) = false) :
    Calls Try.prog 58 #[ptrV bm, clV c, rtV t, evV e] w (EndsR w bm vc vt (R, rlater R.now c t e)) := by
  obtain ⟨tid, tlive, tgen, tdl, tper, tlast, tarmed, tbtw⟩ := t
  try dsimp only at *
  subst k4
  subst x1
  subst x2
  have HV := hid (show (R, rlater R.now c ⟨tid, true, tgen, tdl, tper, tlast, true, false⟩ e) = (R, c, ⟨tid, false, tgen, tdl, tper, tlast, true, false⟩, false) by simp [rlater, k2, k3, k5, k6, x3, x4, x5, x6])
  have hlt := HM.out.lt
  go_enter Try.func58, Try.ntmps58
  go_wp2
  refine named (five w (clC' (c)) (rtC (⟨tid, true, tgen, tdl, tper, tlast, true, false⟩)) (evC e) clZ rtZ) (fun V hV => ?_)
  have hL : Loc w bm (mcC R vc vt) w.heap.size (clC' (c)) (rtC (⟨tid, true, tgen, tdl, tper, tlast, true, false⟩)) (evC e) none V := by rw [hV]; exact loc_five (HM.out) (Chg.refl _ _) rfl _ _ _
  replace hL := hL.drew
  refine wp_region_held_drew (by kernel_rfl) hL (fun _ => ?_)
  simp only [List.size_toArray, List.length_cons, List.length_nil, Nat.reduceAdd, Array.replicate_succ, Array.replicate_zero, List.push_toArray, List.nil_append, List.cons_append]
  refine tp 0 hL ?_
  refine tq 1 hL (fun _ h => h.t.cell 6 rfl) ?_
  refine tp 2 hL ?_
  refine tp 3 hL ?_
  refine tq 4 hL (fun _ h => h.t.cell 7 rfl) ?_
  refine tp 5 hL ?_
  refine tp 6 hL ?_
  refine tp 7 hL ?_
  refine tp 8 hL ?_
  refine tq 9 hL (fun _ h => h.e.cell 5 rfl) ?_
  refine tp 10 hL ?_
  refine tq 11 hL (fun _ h => h.t.cell 2 rfl) ?_
  refine tp 12 hL ?_
  refine tp 13 hL ?_
  refine tp 14 hL ?_
  refine tp 15 hL ?_
  refine tq 16 hL (fun _ h => h.e.cell 6 rfl) ?_
  refine tp 17 hL ?_
  refine tq 18 hL (fun _ h => h.t.cell 3 rfl) ?_
  refine tp 19 hL ?_
  refine tp 20 hL ?_
  refine tp 21 hL ?_
  refine tp 22 hL ?_
  refine tq 23 hL (fun _ h => h.e.cell 8 rfl) ?_
  refine tp 24 hL ?_
  refine tp 25 hL ?_
  refine tp 26 hL ?_
  refine tq 27 hL (fun _ h => h.m.cell 1 rfl) ?_
  refine tp 28 hL ?_
  refine tp 29 hL ?_
  refine tp 30 hL ?_
  refine sp 31 hL ?_
  refine sp 32 hL ?_
  refine sp 33 hL ?_
  refine sp 34 hL ?_
  refine sp 35 hL ?_
  refine sp 36 hL ?_
  refine sp 37 hL ?_
  refine tp 38 hL ?_
  refine held_put 39 (by kernel_rfl) rfl (by kernel_rfl) (fun W => by go_simp; try rfl) hL ?_
  simp only [nA,nB,nC,Act.put,nD,nE,nF]
  refine wpAnyH_done (by kernel_rfl) ?_ _
  clear hL
  rw [hV]
  clear hV
  simp only [five, drew_alloc, clC', rtC, evC, clZ, rtZ]
  obtain ⟨W1, hW⟩ : ∃ W, W = w.drew := ⟨_, rfl⟩
  have hMW1 : Hid (Blk W1 bm 91 (mcC R vc vt)) := by rw [hW]; exact hid (HM.out.drew)
  have hCW1 : Hid (Chg (· = bm) w W1) := by rw [hW]; exact hid (Chg.drew (Chg.refl _ _))
  have hSW1 : Hid (w.heap.size = W1.heap.size) := by rw [hW]; exact hid (rfl)
  have hz : w.heap.size = W1.heap.size := by rw [hW]; rfl
  rw [← hW, hz]
  clear hW hz
  go_wp2
  refine named (five W1 (clC' (c)) (rtC (⟨tid, false, tgen, tdl, tper, tlast, true, false⟩)) (evC e) clZ rtZ) (fun V hV => ?_)
  have hL : Loc w bm (mcC R vc vt) W1.heap.size (clC' (c)) (rtC (⟨tid, false, tgen, tdl, tper, tlast, true, false⟩)) (evC e) none V := by rw [hV]; exact loc_five (hMW1.out) (hCW1.out) hSW1.out _ _ _
  clear hV
  replace hL := hL.drew
  refine wp_region_held_drew (by kernel_rfl) hL (fun _ => ?_)
  simp only [List.size_toArray, List.length_cons, List.length_nil, Nat.reduceAdd, Array.replicate_succ, Array.replicate_zero, List.push_toArray, List.nil_append, List.cons_append]
  refine tkC 0 hL ?_
  refine tkT 1 hL ?_
  refine tp 2 hL ?_
  have hL0 := hL
  refine Loc.putC 3 (c) (by kernel_rfl) rfl (by kernel_rfl) rfl (by kernel_rfl) (by kernel_rfl) hL ?_
  replace hL := hL.setC (xs := clC' (c)) rfl
  simp only [nA,nB,nC,Act.put,nD,nE,nF]
  refine Loc.putT 4 (⟨tid, false, tgen, tdl, tper, tlast, true, false⟩) (by kernel_rfl) rfl (by kernel_rfl) rfl (by kernel_rfl) (by kernel_rfl) hL ?_
  replace hL := hL.setT (xs := rtC (⟨tid, false, tgen, tdl, tper, tlast, true, false⟩)) rfl
  simp only [nA,nB,nC,Act.put,nD,nE,nF]
  refine held_put 5 (by kernel_rfl) rfl (by kernel_rfl) (fun W => by go_simp; try rfl) hL ?_
  simp only [nA,nB,nC,Act.put,nD,nE,nF]
  refine wpAnyH_done (by kernel_rfl) ?_ _
  go_wp2
  refine bodyPost_ret (v := .tuple #[clV (c), rtV (⟨tid, false, tgen, tdl, tper, tlast, true, false⟩), .bool (false)]) (results_loc (by kernel_rfl) _ _ (c) (⟨tid, false, tgen, tdl, tper, tlast, true, false⟩) (false) ⟨W1.heap.size + 1 + 1 + 1, 0, none⟩ ⟨W1.heap.size + 1 + 1 + 1 + 1, 0, none⟩ (by kernel_rfl) (by kernel_rfl) (by kernel_rfl) (hL0.gotC (c) _) (hL0.gotT (⟨tid, false, tgen, tdl, tper, tlast, true, false⟩) _)) rfl ?_
  rw [HV.out]
  exact ⟨rfl, hL.m, hL.chg⟩
end Go.Proofs.Ytpnkkdpggofanaa
