/- The document's machine: closing by its walk, part 1. The document's machine: closing by its walk, part 2. The document's machine: closing by its walk, all ways. -/
import Derived.Test.YtpnkkdpggofanaaRmC
import Derived.Test.YtpnkkdpggofanaaRmD
namespace Go.Proofs.Ytpnkkdpggofanaa
open Go.RowKit

set_option maxHeartbeats 4000000 in
set_option maxRecDepth 100000 in
theorem rclosing_a1 (R : Rm) (c : Cl) (t : RT) (e : Ev) (bm : Nat) (vc vt : Value) (w : World) (HM : Hid (Blk w bm 91 (mcC R vc vt))) (k1 : (e.kind == 10) = true) (k2 : (c.bg.what != 6) = true) :
    Calls Try.prog 72 #[ptrV bm, clV c, rtV t, evV e] w (EndsR w bm vc vt (rclosing R c t e)) := by
  obtain ⟨tid, tlive, tgen, tdl, tper, tlast, tarmed, tbtw⟩ := t
  try dsimp only at *
  have HV := hid (show (rclosing R c ⟨tid, tlive, tgen, tdl, tper, tlast, tarmed, tbtw⟩ e) = (R, c, ⟨tid, tlive, tgen, tdl, tper, tlast, tarmed, tbtw⟩, false) by simp [rclosing, k1, k2])
  have hlt := HM.out.lt
  go_enter Try.func72, Try.ntmps72
  go_wp2
  refine named (five w (clC' (c)) (rtC (⟨tid, tlive, tgen, tdl, tper, tlast, tarmed, tbtw⟩)) (evC e) clZ rtZ) (fun V hV => ?_)
  have hL : Loc w bm (mcC R vc vt) w.heap.size (clC' (c)) (rtC (⟨tid, tlive, tgen, tdl, tper, tlast, tarmed, tbtw⟩)) (evC e) none V := by rw [hV]; exact loc_five (HM.out) (Chg.refl _ _) rfl _ _ _
  clear hV
  replace hL := hL.drew
  refine wp_region_held_drew (by kernel_rfl) hL (fun _ => ?_)
  simp only [List.size_toArray, List.length_cons, List.length_nil, Nat.reduceAdd, Array.replicate_succ, Array.replicate_zero, List.push_toArray, List.nil_append, List.cons_append]
  refine tkC 0 hL ?_
  refine tkT 1 hL ?_
  have hL0 := hL
  refine Loc.putC 2 (c) (by kernel_rfl) rfl (by kernel_rfl) rfl (by kernel_rfl) (by kernel_rfl) hL ?_
  replace hL := hL.setC (xs := clC' (c)) rfl
  simp only [nA,nB,nC,Act.put,nD,nE,nF]
  refine Loc.putT 3 (⟨tid, tlive, tgen, tdl, tper, tlast, tarmed, tbtw⟩) (by kernel_rfl) rfl (by kernel_rfl) rfl (by kernel_rfl) (by kernel_rfl) hL ?_
  replace hL := hL.setT (xs := rtC (⟨tid, tlive, tgen, tdl, tper, tlast, tarmed, tbtw⟩)) rfl
  simp only [nA,nB,nC,Act.put,nD,nE,nF]
  refine held_put 4 (by kernel_rfl) rfl (by kernel_rfl) (fun W => by go_simp; try rfl) hL ?_
  simp only [nA,nB,nC,Act.put,nD,nE,nF]
  refine wpAnyH_done (by kernel_rfl) ?_ _
  go_wp2
  refine bodyPost_ret (v := .tuple #[clV (c), rtV (⟨tid, tlive, tgen, tdl, tper, tlast, tarmed, tbtw⟩), .bool (false)]) (results_loc (by kernel_rfl) _ _ (c) (⟨tid, tlive, tgen, tdl, tper, tlast, tarmed, tbtw⟩) (false) ⟨w.heap.size + 1 + 1 + 1, 0, none⟩ ⟨w.heap.size + 1 + 1 + 1 + 1, 0, none⟩ (by kernel_rfl) (by kernel_rfl) (by kernel_rfl) (hL0.gotC (c) _) (hL0.gotT (⟨tid, tlive, tgen, tdl, tper, tlast, tarmed, tbtw⟩) _)) rfl ?_
  rw [HV.out]
  exact ⟨rfl, hL.m, hL.chg⟩

set_option maxHeartbeats 4000000 in
set_option maxRecDepth 100000 in
theorem rclosing_a2 (R : Rm) (c : Cl) (t : RT) (e : Ev) (bm : Nat) (vc vt : Value) (w : World) (HM : Hid (Blk w bm 91 (mcC R vc vt))) (k1 : (e.kind == 10) = true) (k2 : (c.bg.what != 6) = false) (k3 : (R.closed) = true) :
    Calls Try.prog 72 #[ptrV bm, clV c, rtV t, evV e] w (EndsR w bm vc vt (rclosing R c t e)) := by
  obtain ⟨tid, tlive, tgen, tdl, tper, tlast, tarmed, tbtw⟩ := t
  try dsimp only at *
  have HV := hid (show (rclosing R c ⟨tid, tlive, tgen, tdl, tper, tlast, tarmed, tbtw⟩ e) = (R, c, ⟨tid, tlive, tgen, tdl, tper, tlast, tarmed, tbtw⟩, false) by simp [rclosing, k1, k2, k3])
  have c2 := HM.out.cell 2 rfl
  have hl1 : bm < w.heap.size := HM.out.lt
  have n1 : bm < w.heap.size + 1 := by omega
  have n2 : bm < w.heap.size + 1 + 1 := by omega
  have n3 : bm < w.heap.size + 1 + 1 + 1 := by omega
  have n4 : bm < w.heap.size + 1 + 1 + 1 + 1 := by omega
  have n5 : bm < w.heap.size + 1 + 1 + 1 + 1 + 1 := by omega
  have n6 : bm < w.heap.size + 1 + 1 + 1 + 1 + 1 + 1 := by omega
  have hlt := HM.out.lt
  go_enter Try.func72, Try.ntmps72
  go_wp2
  refine named (five w (clC' (c)) (rtC (⟨tid, tlive, tgen, tdl, tper, tlast, tarmed, tbtw⟩)) (evC e) clZ rtZ) (fun V hV => ?_)
  have hL : Loc w bm (mcC R vc vt) w.heap.size (clC' (c)) (rtC (⟨tid, tlive, tgen, tdl, tper, tlast, tarmed, tbtw⟩)) (evC e) none V := by rw [hV]; exact loc_five (HM.out) (Chg.refl _ _) rfl _ _ _
  clear hV
  replace hL := hL.drew
  refine wp_region_held_drew (by kernel_rfl) hL (fun _ => ?_)
  simp only [List.size_toArray, List.length_cons, List.length_nil, Nat.reduceAdd, Array.replicate_succ, Array.replicate_zero, List.push_toArray, List.nil_append, List.cons_append]
  refine tkC 0 hL ?_
  refine tkT 1 hL ?_
  have hL0 := hL
  refine Loc.putC 2 (c) (by kernel_rfl) rfl (by kernel_rfl) rfl (by kernel_rfl) (by kernel_rfl) hL ?_
  replace hL := hL.setC (xs := clC' (c)) rfl
  simp only [nA,nB,nC,Act.put,nD,nE,nF]
  refine Loc.putT 3 (⟨tid, tlive, tgen, tdl, tper, tlast, tarmed, tbtw⟩) (by kernel_rfl) rfl (by kernel_rfl) rfl (by kernel_rfl) (by kernel_rfl) hL ?_
  replace hL := hL.setT (xs := rtC (⟨tid, tlive, tgen, tdl, tper, tlast, tarmed, tbtw⟩)) rfl
  simp only [nA,nB,nC,Act.put,nD,nE,nF]
  refine held_put 4 (by kernel_rfl) rfl (by kernel_rfl) (fun W => by go_simp; try rfl) hL ?_
  simp only [nA,nB,nC,Act.put,nD,nE,nF]
  refine wpAnyH_done (by kernel_rfl) ?_ _
  go_wp2
  refine bodyPost_ret (v := .tuple #[clV (c), rtV (⟨tid, tlive, tgen, tdl, tper, tlast, tarmed, tbtw⟩), .bool (false)]) (results_loc (by kernel_rfl) _ _ (c) (⟨tid, tlive, tgen, tdl, tper, tlast, tarmed, tbtw⟩) (false) ⟨w.heap.size + 1 + 1 + 1, 0, none⟩ ⟨w.heap.size + 1 + 1 + 1 + 1, 0, none⟩ (by kernel_rfl) (by kernel_rfl) (by kernel_rfl) (hL0.gotC (c) _) (hL0.gotT (⟨tid, tlive, tgen, tdl, tper, tlast, tarmed, tbtw⟩) _)) rfl ?_
  rw [HV.out]
  exact ⟨rfl, hL.m, hL.chg⟩

set_option maxHeartbeats 4000000 in
set_option maxRecDepth 100000 in
theorem rclosing_a3 (R : Rm) (c : Cl) (t : RT) (e : Ev) (bm : Nat) (vc vt : Value) (w : World) (HM : Hid (Blk w bm 91 (mcC R vc vt))) (k1 : (e.kind == 10) = true) (k2 : (c.bg.what != 6) = false) (k3 : (R.closed) = false) :
    Calls Try.prog 72 #[ptrV bm, clV c, rtV t, evV e] w (EndsR w bm vc vt (rclosing R c t e)) := by
  obtain ⟨tid, tlive, tgen, tdl, tper, tlast, tarmed, tbtw⟩ := t
  try dsimp only at *
  have HV := hid (show (rclosing R c ⟨tid, tlive, tgen, tdl, tper, tlast, tarmed, tbtw⟩ e) = ({ R with closed := true, closer := e.call }, c, ⟨tid, tlive, tgen, tdl, tper, tlast, tarmed, tbtw⟩, true) by simp [rclosing, k1, k2, k3])
  have c2 := HM.out.cell 2 rfl
  have hl1 : bm < w.heap.size := HM.out.lt
  have n1 : bm < w.heap.size + 1 := by omega
  have n2 : bm < w.heap.size + 1 + 1 := by omega
  have n3 : bm < w.heap.size + 1 + 1 + 1 := by omega
  have n4 : bm < w.heap.size + 1 + 1 + 1 + 1 := by omega
  have n5 : bm < w.heap.size + 1 + 1 + 1 + 1 + 1 := by omega
  have n6 : bm < w.heap.size + 1 + 1 + 1 + 1 + 1 + 1 := by omega
  have c4 := HM.out.cell 4 rfl
  have z2 := HM.out.frozen 2
  have z4 := HM.out.frozen 4
  have hlt := HM.out.lt
  go_enter Try.func72, Try.ntmps72
  go_wp2
  have h0 := loc_five ((HM.out.set 2 (.bool true)).set 4 (.int .i64 e.call)) (((Chg.refl (· = bm) w).trans (Chg.set (S := (· = bm)) w ⟨bm, 2, none⟩ (.bool true) rfl)).trans (Chg.set (S := (· = bm)) _ ⟨bm, 4, none⟩ (.int .i64 e.call) rfl)) (by simp) (clC' c) (rtC ⟨tid, tlive, tgen, tdl, tper, tlast, tarmed, tbtw⟩) (evC e)
  rw [show ((w.setCell ⟨bm, 2, none⟩ (.bool true)).setCell ⟨bm, 4, none⟩ (.int .i64 e.call)).heap.size = w.heap.size by simp] at h0
  refine named _ (fun V2 hV2 => ?_)
  have hL : Loc w bm (mcC { R with closed := true, closer := e.call } vc vt) w.heap.size (clC' c) (rtC ⟨tid, tlive, tgen, tdl, tper, tlast, tarmed, tbtw⟩) (evC e) none V2 := by rw [hV2]; exact h0
  clear hV2 h0 n1 n2 n3 n4 n5 n6 hl1 c2 c4 z2 z4
  replace hL := hL.drew
  refine wp_region_held_drew (by kernel_rfl) hL (fun _ => ?_)
  simp only [List.size_toArray, List.length_cons, List.length_nil, Nat.reduceAdd, Array.replicate_succ, Array.replicate_zero, List.push_toArray, List.nil_append, List.cons_append]
  refine tkC 0 hL ?_
  refine tkT 1 hL ?_
  have hL0 := hL
  refine Loc.putC 2 (c) (by kernel_rfl) rfl (by kernel_rfl) rfl (by kernel_rfl) (by kernel_rfl) hL ?_
  replace hL := hL.setC (xs := clC' (c)) rfl
  simp only [nA,nB,nC,Act.put,nD,nE,nF]
  refine Loc.putT 3 (⟨tid, tlive, tgen, tdl, tper, tlast, tarmed, tbtw⟩) (by kernel_rfl) rfl (by kernel_rfl) rfl (by kernel_rfl) (by kernel_rfl) hL ?_
  replace hL := hL.setT (xs := rtC (⟨tid, tlive, tgen, tdl, tper, tlast, tarmed, tbtw⟩)) rfl
  simp only [nA,nB,nC,Act.put,nD,nE,nF]
  refine held_put 4 (by kernel_rfl) rfl (by kernel_rfl) (fun W => by go_simp; try rfl) hL ?_
  simp only [nA,nB,nC,Act.put,nD,nE,nF]
  refine wpAnyH_done (by kernel_rfl) ?_ _
  go_wp2
  refine bodyPost_ret (v := .tuple #[clV (c), rtV (⟨tid, tlive, tgen, tdl, tper, tlast, tarmed, tbtw⟩), .bool (true)]) (results_loc (by kernel_rfl) _ _ (c) (⟨tid, tlive, tgen, tdl, tper, tlast, tarmed, tbtw⟩) (true) ⟨w.heap.size + 1 + 1 + 1, 0, none⟩ ⟨w.heap.size + 1 + 1 + 1 + 1, 0, none⟩ (by kernel_rfl) (by kernel_rfl) (by kernel_rfl) (hL0.gotC (c) _) (hL0.gotT (⟨tid, tlive, tgen, tdl, tper, tlast, tarmed, tbtw⟩) _)) rfl ?_
  rw [HV.out]
  exact ⟨rfl, hL.m, hL.chg⟩

set_option maxHeartbeats 4000000 in
set_option maxRecDepth 100000 in
theorem rclosing_b1 (R : Rm) (c : Cl) (t : RT) (e : Ev) (bm : Nat) (vc vt : Value) (w : World) (HM : Hid (Blk w bm 91 (mcC R vc vt))) (k1 : (e.kind == 10) = false) (k3 : (R.closed) = false) :
    Calls Try.prog 72 #[ptrV bm, clV c, rtV t, evV e] w (EndsR w bm vc vt (rclosing R c t e)) := by
  obtain ⟨tid, tlive, tgen, tdl, tper, tlast, tarmed, tbtw⟩ := t
  try dsimp only at *
  have HV := hid (show (rclosing R c ⟨tid, tlive, tgen, tdl, tper, tlast, tarmed, tbtw⟩ e) = (R, c, ⟨tid, tlive, tgen, tdl, tper, tlast, tarmed, tbtw⟩, false) by simp [rclosing, k1, k3])
  have hlt := HM.out.lt
  go_enter Try.func72, Try.ntmps72
  go_wp2
  refine named (five w (clC' (c)) (rtC (⟨tid, tlive, tgen, tdl, tper, tlast, tarmed, tbtw⟩)) (evC e) clZ rtZ) (fun V hV => ?_)
  have hL : Loc w bm (mcC R vc vt) w.heap.size (clC' (c)) (rtC (⟨tid, tlive, tgen, tdl, tper, tlast, tarmed, tbtw⟩)) (evC e) none V := by rw [hV]; exact loc_five (HM.out) (Chg.refl _ _) rfl _ _ _
  replace hL := hL.drew
  refine wp_region_held_drew (by kernel_rfl) hL (fun _ => ?_)
  simp only [List.size_toArray, List.length_cons, List.length_nil, Nat.reduceAdd, Array.replicate_succ, Array.replicate_zero, List.push_toArray, List.nil_append, List.cons_append]
  refine tp 0 hL ?_
  refine tp 1 hL ?_
  refine tp 2 hL ?_
  refine tq 3 hL (fun _ h => h.m.cell 2 rfl) ?_
  refine tp 4 hL ?_
  refine tp 5 hL ?_
  refine sp 6 hL ?_
  refine sp 7 hL ?_
  refine sp 8 hL ?_
  refine sp 9 hL ?_
  refine sp 10 hL ?_
  refine sp 11 hL ?_
  refine sp 12 hL ?_
  refine tp 13 hL ?_
  refine wpAnyH_done (by kernel_rfl) ?_ _
  clear hL
  rw [hV]
  clear hV
  simp only [five, drew_alloc, clC', rtC, evC, clZ, rtZ]
  obtain ⟨W1, hW⟩ : ∃ W, W = w.drew := ⟨_, rfl⟩
  have hMW1 : Hid (Blk W1 bm 91 (mcC R vc vt)) := by rw [hW]; exact hid (HM.out.drew)
  have hCW1 : Hid (Chg (· = bm) w W1) := by rw [hW]; exact hid (Chg.drew (Chg.refl _ _))
  have hSW1 : Hid (w.heap.size = W1.heap.size) := by rw [hW]; exact hid (rfl)
  have hz : w.heap.size = W1.heap.size := by rw [hW]; rfl
  rw [← hW, hz]
  clear hW hz
  go_wp2
  refine named (five W1 (clC' (c)) (rtC (⟨tid, tlive, tgen, tdl, tper, tlast, tarmed, tbtw⟩)) (evC e) clZ rtZ) (fun V hV => ?_)
  have hL : Loc w bm (mcC R vc vt) W1.heap.size (clC' (c)) (rtC (⟨tid, tlive, tgen, tdl, tper, tlast, tarmed, tbtw⟩)) (evC e) none V := by rw [hV]; exact loc_five (hMW1.out) (hCW1.out) hSW1.out _ _ _
  clear hV
  replace hL := hL.drew
  refine wp_region_held_drew (by kernel_rfl) hL (fun _ => ?_)
  simp only [List.size_toArray, List.length_cons, List.length_nil, Nat.reduceAdd, Array.replicate_succ, Array.replicate_zero, List.push_toArray, List.nil_append, List.cons_append]
  refine tkC 0 hL ?_
  refine tkT 1 hL ?_
  have hL0 := hL
  refine Loc.putC 2 (c) (by kernel_rfl) rfl (by kernel_rfl) rfl (by kernel_rfl) (by kernel_rfl) hL ?_
  replace hL := hL.setC (xs := clC' (c)) rfl
  simp only [nA,nB,nC,Act.put,nD,nE,nF]
  refine Loc.putT 3 (⟨tid, tlive, tgen, tdl, tper, tlast, tarmed, tbtw⟩) (by kernel_rfl) rfl (by kernel_rfl) rfl (by kernel_rfl) (by kernel_rfl) hL ?_
  replace hL := hL.setT (xs := rtC (⟨tid, tlive, tgen, tdl, tper, tlast, tarmed, tbtw⟩)) rfl
  simp only [nA,nB,nC,Act.put,nD,nE,nF]
  refine held_put 4 (by kernel_rfl) rfl (by kernel_rfl) (fun W => by go_simp; try rfl) hL ?_
  simp only [nA,nB,nC,Act.put,nD,nE,nF]
  refine wpAnyH_done (by kernel_rfl) ?_ _
  go_wp2
  refine bodyPost_ret (v := .tuple #[clV (c), rtV (⟨tid, tlive, tgen, tdl, tper, tlast, tarmed, tbtw⟩), .bool (false)]) (results_loc (by kernel_rfl) _ _ (c) (⟨tid, tlive, tgen, tdl, tper, tlast, tarmed, tbtw⟩) (false) ⟨W1.heap.size + 1 + 1 + 1, 0, none⟩ ⟨W1.heap.size + 1 + 1 + 1 + 1, 0, none⟩ (by kernel_rfl) (by kernel_rfl) (by kernel_rfl) (hL0.gotC (c) _) (hL0.gotT (⟨tid, tlive, tgen, tdl, tper, tlast, tarmed, tbtw⟩) _)) rfl ?_
  rw [HV.out]
  exact ⟨rfl, hL.m, hL.chg⟩

set_option maxHeartbeats 4000000 in
set_option maxRecDepth 100000 in
theorem rclosing_b2 (R : Rm) (c : Cl) (t : RT) (e : Ev) (bm : Nat) (vc vt : Value) (w : World) (HM : Hid (Blk w bm 91 (mcC R vc vt))) (k1 : (e.kind == 10) = false) (k3 : (R.closed) = true) (k4 : (R.closer != e.call) = true) :
    Calls Try.prog 72 #[ptrV bm, clV c, rtV t, evV e] w (EndsR w bm vc vt (rclosing R c t e)) := by
  obtain ⟨tid, tlive, tgen, tdl, tper, tlast, tarmed, tbtw⟩ := t
  try dsimp only at *
  have HV := hid (show (rclosing R c ⟨tid, tlive, tgen, tdl, tper, tlast, tarmed, tbtw⟩ e) = (R, c, ⟨tid, tlive, tgen, tdl, tper, tlast, tarmed, tbtw⟩, false) by simp [rclosing, k1, k3, k4])
  have hlt := HM.out.lt
  go_enter Try.func72, Try.ntmps72
  go_wp2
  refine named (five w (clC' (c)) (rtC (⟨tid, tlive, tgen, tdl, tper, tlast, tarmed, tbtw⟩)) (evC e) clZ rtZ) (fun V hV => ?_)
  have hL : Loc w bm (mcC R vc vt) w.heap.size (clC' (c)) (rtC (⟨tid, tlive, tgen, tdl, tper, tlast, tarmed, tbtw⟩)) (evC e) none V := by rw [hV]; exact loc_five (HM.out) (Chg.refl _ _) rfl _ _ _
  replace hL := hL.drew
  refine wp_region_held_drew (by kernel_rfl) hL (fun _ => ?_)
  simp only [List.size_toArray, List.length_cons, List.length_nil, Nat.reduceAdd, Array.replicate_succ, Array.replicate_zero, List.push_toArray, List.nil_append, List.cons_append]
  refine tp 0 hL ?_
  refine tp 1 hL ?_
  refine tp 2 hL ?_
  refine tq 3 hL (fun _ h => h.m.cell 2 rfl) ?_
  refine tp 4 hL ?_
  refine tp 5 hL ?_
  refine tp 6 hL ?_
  refine tp 7 hL ?_
  refine tp 8 hL ?_
  refine tq 9 hL (fun _ h => h.m.cell 4 rfl) ?_
  refine tp 10 hL ?_
  refine tq 11 hL (fun _ h => h.e.cell 2 rfl) ?_
  refine tp 12 hL ?_
  refine tp 13 hL ?_
  refine wpAnyH_done (by kernel_rfl) ?_ _
  clear hL
  rw [hV]
  clear hV
  simp only [five, drew_alloc, clC', rtC, evC, clZ, rtZ]
  obtain ⟨W1, hW⟩ : ∃ W, W = w.drew := ⟨_, rfl⟩
  have hMW1 : Hid (Blk W1 bm 91 (mcC R vc vt)) := by rw [hW]; exact hid (HM.out.drew)
  have hCW1 : Hid (Chg (· = bm) w W1) := by rw [hW]; exact hid (Chg.drew (Chg.refl _ _))
  have hSW1 : Hid (w.heap.size = W1.heap.size) := by rw [hW]; exact hid (rfl)
  have hz : w.heap.size = W1.heap.size := by rw [hW]; rfl
  rw [← hW, hz]
  clear hW hz
  go_wp2
  refine named (five W1 (clC' (c)) (rtC (⟨tid, tlive, tgen, tdl, tper, tlast, tarmed, tbtw⟩)) (evC e) clZ rtZ) (fun V hV => ?_)
  have hL : Loc w bm (mcC R vc vt) W1.heap.size (clC' (c)) (rtC (⟨tid, tlive, tgen, tdl, tper, tlast, tarmed, tbtw⟩)) (evC e) none V := by rw [hV]; exact loc_five (hMW1.out) (hCW1.out) hSW1.out _ _ _
  clear hV
  replace hL := hL.drew
  refine wp_region_held_drew (by kernel_rfl) hL (fun _ => ?_)
  simp only [List.size_toArray, List.length_cons, List.length_nil, Nat.reduceAdd, Array.replicate_succ, Array.replicate_zero, List.push_toArray, List.nil_append, List.cons_append]
  refine tkC 0 hL ?_
  refine tkT 1 hL ?_
  have hL0 := hL
  refine Loc.putC 2 (c) (by kernel_rfl) rfl (by kernel_rfl) rfl (by kernel_rfl) (by kernel_rfl) hL ?_
  replace hL := hL.setC (xs := clC' (c)) rfl
  simp only [nA,nB,nC,Act.put,nD,nE,nF]
  refine Loc.putT 3 (⟨tid, tlive, tgen, tdl, tper, tlast, tarmed, tbtw⟩) (by kernel_rfl) rfl (by kernel_rfl) rfl (by kernel_rfl) (by kernel_rfl) hL ?_
  replace hL := hL.setT (xs := rtC (⟨tid, tlive, tgen, tdl, tper, tlast, tarmed, tbtw⟩)) rfl
  simp only [nA,nB,nC,Act.put,nD,nE,nF]
  refine held_put 4 (by kernel_rfl) rfl (by kernel_rfl) (fun W => by go_simp; try rfl) hL ?_
  simp only [nA,nB,nC,Act.put,nD,nE,nF]
  refine wpAnyH_done (by kernel_rfl) ?_ _
  go_wp2
  refine bodyPost_ret (v := .tuple #[clV (c), rtV (⟨tid, tlive, tgen, tdl, tper, tlast, tarmed, tbtw⟩), .bool (false)]) (results_loc (by kernel_rfl) _ _ (c) (⟨tid, tlive, tgen, tdl, tper, tlast, tarmed, tbtw⟩) (false) ⟨W1.heap.size + 1 + 1 + 1, 0, none⟩ ⟨W1.heap.size + 1 + 1 + 1 + 1, 0, none⟩ (by kernel_rfl) (by kernel_rfl) (by kernel_rfl) (hL0.gotC (c) _) (hL0.gotT (⟨tid, tlive, tgen, tdl, tper, tlast, tarmed, tbtw⟩) _)) rfl ?_
  rw [HV.out]
  exact ⟨rfl, hL.m, hL.chg⟩
end Go.Proofs.Ytpnkkdpggofanaa

namespace Go.Proofs.Ytpnkkdpggofanaa
open Go.RowKit

set_option maxHeartbeats 4000000 in
set_option maxRecDepth 100000 in
theorem rclosing_l0 (R : Rm) (c : Cl) (t : RT) (e : Ev) (bm : Nat) (vc vt : Value) (w : World) (HM : Hid (Blk w bm 91 (mcC R vc vt))) (k1 : (e.kind == 10) = false) (k3 : (R.closed) = true) (k4 : (R.closer != e.call) = false) (k5 : (e.kind == 12) = true) (k6 : (t.live) = false) :
    Calls Try.prog 72 #[ptrV bm, clV c, rtV t, evV e] w (EndsR w bm vc vt (rclosing R c t e)) := by
  obtain ⟨tid, tlive, tgen, tdl, tper, tlast, tarmed, tbtw⟩ := t
  try dsimp only at *
  subst k6
  have HV := hid (show (rclosing R c ⟨tid, false, tgen, tdl, tper, tlast, tarmed, tbtw⟩ e) = (R, c, ⟨tid, false, tgen, tdl, tper, tlast, tarmed, tbtw⟩, false) by simp [rclosing, k1, k3, k4, k5])
  have hlt := HM.out.lt
  go_enter Try.func72, Try.ntmps72
  go_wp2
  refine named (five w (clC' (c)) (rtC (⟨tid, false, tgen, tdl, tper, tlast, tarmed, tbtw⟩)) (evC e) clZ rtZ) (fun V hV => ?_)
  have hL : Loc w bm (mcC R vc vt) w.heap.size (clC' (c)) (rtC (⟨tid, false, tgen, tdl, tper, tlast, tarmed, tbtw⟩)) (evC e) none V := by rw [hV]; exact loc_five (HM.out) (Chg.refl _ _) rfl _ _ _
  replace hL := hL.drew
  refine wp_region_held_drew (by kernel_rfl) hL (fun _ => ?_)
  simp only [List.size_toArray, List.length_cons, List.length_nil, Nat.reduceAdd, Array.replicate_succ, Array.replicate_zero, List.push_toArray, List.nil_append, List.cons_append]
  refine tp 0 hL ?_
  refine tp 1 hL ?_
  refine tp 2 hL ?_
  refine tq 3 hL (fun _ h => h.m.cell 2 rfl) ?_
  refine tp 4 hL ?_
  refine tp 5 hL ?_
  refine tp 6 hL ?_
  refine tp 7 hL ?_
  refine tp 8 hL ?_
  refine tq 9 hL (fun _ h => h.m.cell 4 rfl) ?_
  refine tp 10 hL ?_
  refine tq 11 hL (fun _ h => h.e.cell 2 rfl) ?_
  refine tp 12 hL ?_
  refine tp 13 hL ?_
  refine wpAnyH_done (by kernel_rfl) ?_ _
  clear hL
  rw [hV]
  clear hV
  simp only [five, drew_alloc, clC', rtC, evC, clZ, rtZ]
  obtain ⟨W1, hW⟩ : ∃ W, W = w.drew := ⟨_, rfl⟩
  have hMW1 : Hid (Blk W1 bm 91 (mcC R vc vt)) := by rw [hW]; exact hid (HM.out.drew)
  have hCW1 : Hid (Chg (· = bm) w W1) := by rw [hW]; exact hid (Chg.drew (Chg.refl _ _))
  have hSW1 : Hid (w.heap.size = W1.heap.size) := by rw [hW]; exact hid (rfl)
  have hz : w.heap.size = W1.heap.size := by rw [hW]; rfl
  rw [← hW, hz]
  clear hW hz
  go_wp2
  refine named (five W1 (clC' (c)) (rtC (⟨tid, false, tgen, tdl, tper, tlast, tarmed, tbtw⟩)) (evC e) clZ rtZ) (fun V hV => ?_)
  have hL : Loc w bm (mcC R vc vt) W1.heap.size (clC' (c)) (rtC (⟨tid, false, tgen, tdl, tper, tlast, tarmed, tbtw⟩)) (evC e) none V := by rw [hV]; exact loc_five (hMW1.out) (hCW1.out) hSW1.out _ _ _
  clear hV
  replace hL := hL.drew
  refine wp_region_held_drew (by kernel_rfl) hL (fun _ => ?_)
  simp only [List.size_toArray, List.length_cons, List.length_nil, Nat.reduceAdd, Array.replicate_succ, Array.replicate_zero, List.push_toArray, List.nil_append, List.cons_append]
  refine tkC 0 hL ?_
  refine tkT 1 hL ?_
  refine tp 2 hL ?_
  have hL0 := hL
  refine Loc.putC 3 (c) (by kernel_rfl) rfl (by kernel_rfl) rfl (by kernel_rfl) (by kernel_rfl) hL ?_
  replace hL := hL.setC (xs := clC' (c)) rfl
  simp only [nA,nB,nC,Act.put,nD,nE,nF]
  refine Loc.putT 4 (⟨tid, false, tgen, tdl, tper, tlast, tarmed, tbtw⟩) (by kernel_rfl) rfl (by kernel_rfl) rfl (by kernel_rfl) (by kernel_rfl) hL ?_
  replace hL := hL.setT (xs := rtC (⟨tid, false, tgen, tdl, tper, tlast, tarmed, tbtw⟩)) rfl
  simp only [nA,nB,nC,Act.put,nD,nE,nF]
  refine held_put 5 (by kernel_rfl) rfl (by kernel_rfl) (fun W => by go_simp; try rfl) hL ?_
  simp only [nA,nB,nC,Act.put,nD,nE,nF]
  refine wpAnyH_done (by kernel_rfl) ?_ _
  go_wp2
  refine bodyPost_ret (v := .tuple #[clV (c), rtV (⟨tid, false, tgen, tdl, tper, tlast, tarmed, tbtw⟩), .bool (false)]) (results_loc (by kernel_rfl) _ _ (c) (⟨tid, false, tgen, tdl, tper, tlast, tarmed, tbtw⟩) (false) ⟨W1.heap.size + 1 + 1 + 1, 0, none⟩ ⟨W1.heap.size + 1 + 1 + 1 + 1, 0, none⟩ (by kernel_rfl) (by kernel_rfl) (by kernel_rfl) (hL0.gotC (c) _) (hL0.gotT (⟨tid, false, tgen, tdl, tper, tlast, tarmed, tbtw⟩) _)) rfl ?_
  rw [HV.out]
  exact ⟨rfl, hL.m, hL.chg⟩

set_option maxHeartbeats 4000000 in
set_option maxRecDepth 100000 in
theorem rclosing_l1 (R : Rm) (c : Cl) (t : RT) (e : Ev) (bm : Nat) (vc vt : Value) (w : World) (HM : Hid (Blk w bm 91 (mcC R vc vt))) (k1 : (e.kind == 10) = false) (k3 : (R.closed) = true) (k4 : (R.closer != e.call) = false) (k5 : (e.kind == 12) = true) (k6 : (t.live) = true) (k7 : (t.btw) = true) :
    Calls Try.prog 72 #[ptrV bm, clV c, rtV t, evV e] w (EndsR w bm vc vt (rclosing R c t e)) := by
  obtain ⟨tid, tlive, tgen, tdl, tper, tlast, tarmed, tbtw⟩ := t
  try dsimp only at *
  subst k6
  subst k7
  have HV := hid (show (rclosing R c ⟨tid, true, tgen, tdl, tper, tlast, tarmed, true⟩ e) = (R, c, ⟨tid, false, tgen, tdl, tper, tlast, tarmed, true⟩, false) by simp [rclosing, k1, k3, k4, k5])
  have hlt := HM.out.lt
  go_enter Try.func72, Try.ntmps72
  go_wp2
  refine named (five w (clC' (c)) (rtC (⟨tid, true, tgen, tdl, tper, tlast, tarmed, true⟩)) (evC e) clZ rtZ) (fun V hV => ?_)
  have hL : Loc w bm (mcC R vc vt) w.heap.size (clC' (c)) (rtC (⟨tid, true, tgen, tdl, tper, tlast, tarmed, true⟩)) (evC e) none V := by rw [hV]; exact loc_five (HM.out) (Chg.refl _ _) rfl _ _ _
  replace hL := hL.drew
  refine wp_region_held_drew (by kernel_rfl) hL (fun _ => ?_)
  simp only [List.size_toArray, List.length_cons, List.length_nil, Nat.reduceAdd, Array.replicate_succ, Array.replicate_zero, List.push_toArray, List.nil_append, List.cons_append]
  refine tp 0 hL ?_
  refine tp 1 hL ?_
  refine tp 2 hL ?_
  refine tq 3 hL (fun _ h => h.m.cell 2 rfl) ?_
  refine tp 4 hL ?_
  refine tp 5 hL ?_
  refine tp 6 hL ?_
  refine tp 7 hL ?_
  refine tp 8 hL ?_
  refine tq 9 hL (fun _ h => h.m.cell 4 rfl) ?_
  refine tp 10 hL ?_
  refine tq 11 hL (fun _ h => h.e.cell 2 rfl) ?_
  refine tp 12 hL ?_
  refine tp 13 hL ?_
  refine wpAnyH_done (by kernel_rfl) ?_ _
  clear hL
  rw [hV]
  clear hV
  simp only [five, drew_alloc, clC', rtC, evC, clZ, rtZ]
  obtain ⟨W1, hW⟩ : ∃ W, W = w.drew := ⟨_, rfl⟩
  have hMW1 : Hid (Blk W1 bm 91 (mcC R vc vt)) := by rw [hW]; exact hid (HM.out.drew)
  have hCW1 : Hid (Chg (· = bm) w W1) := by rw [hW]; exact hid (Chg.drew (Chg.refl _ _))
  have hSW1 : Hid (w.heap.size = W1.heap.size) := by rw [hW]; exact hid (rfl)
  have hz : w.heap.size = W1.heap.size := by rw [hW]; rfl
  rw [← hW, hz]
  clear hW hz
  go_wp2
  refine named (five W1 (clC' (c)) (rtC (⟨tid, false, tgen, tdl, tper, tlast, tarmed, true⟩)) (evC e) clZ rtZ) (fun V hV => ?_)
  have hL : Loc w bm (mcC R vc vt) W1.heap.size (clC' (c)) (rtC (⟨tid, false, tgen, tdl, tper, tlast, tarmed, true⟩)) (evC e) none V := by rw [hV]; exact loc_five (hMW1.out) (hCW1.out) hSW1.out _ _ _
  clear hV
  replace hL := hL.drew
  refine wp_region_held_drew (by kernel_rfl) hL (fun _ => ?_)
  simp only [List.size_toArray, List.length_cons, List.length_nil, Nat.reduceAdd, Array.replicate_succ, Array.replicate_zero, List.push_toArray, List.nil_append, List.cons_append]
  refine tkC 0 hL ?_
  refine tkT 1 hL ?_
  refine tp 2 hL ?_
  have hL0 := hL
  refine Loc.putC 3 (c) (by kernel_rfl) rfl (by kernel_rfl) rfl (by kernel_rfl) (by kernel_rfl) hL ?_
  replace hL := hL.setC (xs := clC' (c)) rfl
  simp only [nA,nB,nC,Act.put,nD,nE,nF]
  refine Loc.putT 4 (⟨tid, false, tgen, tdl, tper, tlast, tarmed, true⟩) (by kernel_rfl) rfl (by kernel_rfl) rfl (by kernel_rfl) (by kernel_rfl) hL ?_
  replace hL := hL.setT (xs := rtC (⟨tid, false, tgen, tdl, tper, tlast, tarmed, true⟩)) rfl
  simp only [nA,nB,nC,Act.put,nD,nE,nF]
  refine held_put 5 (by kernel_rfl) rfl (by kernel_rfl) (fun W => by go_simp; try rfl) hL ?_
  simp only [nA,nB,nC,Act.put,nD,nE,nF]
  refine wpAnyH_done (by kernel_rfl) ?_ _
  go_wp2
  refine bodyPost_ret (v := .tuple #[clV (c), rtV (⟨tid, false, tgen, tdl, tper, tlast, tarmed, true⟩), .bool (false)]) (results_loc (by kernel_rfl) _ _ (c) (⟨tid, false, tgen, tdl, tper, tlast, tarmed, true⟩) (false) ⟨W1.heap.size + 1 + 1 + 1, 0, none⟩ ⟨W1.heap.size + 1 + 1 + 1 + 1, 0, none⟩ (by kernel_rfl) (by kernel_rfl) (by kernel_rfl) (hL0.gotC (c) _) (hL0.gotT (⟨tid, false, tgen, tdl, tper, tlast, tarmed, true⟩) _)) rfl ?_
  rw [HV.out]
  exact ⟨rfl, hL.m, hL.chg⟩

set_option maxHeartbeats 4000000 in
set_option maxRecDepth 100000 in
theorem rclosing_l2 (R : Rm) (c : Cl) (t : RT) (e : Ev) (bm : Nat) (vc vt : Value) (w : World) (HM : Hid (Blk w bm 91 (mcC R vc vt))) (k1 : (e.kind == 10) = false) (k3 : (R.closed) = true) (k4 : (R.closer != e.call) = false) (k5 : (e.kind == 12) = true) (k6 : (t.live) = true) (k7 : (t.btw) = false) :
    Calls Try.prog 72 #[ptrV bm, clV c, rtV t, evV e] w (EndsR w bm vc vt (rclosing R c t e)) := by
  obtain ⟨tid, tlive, tgen, tdl, tper, tlast, tarmed, tbtw⟩ := t
  try dsimp only at *
  subst k6
  subst k7
  have HV := hid (show (rclosing R c ⟨tid, true, tgen, tdl, tper, tlast, tarmed, false⟩ e) = (R, c, ⟨tid, false, tgen, tdl, tper, tlast, tarmed, false⟩, e.gen == tgen) by simp [rclosing, k1, k3, k4, k5])
  have hlt := HM.out.lt
  go_enter Try.func72, Try.ntmps72
  go_wp2
  refine named (five w (clC' (c)) (rtC (⟨tid, true, tgen, tdl, tper, tlast, tarmed, false⟩)) (evC e) clZ rtZ) (fun V hV => ?_)
  have hL : Loc w bm (mcC R vc vt) w.heap.size (clC' (c)) (rtC (⟨tid, true, tgen, tdl, tper, tlast, tarmed, false⟩)) (evC e) none V := by rw [hV]; exact loc_five (HM.out) (Chg.refl _ _) rfl _ _ _
  replace hL := hL.drew
  refine wp_region_held_drew (by kernel_rfl) hL (fun _ => ?_)
  simp only [List.size_toArray, List.length_cons, List.length_nil, Nat.reduceAdd, Array.replicate_succ, Array.replicate_zero, List.push_toArray, List.nil_append, List.cons_append]
  refine tp 0 hL ?_
  refine tp 1 hL ?_
  refine tp 2 hL ?_
  refine tq 3 hL (fun _ h => h.m.cell 2 rfl) ?_
  refine tp 4 hL ?_
  refine tp 5 hL ?_
  refine tp 6 hL ?_
  refine tp 7 hL ?_
  refine tp 8 hL ?_
  refine tq 9 hL (fun _ h => h.m.cell 4 rfl) ?_
  refine tp 10 hL ?_
  refine tq 11 hL (fun _ h => h.e.cell 2 rfl) ?_
  refine tp 12 hL ?_
  refine tp 13 hL ?_
  refine wpAnyH_done (by kernel_rfl) ?_ _
  clear hL
  rw [hV]
  clear hV
  simp only [five, drew_alloc, clC', rtC, evC, clZ, rtZ]
  obtain ⟨W1, hW⟩ : ∃ W, W = w.drew := ⟨_, rfl⟩
  have hMW1 : Hid (Blk W1 bm 91 (mcC R vc vt)) := by rw [hW]; exact hid (HM.out.drew)
  have hCW1 : Hid (Chg (· = bm) w W1) := by rw [hW]; exact hid (Chg.drew (Chg.refl _ _))
  have hSW1 : Hid (w.heap.size = W1.heap.size) := by rw [hW]; exact hid (rfl)
  have hz : w.heap.size = W1.heap.size := by rw [hW]; rfl
  rw [← hW, hz]
  clear hW hz
  go_wp2
  refine named (five W1 (clC' (c)) (rtC (⟨tid, false, tgen, tdl, tper, tlast, tarmed, false⟩)) (evC e) clZ rtZ) (fun V hV => ?_)
  have hL : Loc w bm (mcC R vc vt) W1.heap.size (clC' (c)) (rtC (⟨tid, false, tgen, tdl, tper, tlast, tarmed, false⟩)) (evC e) none V := by rw [hV]; exact loc_five (hMW1.out) (hCW1.out) hSW1.out _ _ _
  clear hV
  replace hL := hL.drew
  refine wp_region_held_drew (by kernel_rfl) hL (fun _ => ?_)
  simp only [List.size_toArray, List.length_cons, List.length_nil, Nat.reduceAdd, Array.replicate_succ, Array.replicate_zero, List.push_toArray, List.nil_append, List.cons_append]
  refine tkC 0 hL ?_
  refine tkT 1 hL ?_
  refine tp 2 hL ?_
  have hL0 := hL
  refine Loc.putC 3 (c) (by kernel_rfl) rfl (by kernel_rfl) rfl (by kernel_rfl) (by kernel_rfl) hL ?_
  replace hL := hL.setC (xs := clC' (c)) rfl
  simp only [nA,nB,nC,Act.put,nD,nE,nF]
  refine Loc.putT 4 (⟨tid, false, tgen, tdl, tper, tlast, tarmed, false⟩) (by kernel_rfl) rfl (by kernel_rfl) rfl (by kernel_rfl) (by kernel_rfl) hL ?_
  replace hL := hL.setT (xs := rtC (⟨tid, false, tgen, tdl, tper, tlast, tarmed, false⟩)) rfl
  simp only [nA,nB,nC,Act.put,nD,nE,nF]
  refine held_put 5 (by kernel_rfl) rfl (by kernel_rfl) (fun W => by go_simp; try rfl) hL ?_
  simp only [nA,nB,nC,Act.put,nD,nE,nF]
  refine wpAnyH_done (by kernel_rfl) ?_ _
  go_wp2
  refine bodyPost_ret (v := .tuple #[clV (c), rtV (⟨tid, false, tgen, tdl, tper, tlast, tarmed, false⟩), .bool (e.gen == tgen)]) (results_loc (by kernel_rfl) _ _ (c) (⟨tid, false, tgen, tdl, tper, tlast, tarmed, false⟩) (e.gen == tgen) ⟨W1.heap.size + 1 + 1 + 1, 0, none⟩ ⟨W1.heap.size + 1 + 1 + 1 + 1, 0, none⟩ (by kernel_rfl) (by kernel_rfl) (by kernel_rfl) (hL0.gotC (c) _) (hL0.gotT (⟨tid, false, tgen, tdl, tper, tlast, tarmed, false⟩) _)) rfl ?_
  rw [HV.out]
  exact ⟨rfl, hL.m, hL.chg⟩

set_option maxHeartbeats 4000000 in
set_option maxRecDepth 100000 in
theorem rclosing_o (R : Rm) (c : Cl) (t : RT) (e : Ev) (bm : Nat) (vc vt : Value) (w : World) (HM : Hid (Blk w bm 91 (mcC R vc vt))) (k1 : (e.kind == 10) = false) (k3 : (R.closed) = true) (k4 : (R.closer != e.call) = false) (k5 : (e.kind == 12) = false) (k6 : (e.kind == 13) = false) :
    Calls Try.prog 72 #[ptrV bm, clV c, rtV t, evV e] w (EndsR w bm vc vt (rclosing R c t e)) := by
  obtain ⟨tid, tlive, tgen, tdl, tper, tlast, tarmed, tbtw⟩ := t
  try dsimp only at *
  have HV := hid (show (rclosing R c ⟨tid, tlive, tgen, tdl, tper, tlast, tarmed, tbtw⟩ e) = (R, c, ⟨tid, tlive, tgen, tdl, tper, tlast, tarmed, tbtw⟩, false) by simp [rclosing, k1, k3, k4, k5, k6])
  have hlt := HM.out.lt
  go_enter Try.func72, Try.ntmps72
  go_wp2
  refine named (five w (clC' (c)) (rtC (⟨tid, tlive, tgen, tdl, tper, tlast, tarmed, tbtw⟩)) (evC e) clZ rtZ) (fun V hV => ?_)
  have hL : Loc w bm (mcC R vc vt) w.heap.size (clC' (c)) (rtC (⟨tid, tlive, tgen, tdl, tper, tlast, tarmed, tbtw⟩)) (evC e) none V := by rw [hV]; exact loc_five (HM.out) (Chg.refl _ _) rfl _ _ _
  replace hL := hL.drew
  refine wp_region_held_drew (by kernel_rfl) hL (fun _ => ?_)
  simp only [List.size_toArray, List.length_cons, List.length_nil, Nat.reduceAdd, Array.replicate_succ, Array.replicate_zero, List.push_toArray, List.nil_append, List.cons_append]
  refine tp 0 hL ?_
  refine tp 1 hL ?_
  refine tp 2 hL ?_
  refine tq 3 hL (fun _ h => h.m.cell 2 rfl) ?_
  refine tp 4 hL ?_
  refine tp 5 hL ?_
  refine tp 6 hL ?_
  refine tp 7 hL ?_
  refine tp 8 hL ?_
  refine tq 9 hL (fun _ h => h.m.cell 4 rfl) ?_
  refine tp 10 hL ?_
  refine tq 11 hL (fun _ h => h.e.cell 2 rfl) ?_
  refine tp 12 hL ?_
  refine tp 13 hL ?_
  refine wpAnyH_done (by kernel_rfl) ?_ _
  clear hL
  rw [hV]
  clear hV
  simp only [five, drew_alloc, clC', rtC, evC, clZ, rtZ]
  obtain ⟨W1, hW⟩ : ∃ W, W = w.drew := ⟨_, rfl⟩
  have hMW1 : Hid (Blk W1 bm 91 (mcC R vc vt)) := by rw [hW]; exact hid (HM.out.drew)
  have hCW1 : Hid (Chg (· = bm) w W1) := by rw [hW]; exact hid (Chg.drew (Chg.refl _ _))
  have hSW1 : Hid (w.heap.size = W1.heap.size) := by rw [hW]; exact hid (rfl)
  have hz : w.heap.size = W1.heap.size := by rw [hW]; rfl
  rw [← hW, hz]
  clear hW hz
  go_wp2
  refine named (five W1 (clC' (c)) (rtC (⟨tid, tlive, tgen, tdl, tper, tlast, tarmed, tbtw⟩)) (evC e) clZ rtZ) (fun V hV => ?_)
  have hL : Loc w bm (mcC R vc vt) W1.heap.size (clC' (c)) (rtC (⟨tid, tlive, tgen, tdl, tper, tlast, tarmed, tbtw⟩)) (evC e) none V := by rw [hV]; exact loc_five (hMW1.out) (hCW1.out) hSW1.out _ _ _
  clear hV
  replace hL := hL.drew
  refine wp_region_held_drew (by kernel_rfl) hL (fun _ => ?_)
  simp only [List.size_toArray, List.length_cons, List.length_nil, Nat.reduceAdd, Array.replicate_succ, Array.replicate_zero, List.push_toArray, List.nil_append, List.cons_append]
  refine tkC 0 hL ?_
  refine tkT 1 hL ?_
  have hL0 := hL
  refine Loc.putC 2 (c) (by kernel_rfl) rfl (by kernel_rfl) rfl (by kernel_rfl) (by kernel_rfl) hL ?_
  replace hL := hL.setC (xs := clC' (c)) rfl
  simp only [nA,nB,nC,Act.put,nD,nE,nF]
  refine Loc.putT 3 (⟨tid, tlive, tgen, tdl, tper, tlast, tarmed, tbtw⟩) (by kernel_rfl) rfl (by kernel_rfl) rfl (by kernel_rfl) (by kernel_rfl) hL ?_
  replace hL := hL.setT (xs := rtC (⟨tid, tlive, tgen, tdl, tper, tlast, tarmed, tbtw⟩)) rfl
  simp only [nA,nB,nC,Act.put,nD,nE,nF]
  refine held_put 4 (by kernel_rfl) rfl (by kernel_rfl) (fun W => by go_simp; try rfl) hL ?_
  simp only [nA,nB,nC,Act.put,nD,nE,nF]
  refine wpAnyH_done (by kernel_rfl) ?_ _
  go_wp2
  refine bodyPost_ret (v := .tuple #[clV (c), rtV (⟨tid, tlive, tgen, tdl, tper, tlast, tarmed, tbtw⟩), .bool (false)]) (results_loc (by kernel_rfl) _ _ (c) (⟨tid, tlive, tgen, tdl, tper, tlast, tarmed, tbtw⟩) (false) ⟨W1.heap.size + 1 + 1 + 1, 0, none⟩ ⟨W1.heap.size + 1 + 1 + 1 + 1, 0, none⟩ (by kernel_rfl) (by kernel_rfl) (by kernel_rfl) (hL0.gotC (c) _) (hL0.gotT (⟨tid, tlive, tgen, tdl, tper, tlast, tarmed, tbtw⟩) _)) rfl ?_
  rw [HV.out]
  exact ⟨rfl, hL.m, hL.chg⟩

set_option maxHeartbeats 4000000 in
set_option maxRecDepth 100000 in
theorem rclosing_e1 (R : Rm) (c : Cl) (t : RT) (e : Ev) (bm : Nat) (vc vt : Value) (w : World) (HM : Hid (Blk w bm 91 (mcC R vc vt))) (k1 : (e.kind == 10) = false) (k3 : (R.closed) = true) (k4 : (R.closer != e.call) = false) (k5 : (e.kind == 12) = false) (k6 : (e.kind == 13) = true) (k8 : (decide ((rlives R.tms).length > 0)) = true) (HT : Hid (∀ W, Chg (· = bm) w W → Reads W vt R.tms.length (R.tms.flatMap rtC))) (HN : Hid (rlives R.tms).Nodup) (hn : R.tms.length ≤ 1000000) :
    Calls Try.prog 72 #[ptrV bm, clV c, rtV t, evV e] w (EndsR w bm vc vt (rclosing R c t e)) := by
  obtain ⟨tid, tlive, tgen, tdl, tper, tlast, tarmed, tbtw⟩ := t
  try dsimp only at *
  have HV := hid (show (rclosing R c ⟨tid, tlive, tgen, tdl, tper, tlast, tarmed, tbtw⟩ e) = (R, c, ⟨tid, tlive, tgen, tdl, tper, tlast, tarmed, tbtw⟩, false) by simp [rclosing, k1, k3, k4, k5, k6, k8])
  have hlt := HM.out.lt
  go_enter Try.func72, Try.ntmps72
  go_wp2
  refine named (five w (clC' (c)) (rtC (⟨tid, tlive, tgen, tdl, tper, tlast, tarmed, tbtw⟩)) (evC e) clZ rtZ) (fun V hV => ?_)
  have hL : Loc w bm (mcC R vc vt) w.heap.size (clC' (c)) (rtC (⟨tid, tlive, tgen, tdl, tper, tlast, tarmed, tbtw⟩)) (evC e) none V := by rw [hV]; exact loc_five (HM.out) (Chg.refl _ _) rfl _ _ _
  replace hL := hL.drew
  refine wp_region_held_drew (by kernel_rfl) hL (fun _ => ?_)
  simp only [List.size_toArray, List.length_cons, List.length_nil, Nat.reduceAdd, Array.replicate_succ, Array.replicate_zero, List.push_toArray, List.nil_append, List.cons_append]
  refine tp 0 hL ?_
  refine tp 1 hL ?_
  refine tp 2 hL ?_
  refine tq 3 hL (fun _ h => h.m.cell 2 rfl) ?_
  refine tp 4 hL ?_
  refine tp 5 hL ?_
  refine tp 6 hL ?_
  refine tp 7 hL ?_
  refine tp 8 hL ?_
  refine tq 9 hL (fun _ h => h.m.cell 4 rfl) ?_
  refine tp 10 hL ?_
  refine tq 11 hL (fun _ h => h.e.cell 2 rfl) ?_
  refine tp 12 hL ?_
  refine tp 13 hL ?_
  refine wpAnyH_done (by kernel_rfl) ?_ _
  clear hL
  rw [hV]
  clear hV
  simp only [five, drew_alloc, clC', rtC, evC, clZ, rtZ]
  obtain ⟨W1, hW⟩ : ∃ W, W = w.drew := ⟨_, rfl⟩
  have hMW1 : Hid (Blk W1 bm 91 (mcC R vc vt)) := by rw [hW]; exact hid (HM.out.drew)
  have hCW1 : Hid (Chg (· = bm) w W1) := by rw [hW]; exact hid (Chg.drew (Chg.refl _ _))
  have hSW1 : Hid (w.heap.size = W1.heap.size) := by rw [hW]; exact hid (rfl)
  have hz : w.heap.size = W1.heap.size := by rw [hW]; rfl
  rw [← hW, hz]
  clear hW hz
  go_wp2_with fail
  refine namedC (five W1 (clC' (c)) (rtC (⟨tid, tlive, tgen, tdl, tper, tlast, tarmed, tbtw⟩)) (evC e) clZ rtZ) (fun V hV => ?_)
  have hL : Loc w bm (mcC R vc vt) W1.heap.size (clC' (c)) (rtC (⟨tid, tlive, tgen, tdl, tper, tlast, tarmed, tbtw⟩)) (evC e) none V := by rw [hV]; exact loc_five (hMW1.out) (hCW1.out) hSW1.out _ _ _
  clear hV
  have cm6 := hL.m.cell 6 rfl
  have HL := hid hL
  clear hL
  refine (rlive_any R.tms bm vt _ cm6 (HT.out _ HL.out.chg) hn).mono ?_
  rintro x V2 ⟨v2, L, rfl, hup, hown, hb⟩
  obtain ⟨a2, p2, rfl⟩ := owns_shape hown
  have HX := hid (And.intro hup hb)
  clear hown hup hb
  have hlen : L.length = (rlives R.tms).length := HX.out.1.len HN.out
  have hpos : decide (0 < L.length) = true := by rw [hlen]; exact k8
  clear hlen k8
  go_wp2
  have hL := HL.out.below HX.out.2
  clear HX HL
  replace hL := hL.drew
  refine wp_region_held_drew (by kernel_rfl) hL (fun _ => ?_)
  simp only [List.size_toArray, List.length_cons, List.length_nil, Nat.reduceAdd, Array.replicate_succ, Array.replicate_zero, List.push_toArray, List.nil_append, List.cons_append]
  refine tkC 0 hL ?_
  refine tkT 1 hL ?_
  have hL0 := hL
  refine Loc.putC 2 (c) (by kernel_rfl) rfl (by kernel_rfl) rfl (by kernel_rfl) (by kernel_rfl) hL ?_
  replace hL := hL.setC (xs := clC' (c)) rfl
  simp only [nA,nB,nC,Act.put,nD,nE,nF]
  refine Loc.putT 3 (⟨tid, tlive, tgen, tdl, tper, tlast, tarmed, tbtw⟩) (by kernel_rfl) rfl (by kernel_rfl) rfl (by kernel_rfl) (by kernel_rfl) hL ?_
  replace hL := hL.setT (xs := rtC (⟨tid, tlive, tgen, tdl, tper, tlast, tarmed, tbtw⟩)) rfl
  simp only [nA,nB,nC,Act.put,nD,nE,nF]
  refine held_put 4 (by kernel_rfl) rfl (by kernel_rfl) (fun W => by go_simp; try rfl) hL ?_
  simp only [nA,nB,nC,Act.put,nD,nE,nF]
  refine wpAnyH_done (by kernel_rfl) ?_ _
  go_wp2
  refine bodyPost_ret (v := .tuple #[clV (c), rtV (⟨tid, tlive, tgen, tdl, tper, tlast, tarmed, tbtw⟩), .bool (false)]) (results_loc (by kernel_rfl) _ _ (c) (⟨tid, tlive, tgen, tdl, tper, tlast, tarmed, tbtw⟩) (false) ⟨W1.heap.size + 1 + 1 + 1, 0, none⟩ ⟨W1.heap.size + 1 + 1 + 1 + 1, 0, none⟩ (by kernel_rfl) (by kernel_rfl) (by kernel_rfl) (hL0.gotC (c) _) (hL0.gotT (⟨tid, tlive, tgen, tdl, tper, tlast, tarmed, tbtw⟩) _)) rfl ?_
  rw [HV.out]
  exact ⟨rfl, hL.m, hL.chg⟩

set_option maxHeartbeats 4000000 in
set_option maxRecDepth 100000 in
theorem rclosing_e0 (R : Rm) (c : Cl) (t : RT) (e : Ev) (bm : Nat) (vc vt : Value) (w : World) (HM : Hid (Blk w bm 91 (mcC R vc vt))) (k1 : (e.kind == 10) = false) (k3 : (R.closed) = true) (k4 : (R.closer != e.call) = false) (k5 : (e.kind == 12) = false) (k6 : (e.kind == 13) = true) (k8 : (decide ((rlives R.tms).length > 0)) = false) (HT : Hid (∀ W, Chg (· = bm) w W → Reads W vt R.tms.length (R.tms.flatMap rtC))) (HN : Hid (rlives R.tms).Nodup) (hn : R.tms.length ≤ 1000000) :
    Calls Try.prog 72 #[ptrV bm, clV c, rtV t, evV e] w (EndsR w bm vc vt (rclosing R c t e)) := by
  obtain ⟨tid, tlive, tgen, tdl, tper, tlast, tarmed, tbtw⟩ := t
  try dsimp only at *
  have HV := hid (show (rclosing R c ⟨tid, tlive, tgen, tdl, tper, tlast, tarmed, tbtw⟩ e) = ({ R with ended := true }, { c with done := true }, ⟨tid, tlive, tgen, tdl, tper, tlast, tarmed, tbtw⟩, true) by simp [rclosing, k1, k3, k4, k5, k6, k8])
  have hlt := HM.out.lt
  go_enter Try.func72, Try.ntmps72
  go_wp2
  refine named (five w (clC' (c)) (rtC (⟨tid, tlive, tgen, tdl, tper, tlast, tarmed, tbtw⟩)) (evC e) clZ rtZ) (fun V hV => ?_)
  have hL : Loc w bm (mcC R vc vt) w.heap.size (clC' (c)) (rtC (⟨tid, tlive, tgen, tdl, tper, tlast, tarmed, tbtw⟩)) (evC e) none V := by rw [hV]; exact loc_five (HM.out) (Chg.refl _ _) rfl _ _ _
  replace hL := hL.drew
  refine wp_region_held_drew (by kernel_rfl) hL (fun _ => ?_)
  simp only [List.size_toArray, List.length_cons, List.length_nil, Nat.reduceAdd, Array.replicate_succ, Array.replicate_zero, List.push_toArray, List.nil_append, List.cons_append]
  refine tp 0 hL ?_
  refine tp 1 hL ?_
  refine tp 2 hL ?_
  refine tq 3 hL (fun _ h => h.m.cell 2 rfl) ?_
  refine tp 4 hL ?_
  refine tp 5 hL ?_
  refine tp 6 hL ?_
  refine tp 7 hL ?_
  refine tp 8 hL ?_
  refine tq 9 hL (fun _ h => h.m.cell 4 rfl) ?_
  refine tp 10 hL ?_
  refine tq 11 hL (fun _ h => h.e.cell 2 rfl) ?_
  refine tp 12 hL ?_
  refine tp 13 hL ?_
  refine wpAnyH_done (by kernel_rfl) ?_ _
  clear hL
  rw [hV]
  clear hV
  simp only [five, drew_alloc, clC', rtC, evC, clZ, rtZ]
  obtain ⟨W1, hW⟩ : ∃ W, W = w.drew := ⟨_, rfl⟩
  have hMW1 : Hid (Blk W1 bm 91 (mcC R vc vt)) := by rw [hW]; exact hid (HM.out.drew)
  have hCW1 : Hid (Chg (· = bm) w W1) := by rw [hW]; exact hid (Chg.drew (Chg.refl _ _))
  have hSW1 : Hid (w.heap.size = W1.heap.size) := by rw [hW]; exact hid (rfl)
  have hz : w.heap.size = W1.heap.size := by rw [hW]; rfl
  rw [← hW, hz]
  clear hW hz
  go_wp2_with fail
  refine namedC (five W1 (clC' (c)) (rtC (⟨tid, tlive, tgen, tdl, tper, tlast, tarmed, tbtw⟩)) (evC e) clZ rtZ) (fun V hV => ?_)
  have hL : Loc w bm (mcC R vc vt) W1.heap.size (clC' (c)) (rtC (⟨tid, tlive, tgen, tdl, tper, tlast, tarmed, tbtw⟩)) (evC e) none V := by rw [hV]; exact loc_five (hMW1.out) (hCW1.out) hSW1.out _ _ _
  clear hV
  have cm6 := hL.m.cell 6 rfl
  have HL := hid hL
  clear hL
  refine (rlive_any R.tms bm vt _ cm6 (HT.out _ HL.out.chg) hn).mono ?_
  rintro x V2 ⟨v2, L, rfl, hup, hown, hb⟩
  obtain ⟨a2, p2, rfl⟩ := owns_shape hown
  have HX := hid (And.intro hup hb)
  clear hown hup hb
  have hlen : L.length = (rlives R.tms).length := HX.out.1.len HN.out
  have hpos : decide (0 < L.length) = false := by rw [hlen]; exact k8
  clear hlen k8
  have hL := HL.out.below HX.out.2
  have HL2 := hid hL
  have cm3 := hL.m.cell 3 rfl
  have zm3 := hL.m.frozen 3
  have cc11 := hL.c.cell 11 rfl
  have zc11 := hL.c.frozen 11
  have hne : bm ≠ W1.heap.size := by have := hL.lt; omega
  clear hL HX HL
  go_wp2
  refine named _ (fun V3 hV3 => ?_)
  have hL : Loc w bm (mcC { R with ended := true } vc vt) W1.heap.size (clC' { c with done := true }) (rtC ⟨tid, tlive, tgen, tdl, tper, tlast, tarmed, tbtw⟩) (evC e) none V3 := by rw [hV3]; exact (HL2.out.setM 3 _).setB 11 _
  clear hV3 hne cm3 cc11 zm3 zc11 HL2
  replace hL := hL.drew
  refine wp_region_held_drew (by kernel_rfl) hL (fun _ => ?_)
  simp only [List.size_toArray, List.length_cons, List.length_nil, Nat.reduceAdd, Array.replicate_succ, Array.replicate_zero, List.push_toArray, List.nil_append, List.cons_append]
  refine tkC 0 hL ?_
  refine tkT 1 hL ?_
  have hL0 := hL
  refine Loc.putC 2 ({ c with done := true }) (by kernel_rfl) rfl (by kernel_rfl) rfl (by kernel_rfl) (by kernel_rfl) hL ?_
  replace hL := hL.setC (xs := clC' ({ c with done := true })) rfl
  simp only [nA,nB,nC,Act.put,nD,nE,nF]
  refine Loc.putT 3 (⟨tid, tlive, tgen, tdl, tper, tlast, tarmed, tbtw⟩) (by kernel_rfl) rfl (by kernel_rfl) rfl (by kernel_rfl) (by kernel_rfl) hL ?_
  replace hL := hL.setT (xs := rtC (⟨tid, tlive, tgen, tdl, tper, tlast, tarmed, tbtw⟩)) rfl
  simp only [nA,nB,nC,Act.put,nD,nE,nF]
  refine held_put 4 (by kernel_rfl) rfl (by kernel_rfl) (fun W => by go_simp; try rfl) hL ?_
  simp only [nA,nB,nC,Act.put,nD,nE,nF]
  refine wpAnyH_done (by kernel_rfl) ?_ _
  go_wp2
  refine bodyPost_ret (v := .tuple #[clV ({ c with done := true }), rtV (⟨tid, tlive, tgen, tdl, tper, tlast, tarmed, tbtw⟩), .bool (true)]) (results_loc (by kernel_rfl) _ _ ({ c with done := true }) (⟨tid, tlive, tgen, tdl, tper, tlast, tarmed, tbtw⟩) (true) ⟨W1.heap.size + 1 + 1 + 1, 0, none⟩ ⟨W1.heap.size + 1 + 1 + 1 + 1, 0, none⟩ (by kernel_rfl) (by kernel_rfl) (by kernel_rfl) (hL0.gotC ({ c with done := true }) _) (hL0.gotT (⟨tid, tlive, tgen, tdl, tper, tlast, tarmed, tbtw⟩) _)) rfl ?_
  rw [HV.out]
  exact ⟨rfl, hL.m, hL.chg⟩
end Go.Proofs.Ytpnkkdpggofanaa

namespace Go.Proofs.Ytpnkkdpggofanaa
open Go.RowKit

set_option maxHeartbeats 4000000 in
theorem rclosing_any (R : Rm) (c : Cl) (t : RT) (e : Ev) (bm : Nat) (vc vt : Value) (w : World) (HM : Hid (Blk w bm 91 (mcC R vc vt))) (HT : Hid (∀ W, Chg (· = bm) w W → Reads W vt R.tms.length (R.tms.flatMap rtC))) (HN : Hid (rlives R.tms).Nodup) (hn : R.tms.length ≤ 1000000) :
    Calls Try.prog 72 #[ptrV bm, clV c, rtV t, evV e] w (EndsR w bm vc vt (rclosing R c t e)) := by
  cases k1 : (e.kind == 10) with
  | true =>
    cases k2 : (c.bg.what != 6) with
    | true =>
      exact rclosing_a1 R c t e bm vc vt w HM k1 k2 
    | false =>
      cases k3 : (R.closed) with
      | true =>
        exact rclosing_a2 R c t e bm vc vt w HM k1 k2 k3 
      | false =>
        exact rclosing_a3 R c t e bm vc vt w HM k1 k2 k3 
  | false =>
    cases k3 : (R.closed) with
    | true =>
      cases k4 : (R.closer != e.call) with
      | true =>
        exact rclosing_b2 R c t e bm vc vt w HM k1 k3 k4 
      | false =>
        cases k5 : (e.kind == 12) with
        | true =>
          cases k6 : (t.live) with
          | true =>
            cases k7 : (t.btw) with
            | true =>
              exact rclosing_l1 R c t e bm vc vt w HM k1 k3 k4 k5 k6 k7 
            | false =>
              exact rclosing_l2 R c t e bm vc vt w HM k1 k3 k4 k5 k6 k7 
          | false =>
            exact rclosing_l0 R c t e bm vc vt w HM k1 k3 k4 k5 k6 
        | false =>
          cases k6 : (e.kind == 13) with
          | true =>
            cases k8 : (decide ((rlives R.tms).length > 0)) with
            | true =>
              exact rclosing_e1 R c t e bm vc vt w HM k1 k3 k4 k5 k6 k8 HT HN hn
            | false =>
              exact rclosing_e0 R c t e bm vc vt w HM k1 k3 k4 k5 k6 k8 HT HN hn
          | false =>
            exact rclosing_o R c t e bm vc vt w HM k1 k3 k4 k5 k6 
    | false =>
      exact rclosing_b1 R c t e bm vc vt w HM k1 k3 
end Go.Proofs.Ytpnkkdpggofanaa
