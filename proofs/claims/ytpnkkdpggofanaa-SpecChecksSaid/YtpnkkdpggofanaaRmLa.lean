/- The document's machine: later by its walk, part 1. -/
import Derived.Test.YtpnkkdpggofanaaRmD
namespace Go.Proofs.Ytpnkkdpggofanaa
open Go.RowKit

set_option maxHeartbeats 4000000 in
set_option maxRecDepth 100000 in
theorem rlater_2a (R : Rm) (c : Cl) (t : RT) (e : Ev) (bm : Nat) (vc vt : Value) (w : World) (HM : Hid (Blk w bm 91 (mcC R vc vt))) (k2 : (e.kind == 2) = true) (x1 : (e.id == c.id) = false) :
    Calls Try.prog 58 #[ptrV bm, clV c, rtV t, evV e] w (EndsR w bm vc vt (R, rlater R.now c t e)) := by
  obtain ⟨tid, tlive, tgen, tdl, tper, tlast, tarmed, tbtw⟩ := t
  try dsimp only at *
  have HV := hid (show (R, rlater R.now c ⟨tid, tlive, tgen, tdl, tper, tlast, tarmed, tbtw⟩ e) = (R, { c with opn := false }, ⟨tid, tlive, tgen, tdl, tper, tlast, tarmed, tbtw⟩, false) by simp [rlater, k2, x1])
  have hlt := HM.out.lt
  go_enter Try.func58, Try.ntmps58
  go_wp2
  refine named (five w (clC' ({ c with opn := false })) (rtC (⟨tid, tlive, tgen, tdl, tper, tlast, tarmed, tbtw⟩)) (evC e) clZ rtZ) (fun V hV => ?_)
  have hL : Loc w bm (mcC R vc vt) w.heap.size (clC' ({ c with opn := false })) (rtC (⟨tid, tlive, tgen, tdl, tper, tlast, tarmed, tbtw⟩)) (evC e) none V := by rw [hV]; exact loc_five (HM.out) (Chg.refl _ _) rfl _ _ _
  clear hV
  replace hL := hL.drew
  refine wp_region_held_drew (by kernel_rfl) hL (fun _ => ?_)
  simp only [List.size_toArray, List.length_cons, List.length_nil, Nat.reduceAdd, Array.replicate_succ, Array.replicate_zero, List.push_toArray, List.nil_append, List.cons_append]
  refine tkC 0 hL ?_
  refine tkT 1 hL ?_
  refine tp 2 hL ?_
  refine tq 3 hL (fun _ h => h.e.cell 4 rfl) ?_
  refine tp 4 hL ?_
  refine tq 5 hL (fun _ h => h.c.cell 12 rfl) ?_
  refine tp 6 hL ?_
  refine tp 7 hL ?_
  refine sp 8 hL ?_
  refine sp 9 hL ?_
  refine sp 10 hL ?_
  refine sp 11 hL ?_
  refine sp 12 hL ?_
  refine tp 13 hL ?_
  refine tp 14 hL ?_
  refine sp 15 hL ?_
  refine sp 16 hL ?_
  refine sp 17 hL ?_
  refine sp 18 hL ?_
  refine sp 19 hL ?_
  refine tp 20 hL ?_
  have hL0 := hL
  refine Loc.putC 21 ({ c with opn := false }) (by kernel_rfl) rfl (by kernel_rfl) rfl (by kernel_rfl) (by kernel_rfl) hL ?_
  replace hL := hL.setC (xs := clC' ({ c with opn := false })) rfl
  simp only [nA,nB,nC,Act.put,nD,nE,nF]
  refine Loc.putT 22 (⟨tid, tlive, tgen, tdl, tper, tlast, tarmed, tbtw⟩) (by kernel_rfl) rfl (by kernel_rfl) rfl (by kernel_rfl) (by kernel_rfl) hL ?_
  replace hL := hL.setT (xs := rtC (⟨tid, tlive, tgen, tdl, tper, tlast, tarmed, tbtw⟩)) rfl
  simp only [nA,nB,nC,Act.put,nD,nE,nF]
  refine held_put 23 (by kernel_rfl) rfl (by kernel_rfl) (fun W => by go_simp; try rfl) hL ?_
  simp only [nA,nB,nC,Act.put,nD,nE,nF]
  refine wpAnyH_done (by kernel_rfl) ?_ _
  go_wp2
  refine bodyPost_ret (v := .tuple #[clV ({ c with opn := false }), rtV (⟨tid, tlive, tgen, tdl, tper, tlast, tarmed, tbtw⟩), .bool (false)]) (results_loc (by kernel_rfl) _ _ ({ c with opn := false }) (⟨tid, tlive, tgen, tdl, tper, tlast, tarmed, tbtw⟩) (false) ⟨w.heap.size + 1 + 1 + 1, 0, none⟩ ⟨w.heap.size + 1 + 1 + 1 + 1, 0, none⟩ (by kernel_rfl) (by kernel_rfl) (by kernel_rfl) (hL0.gotC ({ c with opn := false }) _) (hL0.gotT (⟨tid, tlive, tgen, tdl, tper, tlast, tarmed, tbtw⟩) _)) rfl ?_
  rw [HV.out]
  exact ⟨rfl, hL.m, hL.chg⟩

set_option maxHeartbeats 4000000 in
set_option maxRecDepth 100000 in
theorem rlater_2b (R : Rm) (c : Cl) (t : RT) (e : Ev) (bm : Nat) (vc vt : Value) (w : World) (HM : Hid (Blk w bm 91 (mcC R vc vt))) (k2 : (e.kind == 2) = true) (x1 : (e.id == c.id) = true) (x2 : (e.gen == c.gen) = false) :
    Calls Try.prog 58 #[ptrV bm, clV c, rtV t, evV e] w (EndsR w bm vc vt (R, rlater R.now c t e)) := by
  obtain ⟨tid, tlive, tgen, tdl, tper, tlast, tarmed, tbtw⟩ := t
  try dsimp only at *
  have HV := hid (show (R, rlater R.now c ⟨tid, tlive, tgen, tdl, tper, tlast, tarmed, tbtw⟩ e) = (R, { c with opn := false }, ⟨tid, tlive, tgen, tdl, tper, tlast, tarmed, tbtw⟩, false) by simp [rlater, k2, x1, x2])
  have hlt := HM.out.lt
  go_enter Try.func58, Try.ntmps58
  go_wp2
  refine named (five w (clC' ({ c with opn := false })) (rtC (⟨tid, tlive, tgen, tdl, tper, tlast, tarmed, tbtw⟩)) (evC e) clZ rtZ) (fun V hV => ?_)
  have hL : Loc w bm (mcC R vc vt) w.heap.size (clC' ({ c with opn := false })) (rtC (⟨tid, tlive, tgen, tdl, tper, tlast, tarmed, tbtw⟩)) (evC e) none V := by rw [hV]; exact loc_five (HM.out) (Chg.refl _ _) rfl _ _ _
  clear hV
  replace hL := hL.drew
  refine wp_region_held_drew (by kernel_rfl) hL (fun _ => ?_)
  simp only [List.size_toArray, List.length_cons, List.length_nil, Nat.reduceAdd, Array.replicate_succ, Array.replicate_zero, List.push_toArray, List.nil_append, List.cons_append]
  refine tkC 0 hL ?_
  refine tkT 1 hL ?_
  refine tp 2 hL ?_
  refine tq 3 hL (fun _ h => h.e.cell 4 rfl) ?_
  refine tp 4 hL ?_
  refine tq 5 hL (fun _ h => h.c.cell 12 rfl) ?_
  refine tp 6 hL ?_
  refine tp 7 hL ?_
  refine tp 8 hL ?_
  refine tq 9 hL (fun _ h => h.e.cell 5 rfl) ?_
  refine tp 10 hL ?_
  refine tq 11 hL (fun _ h => h.c.cell 13 rfl) ?_
  refine tp 12 hL ?_
  refine tp 13 hL ?_
  refine tp 14 hL ?_
  refine sp 15 hL ?_
  refine sp 16 hL ?_
  refine sp 17 hL ?_
  refine sp 18 hL ?_
  refine sp 19 hL ?_
  refine tp 20 hL ?_
  have hL0 := hL
  refine Loc.putC 21 ({ c with opn := false }) (by kernel_rfl) rfl (by kernel_rfl) rfl (by kernel_rfl) (by kernel_rfl) hL ?_
  replace hL := hL.setC (xs := clC' ({ c with opn := false })) rfl
  simp only [nA,nB,nC,Act.put,nD,nE,nF]
  refine Loc.putT 22 (⟨tid, tlive, tgen, tdl, tper, tlast, tarmed, tbtw⟩) (by kernel_rfl) rfl (by kernel_rfl) rfl (by kernel_rfl) (by kernel_rfl) hL ?_
  replace hL := hL.setT (xs := rtC (⟨tid, tlive, tgen, tdl, tper, tlast, tarmed, tbtw⟩)) rfl
  simp only [nA,nB,nC,Act.put,nD,nE,nF]
  refine held_put 23 (by kernel_rfl) rfl (by kernel_rfl) (fun W => by go_simp; try rfl) hL ?_
  simp only [nA,nB,nC,Act.put,nD,nE,nF]
  refine wpAnyH_done (by kernel_rfl) ?_ _
  go_wp2
  refine bodyPost_ret (v := .tuple #[clV ({ c with opn := false }), rtV (⟨tid, tlive, tgen, tdl, tper, tlast, tarmed, tbtw⟩), .bool (false)]) (results_loc (by kernel_rfl) _ _ ({ c with opn := false }) (⟨tid, tlive, tgen, tdl, tper, tlast, tarmed, tbtw⟩) (false) ⟨w.heap.size + 1 + 1 + 1, 0, none⟩ ⟨w.heap.size + 1 + 1 + 1 + 1, 0, none⟩ (by kernel_rfl) (by kernel_rfl) (by kernel_rfl) (hL0.gotC ({ c with opn := false }) _) (hL0.gotT (⟨tid, tlive, tgen, tdl, tper, tlast, tarmed, tbtw⟩) _)) rfl ?_
  rw [HV.out]
  exact ⟨rfl, hL.m, hL.chg⟩

set_option maxHeartbeats 4000000 in
set_option maxRecDepth 100000 in
theorem rlater_2c (R : Rm) (c : Cl) (t : RT) (e : Ev) (bm : Nat) (vc vt : Value) (w : World) (HM : Hid (Blk w bm 91 (mcC R vc vt))) (k2 : (e.kind == 2) = true) (x1 : (e.id == c.id) = true) (x2 : (e.gen == c.gen) = true) :
    Calls Try.prog 58 #[ptrV bm, clV c, rtV t, evV e] w (EndsR w bm vc vt (R, rlater R.now c t e)) := by
  obtain ⟨tid, tlive, tgen, tdl, tper, tlast, tarmed, tbtw⟩ := t
  try dsimp only at *
  have HV := hid (show (R, rlater R.now c ⟨tid, tlive, tgen, tdl, tper, tlast, tarmed, tbtw⟩ e) = (R, { c with opn := false }, ⟨tid, tlive, tgen, tdl, tper, tlast, tarmed, tbtw⟩, e.err == c.err) by simp [rlater, k2, x1, x2])
  have hlt := HM.out.lt
  go_enter Try.func58, Try.ntmps58
  go_wp2
  refine named (five w (clC' ({ c with opn := false })) (rtC (⟨tid, tlive, tgen, tdl, tper, tlast, tarmed, tbtw⟩)) (evC e) clZ rtZ) (fun V hV => ?_)
  have hL : Loc w bm (mcC R vc vt) w.heap.size (clC' ({ c with opn := false })) (rtC (⟨tid, tlive, tgen, tdl, tper, tlast, tarmed, tbtw⟩)) (evC e) none V := by rw [hV]; exact loc_five (HM.out) (Chg.refl _ _) rfl _ _ _
  clear hV
  replace hL := hL.drew
  refine wp_region_held_drew (by kernel_rfl) hL (fun _ => ?_)
  simp only [List.size_toArray, List.length_cons, List.length_nil, Nat.reduceAdd, Array.replicate_succ, Array.replicate_zero, List.push_toArray, List.nil_append, List.cons_append]
  refine tkC 0 hL ?_
  refine tkT 1 hL ?_
  refine tp 2 hL ?_
  refine tq 3 hL (fun _ h => h.e.cell 4 rfl) ?_
  refine tp 4 hL ?_
  refine tq 5 hL (fun _ h => h.c.cell 12 rfl) ?_
  refine tp 6 hL ?_
  refine tp 7 hL ?_
  refine tp 8 hL ?_
  refine tq 9 hL (fun _ h => h.e.cell 5 rfl) ?_
  refine tp 10 hL ?_
  refine tq 11 hL (fun _ h => h.c.cell 13 rfl) ?_
  refine tp 12 hL ?_
  refine tp 13 hL ?_
  refine tp 14 hL ?_
  refine tp 15 hL ?_
  refine tq 16 hL (fun _ h => h.e.cell 9 rfl) ?_
  refine tp 17 hL ?_
  refine tq 18 hL (fun _ h => h.c.cell 14 rfl) ?_
  refine tp 19 hL ?_
  refine tp 20 hL ?_
  have hL0 := hL
  refine Loc.putC 21 ({ c with opn := false }) (by kernel_rfl) rfl (by kernel_rfl) rfl (by kernel_rfl) (by kernel_rfl) hL ?_
  replace hL := hL.setC (xs := clC' ({ c with opn := false })) rfl
  simp only [nA,nB,nC,Act.put,nD,nE,nF]
  refine Loc.putT 22 (⟨tid, tlive, tgen, tdl, tper, tlast, tarmed, tbtw⟩) (by kernel_rfl) rfl (by kernel_rfl) rfl (by kernel_rfl) (by kernel_rfl) hL ?_
  replace hL := hL.setT (xs := rtC (⟨tid, tlive, tgen, tdl, tper, tlast, tarmed, tbtw⟩)) rfl
  simp only [nA,nB,nC,Act.put,nD,nE,nF]
  refine held_put 23 (by kernel_rfl) rfl (by kernel_rfl) (fun W => by go_simp; try rfl) hL ?_
  simp only [nA,nB,nC,Act.put,nD,nE,nF]
  refine wpAnyH_done (by kernel_rfl) ?_ _
  go_wp2
  refine bodyPost_ret (v := .tuple #[clV ({ c with opn := false }), rtV (⟨tid, tlive, tgen, tdl, tper, tlast, tarmed, tbtw⟩), .bool (e.err == c.err)]) (results_loc (by kernel_rfl) _ _ ({ c with opn := false }) (⟨tid, tlive, tgen, tdl, tper, tlast, tarmed, tbtw⟩) (e.err == c.err) ⟨w.heap.size + 1 + 1 + 1, 0, none⟩ ⟨w.heap.size + 1 + 1 + 1 + 1, 0, none⟩ (by kernel_rfl) (by kernel_rfl) (by kernel_rfl) (hL0.gotC ({ c with opn := false }) _) (hL0.gotT (⟨tid, tlive, tgen, tdl, tper, tlast, tarmed, tbtw⟩) _)) rfl ?_
  rw [HV.out]
  exact ⟨rfl, hL.m, hL.chg⟩

set_option maxHeartbeats 4000000 in
set_option maxRecDepth 100000 in
theorem rlater_n1 (R : Rm) (c : Cl) (t : RT) (e : Ev) (bm : Nat) (vc vt : Value) (w : World) (HM : Hid (Blk w bm 91 (mcC R vc vt))) (k2 : (e.kind == 2) = false) (k3 : (c.bg.what != 7) = true) :
    Calls Try.prog 58 #[ptrV bm, clV c, rtV t, evV e] w (EndsR w bm vc vt (R, rlater R.now c t e)) := by
  obtain ⟨tid, tlive, tgen, tdl, tper, tlast, tarmed, tbtw⟩ := t
  try dsimp only at *
  have HV := hid (show (R, rlater R.now c ⟨tid, tlive, tgen, tdl, tper, tlast, tarmed, tbtw⟩ e) = (R, c, ⟨tid, tlive, tgen, tdl, tper, tlast, tarmed, tbtw⟩, false) by simp [rlater, k2, k3])
  have hlt := HM.out.lt
  go_enter Try.func58, Try.ntmps58
  go_wp2
  refine named (five w (clC' (c)) (rtC (⟨tid, tlive, tgen, tdl, tper, tlast, tarmed, tbtw⟩)) (evC e) clZ rtZ) (fun V hV => ?_)
  have hL : Loc w bm (mcC R vc vt) w.heap.size (clC' (c)) (rtC (⟨tid, tlive, tgen, tdl, tper, tlast, tarmed, tbtw⟩)) (evC e) none V := by rw [hV]; exact loc_five (HM.out) (Chg.refl _ _) rfl _ _ _
  clear hV
  replace hL := hL.drew
  refine wp_region_held_drew (by kernel_rfl) hL (fun _ => ?_)
  simp only [List.size_toArray, List.length_cons, List.length_nil, Nat.reduceAdd, Array.replicate_succ, Array.replicate_zero, List.push_toArray, List.nil_append, List.cons_append]
  refine tkC 0 hL ?_
  refine tkT 1 hL ?_
  have hL0 := hL
  refine Loc.putC 2 (c) (by kernel_rfl) rfl (by kernel_rfl) rfl (by kernel_rfl) (by kernel_rfl) hL ?_
  replace hL := hL.setC (xs := clC' (c)) rfl
  simp only [nA,nB,nC,Act.put,nD,nE,nF]
  refine Loc.putT 3 (⟨tid, tlive, tgen, tdl, tper, tlast, tarmed, tbtw⟩) (by kernel_rfl) rfl (by kernel_rfl) rfl (by kernel_rfl) (by kernel_rfl) hL ?_
  replace hL := hL.setT (xs := rtC (⟨tid, tlive, tgen, tdl, tper, tlast, tarmed, tbtw⟩)) rfl
  simp only [nA,nB,nC,Act.put,nD,nE,nF]
  refine held_put 4 (by kernel_rfl) rfl (by kernel_rfl) (fun W => by go_simp; try rfl) hL ?_
  simp only [nA,nB,nC,Act.put,nD,nE,nF]
  refine wpAnyH_done (by kernel_rfl) ?_ _
  go_wp2
  refine bodyPost_ret (v := .tuple #[clV (c), rtV (⟨tid, tlive, tgen, tdl, tper, tlast, tarmed, tbtw⟩), .bool (false)]) (results_loc (by kernel_rfl) _ _ (c) (⟨tid, tlive, tgen, tdl, tper, tlast, tarmed, tbtw⟩) (false) ⟨w.heap.size + 1 + 1 + 1, 0, none⟩ ⟨w.heap.size + 1 + 1 + 1 + 1, 0, none⟩ (by kernel_rfl) (by kernel_rfl) (by kernel_rfl) (hL0.gotC (c) _) (hL0.gotT (⟨tid, tlive, tgen, tdl, tper, tlast, tarmed, tbtw⟩) _)) rfl ?_
  rw [HV.out]
  exact ⟨rfl, hL.m, hL.chg⟩

set_option maxHeartbeats 4000000 in
set_option maxRecDepth 100000 in
theorem rlater_n2 (R : Rm) (c : Cl) (t : RT) (e : Ev) (bm : Nat) (vc vt : Value) (w : World) (HM : Hid (Blk w bm 91 (mcC R vc vt))) (k2 : (e.kind == 2) = false) (k3 : (c.bg.what != 7) = false) (k4 : (t.live) = false) :
    Calls Try.prog 58 #[ptrV bm, clV c, rtV t, evV e] w (EndsR w bm vc vt (R, rlater R.now c t e)) := by
  obtain ⟨tid, tlive, tgen, tdl, tper, tlast, tarmed, tbtw⟩ := t
  try dsimp only at *
  subst k4
  have HV := hid (show (R, rlater R.now c ⟨tid, false, tgen, tdl, tper, tlast, tarmed, tbtw⟩ e) = (R, c, ⟨tid, false, tgen, tdl, tper, tlast, tarmed, tbtw⟩, false) by simp [rlater, k2, k3])
  have hlt := HM.out.lt
  go_enter Try.func58, Try.ntmps58
  go_wp2
  refine named (five w (clC' (c)) (rtC (⟨tid, false, tgen, tdl, tper, tlast, tarmed, tbtw⟩)) (evC e) clZ rtZ) (fun V hV => ?_)
  have hL : Loc w bm (mcC R vc vt) w.heap.size (clC' (c)) (rtC (⟨tid, false, tgen, tdl, tper, tlast, tarmed, tbtw⟩)) (evC e) none V := by rw [hV]; exact loc_five (HM.out) (Chg.refl _ _) rfl _ _ _
  clear hV
  replace hL := hL.drew
  refine wp_region_held_drew (by kernel_rfl) hL (fun _ => ?_)
  simp only [List.size_toArray, List.length_cons, List.length_nil, Nat.reduceAdd, Array.replicate_succ, Array.replicate_zero, List.push_toArray, List.nil_append, List.cons_append]
  refine tkC 0 hL ?_
  refine tkT 1 hL ?_
  have hL0 := hL
  refine Loc.putC 2 (c) (by kernel_rfl) rfl (by kernel_rfl) rfl (by kernel_rfl) (by kernel_rfl) hL ?_
  replace hL := hL.setC (xs := clC' (c)) rfl
  simp only [nA,nB,nC,Act.put,nD,nE,nF]
  refine Loc.putT 3 (⟨tid, false, tgen, tdl, tper, tlast, tarmed, tbtw⟩) (by kernel_rfl) rfl (by kernel_rfl) rfl (by kernel_rfl) (by kernel_rfl) hL ?_
  replace hL := hL.setT (xs := rtC (⟨tid, false, tgen, tdl, tper, tlast, tarmed, tbtw⟩)) rfl
  simp only [nA,nB,nC,Act.put,nD,nE,nF]
  refine held_put 4 (by kernel_rfl) rfl (by kernel_rfl) (fun W => by go_simp; try rfl) hL ?_
  simp only [nA,nB,nC,Act.put,nD,nE,nF]
  refine wpAnyH_done (by kernel_rfl) ?_ _
  go_wp2
  refine bodyPost_ret (v := .tuple #[clV (c), rtV (⟨tid, false, tgen, tdl, tper, tlast, tarmed, tbtw⟩), .bool (false)]) (results_loc (by kernel_rfl) _ _ (c) (⟨tid, false, tgen, tdl, tper, tlast, tarmed, tbtw⟩) (false) ⟨w.heap.size + 1 + 1 + 1, 0, none⟩ ⟨w.heap.size + 1 + 1 + 1 + 1, 0, none⟩ (by kernel_rfl) (by kernel_rfl) (by kernel_rfl) (hL0.gotC (c) _) (hL0.gotT (⟨tid, false, tgen, tdl, tper, tlast, tarmed, tbtw⟩) _)) rfl ?_
  rw [HV.out]
  exact ⟨rfl, hL.m, hL.chg⟩

set_option maxHeartbeats 4000000 in
set_option maxRecDepth 100000 in
theorem rlater_4a (R : Rm) (c : Cl) (t : RT) (e : Ev) (bm : Nat) (vc vt : Value) (w : World) (HM : Hid (Blk w bm 91 (mcC R vc vt))) (k2 : (e.kind == 2) = false) (k3 : (c.bg.what != 7) = false) (k4 : (t.live) = true) (k5 : (e.kind == 4) = true) (x0 : (t.btw) = true) (x1 : (rfits t.dl t.per) = false) (hd : U64 t.dl) (hp : U64 t.per) :
    Calls Try.prog 58 #[ptrV bm, clV c, rtV t, evV e] w (EndsR w bm vc vt (R, rlater R.now c t e)) := by
  obtain ⟨tid, tlive, tgen, tdl, tper, tlast, tarmed, tbtw⟩ := t
  try dsimp only at *
  subst k4
  subst x0
  have HV := hid (show (R, rlater R.now c ⟨tid, true, tgen, tdl, tper, tlast, tarmed, true⟩ e) = (R, c, ⟨tid, true, tgen, tdl, tper, tlast, tarmed, true⟩, false) by simp [rlater, k2, k3, k5, x1])
  have hlt := HM.out.lt
  go_enter Try.func58, Try.ntmps58
  go_wp2
  refine named (five w (clC' (c)) (rtC (⟨tid, true, tgen, tdl, tper, tlast, tarmed, true⟩)) (evC e) clZ rtZ) (fun V hV => ?_)
  have hL : Loc w bm (mcC R vc vt) w.heap.size (clC' (c)) (rtC (⟨tid, true, tgen, tdl, tper, tlast, tarmed, true⟩)) (evC e) none V := by rw [hV]; exact loc_five (HM.out) (Chg.refl _ _) rfl _ _ _
  replace hL := hL.drew
  refine wp_region_held_drew (by kernel_rfl) hL (fun _ => ?_)
  simp only [List.size_toArray, List.length_cons, List.length_nil, Nat.reduceAdd, Array.replicate_succ, Array.replicate_zero, List.push_toArray, List.nil_append, List.cons_append]
  refine tp 0 hL ?_
  refine tq 1 hL (fun _ h => h.t.cell 2 rfl) ?_
  refine tp 2 hL ?_
  refine tq 3 hL (fun _ h => h.t.cell 3 rfl) ?_
  refine held_put 4 (by kernel_rfl) rfl (by kernel_rfl) (fun W => by go_simp; try rfl) hL ?_
  simp only [nA,nB,nC,Act.put,nD,nE,nF]
  refine held_put 5 (by kernel_rfl) rfl (by kernel_rfl) (fun W => by go_simp; try rfl) hL ?_
  simp only [nA,nB,nC,Act.put,nD,nE,nF]
  refine wpAnyH_done (by kernel_rfl) ?_ _
  clear hL
  rw [hV]
  clear hV
  simp only [five, drew_alloc, clC', rtC, evC, clZ, rtZ]
  obtain ⟨W1, hW⟩ : ∃ W, W = w.drew := ⟨_, rfl⟩
  have hMW1 : Hid (Blk W1 bm 91 (mcC R vc vt)) := by rw [hW]; exact hid (HM.out.drew)
  have hCW1 : Hid (Chg (· = bm) w W1) := by rw [hW]; exact hid (Chg.drew (Chg.refl _ _))
  have hSW1 : Hid (w.heap.size = W1.heap.size) := by rw [hW]; exact hid (rfl)
  have hz : w.heap.size = W1.heap.size := by rw [hW]; rfl
  rw [← hW, hz]
  clear hW hz
  go_wp2_with (go_at_call 69; refine (rfits_any _ _ _ hd hp).mono ?_; rintro x w' ⟨rfl, rfl⟩)
  refine named (five W1 (clC' (c)) (rtC (⟨tid, true, tgen, tdl, tper, tlast, tarmed, true⟩)) (evC e) clZ rtZ) (fun V hV => ?_)
  have hL : Loc w bm (mcC R vc vt) W1.heap.size (clC' (c)) (rtC (⟨tid, true, tgen, tdl, tper, tlast, tarmed, true⟩)) (evC e) none V := by rw [hV]; exact loc_five (hMW1.out) (hCW1.out) hSW1.out _ _ _
  clear hV
  replace hL := hL.drew
  refine wp_region_held_drew (by kernel_rfl) hL (fun _ => ?_)
  simp only [List.size_toArray, List.length_cons, List.length_nil, Nat.reduceAdd, Array.replicate_succ, Array.replicate_zero, List.push_toArray, List.nil_append, List.cons_append]
  refine tkC 0 hL ?_
  refine tkT 1 hL ?_
  have hL0 := hL
  refine Loc.putC 2 (c) (by kernel_rfl) rfl (by kernel_rfl) rfl (by kernel_rfl) (by kernel_rfl) hL ?_
  replace hL := hL.setC (xs := clC' (c)) rfl
  simp only [nA,nB,nC,Act.put,nD,nE,nF]
  refine Loc.putT 3 (⟨tid, true, tgen, tdl, tper, tlast, tarmed, true⟩) (by kernel_rfl) rfl (by kernel_rfl) rfl (by kernel_rfl) (by kernel_rfl) hL ?_
  replace hL := hL.setT (xs := rtC (⟨tid, true, tgen, tdl, tper, tlast, tarmed, true⟩)) rfl
  simp only [nA,nB,nC,Act.put,nD,nE,nF]
  refine held_put 4 (by kernel_rfl) rfl (by kernel_rfl) (fun W => by go_simp; try rfl) hL ?_
  simp only [nA,nB,nC,Act.put,nD,nE,nF]
  refine wpAnyH_done (by kernel_rfl) ?_ _
  go_wp2
  refine bodyPost_ret (v := .tuple #[clV (c), rtV (⟨tid, true, tgen, tdl, tper, tlast, tarmed, true⟩), .bool (false)]) (results_loc (by kernel_rfl) _ _ (c) (⟨tid, true, tgen, tdl, tper, tlast, tarmed, true⟩) (false) ⟨W1.heap.size + 1 + 1 + 1, 0, none⟩ ⟨W1.heap.size + 1 + 1 + 1 + 1, 0, none⟩ (by kernel_rfl) (by kernel_rfl) (by kernel_rfl) (hL0.gotC (c) _) (hL0.gotT (⟨tid, true, tgen, tdl, tper, tlast, tarmed, true⟩) _)) rfl ?_
  rw [HV.out]
  exact ⟨rfl, hL.m, hL.chg⟩

set_option maxHeartbeats 4000000 in
set_option maxRecDepth 100000 in
theorem rlater_4b (R : Rm) (c : Cl) (t : RT) (e : Ev) (bm : Nat) (vc vt : Value) (w : World) (HM : Hid (Blk w bm 91 (mcC R vc vt))) (k2 : (e.kind == 2) = false) (k3 : (c.bg.what != 7) = false) (k4 : (t.live) = true) (k5 : (e.kind == 4) = true) (x0 : (t.btw) = true) (x1 : (rfits t.dl t.per) = true) (x2 : (t.gen == u64top) = true) (hd : U64 t.dl) (hp : U64 t.per) :
    Calls Try.prog 58 #[ptrV bm, clV c, rtV t, evV e] w (EndsR w bm vc vt (R, rlater R.now c t e)) := by
  obtain ⟨tid, tlive, tgen, tdl, tper, tlast, tarmed, tbtw⟩ := t
  try dsimp only at *
  subst k4
  subst x0
  have HV := hid (show (R, rlater R.now c ⟨tid, true, tgen, tdl, tper, tlast, tarmed, true⟩ e) = (R, c, ⟨tid, true, tgen, tdl, tper, tlast, tarmed, true⟩, false) by simp [rlater, k2, k3, k5, x1, x2])
  have x2' : (tgen == 18446744073709551615) = true := x2
  have hlt := HM.out.lt
  go_enter Try.func58, Try.ntmps58
  go_wp2
  refine named (five w (clC' (c)) (rtC (⟨tid, true, tgen, tdl, tper, tlast, tarmed, true⟩)) (evC e) clZ rtZ) (fun V hV => ?_)
  have hL : Loc w bm (mcC R vc vt) w.heap.size (clC' (c)) (rtC (⟨tid, true, tgen, tdl, tper, tlast, tarmed, true⟩)) (evC e) none V := by rw [hV]; exact loc_five (HM.out) (Chg.refl _ _) rfl _ _ _
  replace hL := hL.drew
  refine wp_region_held_drew (by kernel_rfl) hL (fun _ => ?_)
  simp only [List.size_toArray, List.length_cons, List.length_nil, Nat.reduceAdd, Array.replicate_succ, Array.replicate_zero, List.push_toArray, List.nil_append, List.cons_append]
  refine tp 0 hL ?_
  refine tq 1 hL (fun _ h => h.t.cell 2 rfl) ?_
  refine tp 2 hL ?_
  refine tq 3 hL (fun _ h => h.t.cell 3 rfl) ?_
  refine held_put 4 (by kernel_rfl) rfl (by kernel_rfl) (fun W => by go_simp; try rfl) hL ?_
  simp only [nA,nB,nC,Act.put,nD,nE,nF]
  refine held_put 5 (by kernel_rfl) rfl (by kernel_rfl) (fun W => by go_simp; try rfl) hL ?_
  simp only [nA,nB,nC,Act.put,nD,nE,nF]
  refine wpAnyH_done (by kernel_rfl) ?_ _
  clear hL
  rw [hV]
  clear hV
  simp only [five, drew_alloc, clC', rtC, evC, clZ, rtZ]
  obtain ⟨W1, hW⟩ : ∃ W, W = w.drew := ⟨_, rfl⟩
  have hMW1 : Hid (Blk W1 bm 91 (mcC R vc vt)) := by rw [hW]; exact hid (HM.out.drew)
  have hCW1 : Hid (Chg (· = bm) w W1) := by rw [hW]; exact hid (Chg.drew (Chg.refl _ _))
  have hSW1 : Hid (w.heap.size = W1.heap.size) := by rw [hW]; exact hid (rfl)
  have hz : w.heap.size = W1.heap.size := by rw [hW]; rfl
  rw [← hW, hz]
  clear hW hz
  go_wp2_with (go_at_call 69; refine (rfits_any _ _ _ hd hp).mono ?_; rintro x w' ⟨rfl, rfl⟩)
  refine named (five W1 (clC' (c)) (rtC (⟨tid, true, tgen, tdl, tper, tlast, tarmed, true⟩)) (evC e) clZ rtZ) (fun V hV => ?_)
  have hL : Loc w bm (mcC R vc vt) W1.heap.size (clC' (c)) (rtC (⟨tid, true, tgen, tdl, tper, tlast, tarmed, true⟩)) (evC e) none V := by rw [hV]; exact loc_five (hMW1.out) (hCW1.out) hSW1.out _ _ _
  clear hV
  replace hL := hL.drew
  refine wp_region_held_drew (by kernel_rfl) hL (fun _ => ?_)
  simp only [List.size_toArray, List.length_cons, List.length_nil, Nat.reduceAdd, Array.replicate_succ, Array.replicate_zero, List.push_toArray, List.nil_append, List.cons_append]
  refine tkC 0 hL ?_
  refine tkT 1 hL ?_
  have hL0 := hL
  refine Loc.putC 2 (c) (by kernel_rfl) rfl (by kernel_rfl) rfl (by kernel_rfl) (by kernel_rfl) hL ?_
  replace hL := hL.setC (xs := clC' (c)) rfl
  simp only [nA,nB,nC,Act.put,nD,nE,nF]
  refine Loc.putT 3 (⟨tid, true, tgen, tdl, tper, tlast, tarmed, true⟩) (by kernel_rfl) rfl (by kernel_rfl) rfl (by kernel_rfl) (by kernel_rfl) hL ?_
  replace hL := hL.setT (xs := rtC (⟨tid, true, tgen, tdl, tper, tlast, tarmed, true⟩)) rfl
  simp only [nA,nB,nC,Act.put,nD,nE,nF]
  refine held_put 4 (by kernel_rfl) rfl (by kernel_rfl) (fun W => by go_simp; try rfl) hL ?_
  simp only [nA,nB,nC,Act.put,nD,nE,nF]
  refine wpAnyH_done (by kernel_rfl) ?_ _
  go_wp2
  refine bodyPost_ret (v := .tuple #[clV (c), rtV (⟨tid, true, tgen, tdl, tper, tlast, tarmed, true⟩), .bool (false)]) (results_loc (by kernel_rfl) _ _ (c) (⟨tid, true, tgen, tdl, tper, tlast, tarmed, true⟩) (false) ⟨W1.heap.size + 1 + 1 + 1, 0, none⟩ ⟨W1.heap.size + 1 + 1 + 1 + 1, 0, none⟩ (by kernel_rfl) (by kernel_rfl) (by kernel_rfl) (hL0.gotC (c) _) (hL0.gotT (⟨tid, true, tgen, tdl, tper, tlast, tarmed, true⟩) _)) rfl ?_
  rw [HV.out]
  exact ⟨rfl, hL.m, hL.chg⟩

set_option maxHeartbeats 4000000 in
set_option maxRecDepth 100000 in
theorem rlater_4c (R : Rm) (c : Cl) (t : RT) (e : Ev) (bm : Nat) (vc vt : Value) (w : World) (HM : Hid (Blk w bm 91 (mcC R vc vt))) (k2 : (e.kind == 2) = false) (k3 : (c.bg.what != 7) = false) (k4 : (t.live) = true) (k5 : (e.kind == 4) = true) (x0 : (t.btw) = true) (x1 : (rfits t.dl t.per) = true) (x2 : (t.gen == u64top) = false) (x3 : (e.gen == t.gen + 1) = false) (hd : U64 t.dl) (hp : U64 t.per) (hg : U64 t.gen) :
    Calls Try.prog 58 #[ptrV bm, clV c, rtV t, evV e] w (EndsR w bm vc vt (R, rlater R.now c t e)) := by
  obtain ⟨tid, tlive, tgen, tdl, tper, tlast, tarmed, tbtw⟩ := t
  try dsimp only at *
  subst k4
  subst x0
  have HV := hid (show (R, rlater R.now c ⟨tid, true, tgen, tdl, tper, tlast, tarmed, true⟩ e) = (R, c, ⟨tid, true, tgen + 1, tdl + tper, tper, tlast, true, false⟩, false) by simp [rlater, k2, k3, k5, x1, x2, x3])
  have x2' : (tgen == 18446744073709551615) = false := x2
  have y1 : 0 ≤ tgen := hg.1
  have y2 : tgen + 1 ≤ 18446744073709551615 := by have := hg.2; have h := x2'; rw [beq_eq_false_iff_ne] at h; omega
  have y3 : 0 ≤ tdl := hd.1
  have y4 : 0 ≤ tper := hp.1
  have y5 : tdl + tper ≤ 18446744073709551615 := by have h := x1; unfold rfits u64top at h; rw [decide_eq_true_eq] at h; omega
  have hlt := HM.out.lt
  go_enter Try.func58, Try.ntmps58
  go_wp2
  refine named (five w (clC' (c)) (rtC (⟨tid, true, tgen, tdl, tper, tlast, tarmed, true⟩)) (evC e) clZ rtZ) (fun V hV => ?_)
  have hL : Loc w bm (mcC R vc vt) w.heap.size (clC' (c)) (rtC (⟨tid, true, tgen, tdl, tper, tlast, tarmed, true⟩)) (evC e) none V := by rw [hV]; exact loc_five (HM.out) (Chg.refl _ _) rfl _ _ _
  replace hL := hL.drew
  refine wp_region_held_drew (by kernel_rfl) hL (fun _ => ?_)
  simp only [List.size_toArray, List.length_cons, List.length_nil, Nat.reduceAdd, Array.replicate_succ, Array.replicate_zero, List.push_toArray, List.nil_append, List.cons_append]
  refine tp 0 hL ?_
  refine tq 1 hL (fun _ h => h.t.cell 2 rfl) ?_
  refine tp 2 hL ?_
  refine tq 3 hL (fun _ h => h.t.cell 3 rfl) ?_
  refine held_put 4 (by kernel_rfl) rfl (by kernel_rfl) (fun W => by go_simp; try rfl) hL ?_
  simp only [nA,nB,nC,Act.put,nD,nE,nF]
  refine held_put 5 (by kernel_rfl) rfl (by kernel_rfl) (fun W => by go_simp; try rfl) hL ?_
  simp only [nA,nB,nC,Act.put,nD,nE,nF]
  refine wpAnyH_done (by kernel_rfl) ?_ _
  clear hL
  rw [hV]
  clear hV
  simp only [five, drew_alloc, clC', rtC, evC, clZ, rtZ]
  obtain ⟨W1, hW⟩ : ∃ W, W = w.drew := ⟨_, rfl⟩
  have hMW1 : Hid (Blk W1 bm 91 (mcC R vc vt)) := by rw [hW]; exact hid (HM.out.drew)
  have hCW1 : Hid (Chg (· = bm) w W1) := by rw [hW]; exact hid (Chg.drew (Chg.refl _ _))
  have hSW1 : Hid (w.heap.size = W1.heap.size) := by rw [hW]; exact hid (rfl)
  have hz : w.heap.size = W1.heap.size := by rw [hW]; rfl
  rw [← hW, hz]
  clear hW hz
  go_wp2_with (go_at_call 69; refine (rfits_any _ _ _ hd hp).mono ?_; rintro x w' ⟨rfl, rfl⟩)
  refine named (five W1 (clC' (c)) (rtC (⟨tid, true, tgen + 1, tdl + tper, tper, tlast, true, false⟩)) (evC e) clZ rtZ) (fun V hV => ?_)
  have hL : Loc w bm (mcC R vc vt) W1.heap.size (clC' (c)) (rtC (⟨tid, true, tgen + 1, tdl + tper, tper, tlast, true, false⟩)) (evC e) none V := by rw [hV]; exact loc_five (hMW1.out) (hCW1.out) hSW1.out _ _ _
  clear hV
  replace hL := hL.drew
  refine wp_region_held_drew (by kernel_rfl) hL (fun _ => ?_)
  simp only [List.size_toArray, List.length_cons, List.length_nil, Nat.reduceAdd, Array.replicate_succ, Array.replicate_zero, List.push_toArray, List.nil_append, List.cons_append]
  refine tkC 0 hL ?_
  refine tkT 1 hL ?_
  refine tp 2 hL ?_
  refine tq 3 hL (fun _ h => h.e.cell 5 rfl) ?_
  refine tp 4 hL ?_
  refine tp 5 hL ?_
  refine tp 6 hL ?_
  refine sp 7 hL ?_
  refine sp 8 hL ?_
  refine sp 9 hL ?_
  refine sp 10 hL ?_
  refine tp 11 hL ?_
  have hL0 := hL
  refine Loc.putC 12 (c) (by kernel_rfl) rfl (by kernel_rfl) rfl (by kernel_rfl) (by kernel_rfl) hL ?_
  replace hL := hL.setC (xs := clC' (c)) rfl
  simp only [nA,nB,nC,Act.put,nD,nE,nF]
  refine Loc.putT 13 (⟨tid, true, tgen + 1, tdl + tper, tper, tlast, true, false⟩) (by kernel_rfl) rfl (by kernel_rfl) rfl (by kernel_rfl) (by kernel_rfl) hL ?_
  replace hL := hL.setT (xs := rtC (⟨tid, true, tgen + 1, tdl + tper, tper, tlast, true, false⟩)) rfl
  simp only [nA,nB,nC,Act.put,nD,nE,nF]
  refine held_put 14 (by kernel_rfl) rfl (by kernel_rfl) (fun W => by go_simp; try rfl) hL ?_
  simp only [nA,nB,nC,Act.put,nD,nE,nF]
  refine wpAnyH_done (by kernel_rfl) ?_ _
  go_wp2
  refine bodyPost_ret (v := .tuple #[clV (c), rtV (⟨tid, true, tgen + 1, tdl + tper, tper, tlast, true, false⟩), .bool (false)]) (results_loc (by kernel_rfl) _ _ (c) (⟨tid, true, tgen + 1, tdl + tper, tper, tlast, true, false⟩) (false) ⟨W1.heap.size + 1 + 1 + 1, 0, none⟩ ⟨W1.heap.size + 1 + 1 + 1 + 1, 0, none⟩ (by kernel_rfl) (by kernel_rfl) (by kernel_rfl) (hL0.gotC (c) _) (hL0.gotT (⟨tid, true, tgen + 1, tdl + tper, tper, tlast, true, false⟩) _)) rfl ?_
  rw [HV.out]
  exact ⟨rfl, hL.m, hL.chg⟩

set_option maxHeartbeats 4000000 in
set_option maxRecDepth 100000 in
theorem rlater_4d (R : Rm) (c : Cl) (t : RT) (e : Ev) (bm : Nat) (vc vt : Value) (w : World) (HM : Hid (Blk w bm 91 (mcC R vc vt))) (k2 : (e.kind == 2) = false) (k3 : (c.bg.what != 7) = false) (k4 : (t.live) = true) (k5 : (e.kind == 4) = true) (x0 : (t.btw) = true) (x1 : (rfits t.dl t.per) = true) (x2 : (t.gen == u64top) = false) (x3 : (e.gen == t.gen + 1) = true) (hd : U64 t.dl) (hp : U64 t.per) (hg : U64 t.gen) :
    Calls Try.prog 58 #[ptrV bm, clV c, rtV t, evV e] w (EndsR w bm vc vt (R, rlater R.now c t e)) := by
  obtain ⟨tid, tlive, tgen, tdl, tper, tlast, tarmed, tbtw⟩ := t
  try dsimp only at *
  subst k4
  subst x0
  have HV := hid (show (R, rlater R.now c ⟨tid, true, tgen, tdl, tper, tlast, tarmed, true⟩ e) = (R, c, ⟨tid, true, tgen + 1, tdl + tper, tper, tlast, true, false⟩, e.dl == tdl + tper) by simp [rlater, k2, k3, k5, x1, x2, x3])
  have x2' : (tgen == 18446744073709551615) = false := x2
  have y1 : 0 ≤ tgen := hg.1
  have y2 : tgen + 1 ≤ 18446744073709551615 := by have := hg.2; have h := x2'; rw [beq_eq_false_iff_ne] at h; omega
  have y3 : 0 ≤ tdl := hd.1
  have y4 : 0 ≤ tper := hp.1
  have y5 : tdl + tper ≤ 18446744073709551615 := by have h := x1; unfold rfits u64top at h; rw [decide_eq_true_eq] at h; omega
  have hlt := HM.out.lt
  go_enter Try.func58, Try.ntmps58
  go_wp2
  refine named (five w (clC' (c)) (rtC (⟨tid, true, tgen, tdl, tper, tlast, tarmed, true⟩)) (evC e) clZ rtZ) (fun V hV => ?_)
  have hL : Loc w bm (mcC R vc vt) w.heap.size (clC' (c)) (rtC (⟨tid, true, tgen, tdl, tper, tlast, tarmed, true⟩)) (evC e) none V := by rw [hV]; exact loc_five (HM.out) (Chg.refl _ _) rfl _ _ _
  replace hL := hL.drew
  refine wp_region_held_drew (by kernel_rfl) hL (fun _ => ?_)
  simp only [List.size_toArray, List.length_cons, List.length_nil, Nat.reduceAdd, Array.replicate_succ, Array.replicate_zero, List.push_toArray, List.nil_append, List.cons_append]
  refine tp 0 hL ?_
  refine tq 1 hL (fun _ h => h.t.cell 2 rfl) ?_
  refine tp 2 hL ?_
  refine tq 3 hL (fun _ h => h.t.cell 3 rfl) ?_
  refine held_put 4 (by kernel_rfl) rfl (by kernel_rfl) (fun W => by go_simp; try rfl) hL ?_
  simp only [nA,nB,nC,Act.put,nD,nE,nF]
  refine held_put 5 (by kernel_rfl) rfl (by kernel_rfl) (fun W => by go_simp; try rfl) hL ?_
  simp only [nA,nB,nC,Act.put,nD,nE,nF]
  refine wpAnyH_done (by kernel_rfl) ?_ _
  clear hL
  rw [hV]
  clear hV
  simp only [five, drew_alloc, clC', rtC, evC, clZ, rtZ]
  obtain ⟨W1, hW⟩ : ∃ W, W = w.drew := ⟨_, rfl⟩
  have hMW1 : Hid (Blk W1 bm 91 (mcC R vc vt)) := by rw [hW]; exact hid (HM.out.drew)
  have hCW1 : Hid (Chg (· = bm) w W1) := by rw [hW]; exact hid (Chg.drew (Chg.refl _ _))
  have hSW1 : Hid (w.heap.size = W1.heap.size) := by rw [hW]; exact hid (rfl)
  have hz : w.heap.size = W1.heap.size := by rw [hW]; rfl
  rw [← hW, hz]
  clear hW hz
  go_wp2_with (go_at_call 69; refine (rfits_any _ _ _ hd hp).mono ?_; rintro x w' ⟨rfl, rfl⟩)
  refine named (five W1 (clC' (c)) (rtC (⟨tid, true, tgen + 1, tdl + tper, tper, tlast, true, false⟩)) (evC e) clZ rtZ) (fun V hV => ?_)
  have hL : Loc w bm (mcC R vc vt) W1.heap.size (clC' (c)) (rtC (⟨tid, true, tgen + 1, tdl + tper, tper, tlast, true, false⟩)) (evC e) none V := by rw [hV]; exact loc_five (hMW1.out) (hCW1.out) hSW1.out _ _ _
  clear hV
  replace hL := hL.drew
  refine wp_region_held_drew (by kernel_rfl) hL (fun _ => ?_)
  simp only [List.size_toArray, List.length_cons, List.length_nil, Nat.reduceAdd, Array.replicate_succ, Array.replicate_zero, List.push_toArray, List.nil_append, List.cons_append]
  refine tkC 0 hL ?_
  refine tkT 1 hL ?_
  refine tp 2 hL ?_
  refine tq 3 hL (fun _ h => h.e.cell 5 rfl) ?_
  refine tp 4 hL ?_
  refine tp 5 hL ?_
  refine tp 6 hL ?_
  refine tp 7 hL ?_
  refine tq 8 hL (fun _ h => h.e.cell 6 rfl) ?_
  refine tp 9 hL ?_
  refine tp 10 hL ?_
  refine tp 11 hL ?_
  have hL0 := hL
  refine Loc.putC 12 (c) (by kernel_rfl) rfl (by kernel_rfl) rfl (by kernel_rfl) (by kernel_rfl) hL ?_
  replace hL := hL.setC (xs := clC' (c)) rfl
  simp only [nA,nB,nC,Act.put,nD,nE,nF]
  refine Loc.putT 13 (⟨tid, true, tgen + 1, tdl + tper, tper, tlast, true, false⟩) (by kernel_rfl) rfl (by kernel_rfl) rfl (by kernel_rfl) (by kernel_rfl) hL ?_
  replace hL := hL.setT (xs := rtC (⟨tid, true, tgen + 1, tdl + tper, tper, tlast, true, false⟩)) rfl
  simp only [nA,nB,nC,Act.put,nD,nE,nF]
  refine held_put 14 (by kernel_rfl) rfl (by kernel_rfl) (fun W => by go_simp; try rfl) hL ?_
  simp only [nA,nB,nC,Act.put,nD,nE,nF]
  refine wpAnyH_done (by kernel_rfl) ?_ _
  go_wp2
  refine bodyPost_ret (v := .tuple #[clV (c), rtV (⟨tid, true, tgen + 1, tdl + tper, tper, tlast, true, false⟩), .bool (e.dl == tdl + tper)]) (results_loc (by kernel_rfl) _ _ (c) (⟨tid, true, tgen + 1, tdl + tper, tper, tlast, true, false⟩) (e.dl == tdl + tper) ⟨W1.heap.size + 1 + 1 + 1, 0, none⟩ ⟨W1.heap.size + 1 + 1 + 1 + 1, 0, none⟩ (by kernel_rfl) (by kernel_rfl) (by kernel_rfl) (hL0.gotC (c) _) (hL0.gotT (⟨tid, true, tgen + 1, tdl + tper, tper, tlast, true, false⟩) _)) rfl ?_
  rw [HV.out]
  exact ⟨rfl, hL.m, hL.chg⟩
end Go.Proofs.Ytpnkkdpggofanaa
