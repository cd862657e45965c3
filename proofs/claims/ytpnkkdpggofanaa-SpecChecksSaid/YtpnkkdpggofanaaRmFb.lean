/- The document's machine: first by its walk, part 2. -/
import Derived.Test.YtpnkkdpggofanaaRmR
import Derived.Test.YtpnkkdpggofanaaRmB
namespace Go.Proofs.Ytpnkkdpggofanaa
open Go.RowKit

set_option maxHeartbeats 4000000 in
set_option maxRecDepth 100000 in
theorem rfirst_70 (R : Rm) (c : Cl) (t : RT) (e : Ev) (bm : Nat) (vc vt : Value) (w : World) (HM : Hid (Blk w bm 91 (mcC R vc vt))) (k3 : (e.kind == 3) = false) (k11 : (e.kind == 11) = false) (k6 : (e.kind == 6) = false) (k7 : (e.kind == 7) = true) (x1 : (c.bg.what == 4) = false) :
    Calls Try.prog 59 #[ptrV bm, clV c, rtV t, evV e] w (EndsR w bm vc vt (rfirst R c t e)) := by
  obtain ⟨tid, tlive, tgen, tdl, tper, tlast, tarmed, tbtw⟩ := t
  try dsimp only at *
  have HV := hid (show (rfirst R c ⟨tid, tlive, tgen, tdl, tper, tlast, tarmed, tbtw⟩ e) = (R, rdone c e, ⟨tid, false, tgen, tdl, tper, tlast, tarmed, tbtw⟩, false) by simp [rfirst, k3, k11, k6, k7, x1])
  have hlt := HM.out.lt
  go_enter Try.func59, Try.ntmps59
  go_wp2
  refine named ((five w (clC' (c)) (rtC (⟨tid, false, tgen, tdl, tper, tlast, tarmed, tbtw⟩)) (evC e) clZ rtZ).alloc (.cells (evC c.bg).toArray 31)) (fun V hV => ?_)
  have hL : Loc w bm (mcC R vc vt) w.heap.size (clC' (c)) (rtC (⟨tid, false, tgen, tdl, tper, tlast, tarmed, tbtw⟩)) (evC e) (some (evC c.bg)) V := by rw [hV]; exact (loc_five (HM.out) (Chg.refl _ _) rfl _ _ _).six (evC c.bg) (five_size _ _ _ _ _ _)
  clear hV
  replace hL := hL.drew
  refine wp_region_held_drew (by kernel_rfl) hL (fun _ => ?_)
  simp only [List.size_toArray, List.length_cons, List.length_nil, Nat.reduceAdd, Array.replicate_succ, Array.replicate_zero, List.push_toArray, List.nil_append, List.cons_append]
  refine tkC 0 hL ?_
  refine tkE 1 hL ?_
  refine tkT 3 hL ?_
  refine tp 4 hL ?_
  refine wpAnyH_ready (rs := [2]) (by kernel_rfl) (by simp) (AllReadyH.cons rfl (fun K hK => ?_) AllReadyH.nil)
  rw [if_pos (by kernel_rfl)]
  go_simp
  refine (rdone_any _ _ _).mono ?_
  rintro x W9 ⟨rfl, hb9⟩
  go_simp
  replace hL := hL.below hb9
  clear hb9
  refine hK.out _ _ hL (fun _ => ?_)
  clear hK K
  simp only [nD,nE,nF]
  have hL0 := hL
  refine Loc.putC 5 (rdone c e) (by kernel_rfl) rfl (by kernel_rfl) rfl (by kernel_rfl) (by kernel_rfl) hL ?_
  replace hL := hL.setC (xs := clC' (rdone c e)) rfl
  simp only [nA,nB,nC,Act.put,nD,nE,nF]
  refine Loc.putT 6 (⟨tid, false, tgen, tdl, tper, tlast, tarmed, tbtw⟩) (by kernel_rfl) rfl (by kernel_rfl) rfl (by kernel_rfl) (by kernel_rfl) hL ?_
  replace hL := hL.setT (xs := rtC (⟨tid, false, tgen, tdl, tper, tlast, tarmed, tbtw⟩)) rfl
  simp only [nA,nB,nC,Act.put,nD,nE,nF]
  refine held_put 7 (by kernel_rfl) rfl (by kernel_rfl) (fun W => by go_simp; try rfl) hL ?_
  simp only [nA,nB,nC,Act.put,nD,nE,nF]
  refine wpAnyH_done (by kernel_rfl) ?_ _
  go_wp2
  refine bodyPost_ret (v := .tuple #[clV (rdone c e), rtV (⟨tid, false, tgen, tdl, tper, tlast, tarmed, tbtw⟩), .bool (false)]) (results_loc (by kernel_rfl) _ _ (rdone c e) (⟨tid, false, tgen, tdl, tper, tlast, tarmed, tbtw⟩) (false) ⟨w.heap.size + 1 + 1 + 1, 0, none⟩ ⟨w.heap.size + 1 + 1 + 1 + 1, 0, none⟩ (by kernel_rfl) (by kernel_rfl) (by kernel_rfl) (hL0.gotC (rdone c e) _) (hL0.gotT (⟨tid, false, tgen, tdl, tper, tlast, tarmed, tbtw⟩) _)) rfl ?_
  rw [HV.out]
  exact ⟨rfl, hL.m, hL.chg⟩

set_option maxHeartbeats 4000000 in
set_option maxRecDepth 100000 in
theorem rfirst_71 (R : Rm) (c : Cl) (t : RT) (e : Ev) (bm : Nat) (vc vt : Value) (w : World) (HM : Hid (Blk w bm 91 (mcC R vc vt))) (k3 : (e.kind == 3) = false) (k11 : (e.kind == 11) = false) (k6 : (e.kind == 6) = false) (k7 : (e.kind == 7) = true) (x1 : (c.bg.what == 4) = true) (x2 : (t.live) = false) :
    Calls Try.prog 59 #[ptrV bm, clV c, rtV t, evV e] w (EndsR w bm vc vt (rfirst R c t e)) := by
  obtain ⟨tid, tlive, tgen, tdl, tper, tlast, tarmed, tbtw⟩ := t
  try dsimp only at *
  subst x2
  have HV := hid (show (rfirst R c ⟨tid, false, tgen, tdl, tper, tlast, tarmed, tbtw⟩ e) = (R, rdone c e, ⟨tid, false, tgen, tdl, tper, tlast, tarmed, tbtw⟩, false) by simp [rfirst, k3, k11, k6, k7, x1])
  have hlt := HM.out.lt
  go_enter Try.func59, Try.ntmps59
  go_wp2
  refine named ((five w (clC' (c)) (rtC (⟨tid, false, tgen, tdl, tper, tlast, tarmed, tbtw⟩)) (evC e) clZ rtZ).alloc (.cells (evC c.bg).toArray 31)) (fun V hV => ?_)
  have hL : Loc w bm (mcC R vc vt) w.heap.size (clC' (c)) (rtC (⟨tid, false, tgen, tdl, tper, tlast, tarmed, tbtw⟩)) (evC e) (some (evC c.bg)) V := by rw [hV]; exact (loc_five (HM.out) (Chg.refl _ _) rfl _ _ _).six (evC c.bg) (five_size _ _ _ _ _ _)
  clear hV
  replace hL := hL.drew
  refine wp_region_held_drew (by kernel_rfl) hL (fun _ => ?_)
  simp only [List.size_toArray, List.length_cons, List.length_nil, Nat.reduceAdd, Array.replicate_succ, Array.replicate_zero, List.push_toArray, List.nil_append, List.cons_append]
  refine tkC 0 hL ?_
  refine tkE 1 hL ?_
  refine tkT 3 hL ?_
  refine tp 4 hL ?_
  refine wpAnyH_ready (rs := [2]) (by kernel_rfl) (by simp) (AllReadyH.cons rfl (fun K hK => ?_) AllReadyH.nil)
  rw [if_pos (by kernel_rfl)]
  go_simp
  refine (rdone_any _ _ _).mono ?_
  rintro x W9 ⟨rfl, hb9⟩
  go_simp
  replace hL := hL.below hb9
  clear hb9
  refine hK.out _ _ hL (fun _ => ?_)
  clear hK K
  simp only [nD,nE,nF]
  have hL0 := hL
  refine Loc.putC 5 (rdone c e) (by kernel_rfl) rfl (by kernel_rfl) rfl (by kernel_rfl) (by kernel_rfl) hL ?_
  replace hL := hL.setC (xs := clC' (rdone c e)) rfl
  simp only [nA,nB,nC,Act.put,nD,nE,nF]
  refine Loc.putT 6 (⟨tid, false, tgen, tdl, tper, tlast, tarmed, tbtw⟩) (by kernel_rfl) rfl (by kernel_rfl) rfl (by kernel_rfl) (by kernel_rfl) hL ?_
  replace hL := hL.setT (xs := rtC (⟨tid, false, tgen, tdl, tper, tlast, tarmed, tbtw⟩)) rfl
  simp only [nA,nB,nC,Act.put,nD,nE,nF]
  refine held_put 7 (by kernel_rfl) rfl (by kernel_rfl) (fun W => by go_simp; try rfl) hL ?_
  simp only [nA,nB,nC,Act.put,nD,nE,nF]
  refine wpAnyH_done (by kernel_rfl) ?_ _
  go_wp2
  refine bodyPost_ret (v := .tuple #[clV (rdone c e), rtV (⟨tid, false, tgen, tdl, tper, tlast, tarmed, tbtw⟩), .bool (false)]) (results_loc (by kernel_rfl) _ _ (rdone c e) (⟨tid, false, tgen, tdl, tper, tlast, tarmed, tbtw⟩) (false) ⟨w.heap.size + 1 + 1 + 1, 0, none⟩ ⟨w.heap.size + 1 + 1 + 1 + 1, 0, none⟩ (by kernel_rfl) (by kernel_rfl) (by kernel_rfl) (hL0.gotC (rdone c e) _) (hL0.gotT (⟨tid, false, tgen, tdl, tper, tlast, tarmed, tbtw⟩) _)) rfl ?_
  rw [HV.out]
  exact ⟨rfl, hL.m, hL.chg⟩

set_option maxHeartbeats 4000000 in
set_option maxRecDepth 100000 in
theorem rfirst_72 (R : Rm) (c : Cl) (t : RT) (e : Ev) (bm : Nat) (vc vt : Value) (w : World) (HM : Hid (Blk w bm 91 (mcC R vc vt))) (k3 : (e.kind == 3) = false) (k11 : (e.kind == 11) = false) (k6 : (e.kind == 6) = false) (k7 : (e.kind == 7) = true) (x1 : (c.bg.what == 4) = true) (x2 : (t.live) = true) (x3 : (e.id == c.bg.id) = false) :
    Calls Try.prog 59 #[ptrV bm, clV c, rtV t, evV e] w (EndsR w bm vc vt (rfirst R c t e)) := by
  obtain ⟨tid, tlive, tgen, tdl, tper, tlast, tarmed, tbtw⟩ := t
  try dsimp only at *
  subst x2
  have HV := hid (show (rfirst R c ⟨tid, true, tgen, tdl, tper, tlast, tarmed, tbtw⟩ e) = (R, rdone c e, ⟨tid, false, tgen, tdl, tper, tlast, tarmed, tbtw⟩, false) by simp [rfirst, k3, k11, k6, k7, x1, x3])
  have hlt := HM.out.lt
  go_enter Try.func59, Try.ntmps59
  go_wp2
  refine named ((five w (clC' (c)) (rtC (⟨tid, false, tgen, tdl, tper, tlast, tarmed, tbtw⟩)) (evC e) clZ rtZ).alloc (.cells (evC c.bg).toArray 31)) (fun V hV => ?_)
  have hL : Loc w bm (mcC R vc vt) w.heap.size (clC' (c)) (rtC (⟨tid, false, tgen, tdl, tper, tlast, tarmed, tbtw⟩)) (evC e) (some (evC c.bg)) V := by rw [hV]; exact (loc_five (HM.out) (Chg.refl _ _) rfl _ _ _).six (evC c.bg) (five_size _ _ _ _ _ _)
  clear hV
  replace hL := hL.drew
  refine wp_region_held_drew (by kernel_rfl) hL (fun _ => ?_)
  simp only [List.size_toArray, List.length_cons, List.length_nil, Nat.reduceAdd, Array.replicate_succ, Array.replicate_zero, List.push_toArray, List.nil_append, List.cons_append]
  refine tkC 0 hL ?_
  refine tkE 1 hL ?_
  refine tkT 3 hL ?_
  refine tp 4 hL ?_
  refine wpAnyH_ready (rs := [2]) (by kernel_rfl) (by simp) (AllReadyH.cons rfl (fun K hK => ?_) AllReadyH.nil)
  rw [if_pos (by kernel_rfl)]
  go_simp
  refine (rdone_any _ _ _).mono ?_
  rintro x W9 ⟨rfl, hb9⟩
  go_simp
  replace hL := hL.below hb9
  clear hb9
  refine hK.out _ _ hL (fun _ => ?_)
  clear hK K
  simp only [nD,nE,nF]
  have hL0 := hL
  refine Loc.putC 5 (rdone c e) (by kernel_rfl) rfl (by kernel_rfl) rfl (by kernel_rfl) (by kernel_rfl) hL ?_
  replace hL := hL.setC (xs := clC' (rdone c e)) rfl
  simp only [nA,nB,nC,Act.put,nD,nE,nF]
  refine Loc.putT 6 (⟨tid, false, tgen, tdl, tper, tlast, tarmed, tbtw⟩) (by kernel_rfl) rfl (by kernel_rfl) rfl (by kernel_rfl) (by kernel_rfl) hL ?_
  replace hL := hL.setT (xs := rtC (⟨tid, false, tgen, tdl, tper, tlast, tarmed, tbtw⟩)) rfl
  simp only [nA,nB,nC,Act.put,nD,nE,nF]
  refine held_put 7 (by kernel_rfl) rfl (by kernel_rfl) (fun W => by go_simp; try rfl) hL ?_
  simp only [nA,nB,nC,Act.put,nD,nE,nF]
  refine wpAnyH_done (by kernel_rfl) ?_ _
  go_wp2
  refine bodyPost_ret (v := .tuple #[clV (rdone c e), rtV (⟨tid, false, tgen, tdl, tper, tlast, tarmed, tbtw⟩), .bool (false)]) (results_loc (by kernel_rfl) _ _ (rdone c e) (⟨tid, false, tgen, tdl, tper, tlast, tarmed, tbtw⟩) (false) ⟨w.heap.size + 1 + 1 + 1, 0, none⟩ ⟨w.heap.size + 1 + 1 + 1 + 1, 0, none⟩ (by kernel_rfl) (by kernel_rfl) (by kernel_rfl) (hL0.gotC (rdone c e) _) (hL0.gotT (⟨tid, false, tgen, tdl, tper, tlast, tarmed, tbtw⟩) _)) rfl ?_
  rw [HV.out]
  exact ⟨rfl, hL.m, hL.chg⟩

set_option maxHeartbeats 4000000 in
set_option maxRecDepth 100000 in
theorem rfirst_73 (R : Rm) (c : Cl) (t : RT) (e : Ev) (bm : Nat) (vc vt : Value) (w : World) (HM : Hid (Blk w bm 91 (mcC R vc vt))) (k3 : (e.kind == 3) = false) (k11 : (e.kind == 11) = false) (k6 : (e.kind == 6) = false) (k7 : (e.kind == 7) = true) (x1 : (c.bg.what == 4) = true) (x2 : (t.live) = true) (x3 : (e.id == c.bg.id) = true) (x4 : (t.btw) = false) (x6 : (e.gen == t.gen) = false) :
    Calls Try.prog 59 #[ptrV bm, clV c, rtV t, evV e] w (EndsR w bm vc vt (rfirst R c t e)) := by
  obtain ⟨tid, tlive, tgen, tdl, tper, tlast, tarmed, tbtw⟩ := t
  try dsimp only at *
  subst x2
  subst x4
  have HV := hid (show (rfirst R c ⟨tid, true, tgen, tdl, tper, tlast, tarmed, false⟩ e) = (R, rdone c e, ⟨tid, false, tgen, tdl, tper, tlast, tarmed, false⟩, false) by simp [rfirst, k3, k11, k6, k7, x1, x3, x6])
  have hlt := HM.out.lt
  go_enter Try.func59, Try.ntmps59
  go_wp2
  refine named ((five w (clC' (c)) (rtC (⟨tid, false, tgen, tdl, tper, tlast, tarmed, false⟩)) (evC e) clZ rtZ).alloc (.cells (evC c.bg).toArray 31)) (fun V hV => ?_)
  have hL : Loc w bm (mcC R vc vt) w.heap.size (clC' (c)) (rtC (⟨tid, false, tgen, tdl, tper, tlast, tarmed, false⟩)) (evC e) (some (evC c.bg)) V := by rw [hV]; exact (loc_five (HM.out) (Chg.refl _ _) rfl _ _ _).six (evC c.bg) (five_size _ _ _ _ _ _)
  clear hV
  replace hL := hL.drew
  refine wp_region_held_drew (by kernel_rfl) hL (fun _ => ?_)
  simp only [List.size_toArray, List.length_cons, List.length_nil, Nat.reduceAdd, Array.replicate_succ, Array.replicate_zero, List.push_toArray, List.nil_append, List.cons_append]
  refine tkC 0 hL ?_
  refine tkE 1 hL ?_
  refine tkT 3 hL ?_
  refine tp 4 hL ?_
  refine wpAnyH_ready (rs := [2]) (by kernel_rfl) (by simp) (AllReadyH.cons rfl (fun K hK => ?_) AllReadyH.nil)
  rw [if_pos (by kernel_rfl)]
  go_simp
  refine (rdone_any _ _ _).mono ?_
  rintro x W9 ⟨rfl, hb9⟩
  go_simp
  replace hL := hL.below hb9
  clear hb9
  refine hK.out _ _ hL (fun _ => ?_)
  clear hK K
  simp only [nD,nE,nF]
  have hL0 := hL
  refine Loc.putC 5 (rdone c e) (by kernel_rfl) rfl (by kernel_rfl) rfl (by kernel_rfl) (by kernel_rfl) hL ?_
  replace hL := hL.setC (xs := clC' (rdone c e)) rfl
  simp only [nA,nB,nC,Act.put,nD,nE,nF]
  refine Loc.putT 6 (⟨tid, false, tgen, tdl, tper, tlast, tarmed, false⟩) (by kernel_rfl) rfl (by kernel_rfl) rfl (by kernel_rfl) (by kernel_rfl) hL ?_
  replace hL := hL.setT (xs := rtC (⟨tid, false, tgen, tdl, tper, tlast, tarmed, false⟩)) rfl
  simp only [nA,nB,nC,Act.put,nD,nE,nF]
  refine held_put 7 (by kernel_rfl) rfl (by kernel_rfl) (fun W => by go_simp; try rfl) hL ?_
  simp only [nA,nB,nC,Act.put,nD,nE,nF]
  refine wpAnyH_done (by kernel_rfl) ?_ _
  go_wp2
  refine bodyPost_ret (v := .tuple #[clV (rdone c e), rtV (⟨tid, false, tgen, tdl, tper, tlast, tarmed, false⟩), .bool (false)]) (results_loc (by kernel_rfl) _ _ (rdone c e) (⟨tid, false, tgen, tdl, tper, tlast, tarmed, false⟩) (false) ⟨w.heap.size + 1 + 1 + 1, 0, none⟩ ⟨w.heap.size + 1 + 1 + 1 + 1, 0, none⟩ (by kernel_rfl) (by kernel_rfl) (by kernel_rfl) (hL0.gotC (rdone c e) _) (hL0.gotT (⟨tid, false, tgen, tdl, tper, tlast, tarmed, false⟩) _)) rfl ?_
  rw [HV.out]
  exact ⟨rfl, hL.m, hL.chg⟩

set_option maxHeartbeats 4000000 in
set_option maxRecDepth 100000 in
theorem rfirst_76 (R : Rm) (c : Cl) (t : RT) (e : Ev) (bm : Nat) (vc vt : Value) (w : World) (HM : Hid (Blk w bm 91 (mcC R vc vt))) (k3 : (e.kind == 3) = false) (k11 : (e.kind == 11) = false) (k6 : (e.kind == 6) = false) (k7 : (e.kind == 7) = true) (x1 : (c.bg.what == 4) = true) (x2 : (t.live) = true) (x3 : (e.id == c.bg.id) = true) (x4 : (t.btw) = false) (x6 : (e.gen == t.gen) = true) :
    Calls Try.prog 59 #[ptrV bm, clV c, rtV t, evV e] w (EndsR w bm vc vt (rfirst R c t e)) := by
  obtain ⟨tid, tlive, tgen, tdl, tper, tlast, tarmed, tbtw⟩ := t
  try dsimp only at *
  subst x2
  subst x4
  have HV := hid (show (rfirst R c ⟨tid, true, tgen, tdl, tper, tlast, tarmed, false⟩ e) = (R, rdone c e, ⟨tid, false, tgen, tdl, tper, tlast, tarmed, false⟩, true) by simp [rfirst, k3, k11, k6, k7, x1, x3, x6])
  have hlt := HM.out.lt
  go_enter Try.func59, Try.ntmps59
  go_wp2
  refine named ((five w (clC' (c)) (rtC (⟨tid, false, tgen, tdl, tper, tlast, tarmed, false⟩)) (evC e) clZ rtZ).alloc (.cells (evC c.bg).toArray 31)) (fun V hV => ?_)
  have hL : Loc w bm (mcC R vc vt) w.heap.size (clC' (c)) (rtC (⟨tid, false, tgen, tdl, tper, tlast, tarmed, false⟩)) (evC e) (some (evC c.bg)) V := by rw [hV]; exact (loc_five (HM.out) (Chg.refl _ _) rfl _ _ _).six (evC c.bg) (five_size _ _ _ _ _ _)
  clear hV
  replace hL := hL.drew
  refine wp_region_held_drew (by kernel_rfl) hL (fun _ => ?_)
  simp only [List.size_toArray, List.length_cons, List.length_nil, Nat.reduceAdd, Array.replicate_succ, Array.replicate_zero, List.push_toArray, List.nil_append, List.cons_append]
  refine tkC 0 hL ?_
  refine tkE 1 hL ?_
  refine tkT 3 hL ?_
  refine tp 4 hL ?_
  refine wpAnyH_ready (rs := [2]) (by kernel_rfl) (by simp) (AllReadyH.cons rfl (fun K hK => ?_) AllReadyH.nil)
  rw [if_pos (by kernel_rfl)]
  go_simp
  refine (rdone_any _ _ _).mono ?_
  rintro x W9 ⟨rfl, hb9⟩
  go_simp
  replace hL := hL.below hb9
  clear hb9
  refine hK.out _ _ hL (fun _ => ?_)
  clear hK K
  simp only [nD,nE,nF]
  have hL0 := hL
  refine Loc.putC 5 (rdone c e) (by kernel_rfl) rfl (by kernel_rfl) rfl (by kernel_rfl) (by kernel_rfl) hL ?_
  replace hL := hL.setC (xs := clC' (rdone c e)) rfl
  simp only [nA,nB,nC,Act.put,nD,nE,nF]
  refine Loc.putT 6 (⟨tid, false, tgen, tdl, tper, tlast, tarmed, false⟩) (by kernel_rfl) rfl (by kernel_rfl) rfl (by kernel_rfl) (by kernel_rfl) hL ?_
  replace hL := hL.setT (xs := rtC (⟨tid, false, tgen, tdl, tper, tlast, tarmed, false⟩)) rfl
  simp only [nA,nB,nC,Act.put,nD,nE,nF]
  refine held_put 7 (by kernel_rfl) rfl (by kernel_rfl) (fun W => by go_simp; try rfl) hL ?_
  simp only [nA,nB,nC,Act.put,nD,nE,nF]
  refine wpAnyH_done (by kernel_rfl) ?_ _
  go_wp2
  refine bodyPost_ret (v := .tuple #[clV (rdone c e), rtV (⟨tid, false, tgen, tdl, tper, tlast, tarmed, false⟩), .bool (true)]) (results_loc (by kernel_rfl) _ _ (rdone c e) (⟨tid, false, tgen, tdl, tper, tlast, tarmed, false⟩) (true) ⟨w.heap.size + 1 + 1 + 1, 0, none⟩ ⟨w.heap.size + 1 + 1 + 1 + 1, 0, none⟩ (by kernel_rfl) (by kernel_rfl) (by kernel_rfl) (hL0.gotC (rdone c e) _) (hL0.gotT (⟨tid, false, tgen, tdl, tper, tlast, tarmed, false⟩) _)) rfl ?_
  rw [HV.out]
  exact ⟨rfl, hL.m, hL.chg⟩

set_option maxHeartbeats 4000000 in
set_option maxRecDepth 100000 in
theorem rfirst_74 (R : Rm) (c : Cl) (t : RT) (e : Ev) (bm : Nat) (vc vt : Value) (w : World) (HM : Hid (Blk w bm 91 (mcC R vc vt))) (k3 : (e.kind == 3) = false) (k11 : (e.kind == 11) = false) (k6 : (e.kind == 6) = false) (k7 : (e.kind == 7) = true) (x1 : (c.bg.what == 4) = true) (x2 : (t.live) = true) (x3 : (e.id == c.bg.id) = true) (x4 : (t.btw) = true) (x5 : (decide (t.gen < u64top)) = false) :
    Calls Try.prog 59 #[ptrV bm, clV c, rtV t, evV e] w (EndsR w bm vc vt (rfirst R c t e)) := by
  obtain ⟨tid, tlive, tgen, tdl, tper, tlast, tarmed, tbtw⟩ := t
  try dsimp only at *
  subst x2
  subst x4
  have HV := hid (show (rfirst R c ⟨tid, true, tgen, tdl, tper, tlast, tarmed, true⟩ e) = (R, rdone c e, ⟨tid, false, tgen, tdl, tper, tlast, tarmed, true⟩, false) by simp [rfirst, k3, k11, k6, k7, x1, x3, x5])
  have up : decide (tgen < 18446744073709551615) = false := x5
  have hlt := HM.out.lt
  go_enter Try.func59, Try.ntmps59
  go_wp2
  refine named ((five w (clC' (c)) (rtC (⟨tid, false, tgen, tdl, tper, tlast, tarmed, true⟩)) (evC e) clZ rtZ).alloc (.cells (evC c.bg).toArray 31)) (fun V hV => ?_)
  have hL : Loc w bm (mcC R vc vt) w.heap.size (clC' (c)) (rtC (⟨tid, false, tgen, tdl, tper, tlast, tarmed, true⟩)) (evC e) (some (evC c.bg)) V := by rw [hV]; exact (loc_five (HM.out) (Chg.refl _ _) rfl _ _ _).six (evC c.bg) (five_size _ _ _ _ _ _)
  clear hV
  replace hL := hL.drew
  refine wp_region_held_drew (by kernel_rfl) hL (fun _ => ?_)
  simp only [List.size_toArray, List.length_cons, List.length_nil, Nat.reduceAdd, Array.replicate_succ, Array.replicate_zero, List.push_toArray, List.nil_append, List.cons_append]
  refine tkC 0 hL ?_
  refine tkE 1 hL ?_
  refine tkT 3 hL ?_
  refine tp 4 hL ?_
  refine wpAnyH_ready (rs := [2]) (by kernel_rfl) (by simp) (AllReadyH.cons rfl (fun K hK => ?_) AllReadyH.nil)
  rw [if_pos (by kernel_rfl)]
  go_simp
  refine (rdone_any _ _ _).mono ?_
  rintro x W9 ⟨rfl, hb9⟩
  go_simp
  replace hL := hL.below hb9
  clear hb9
  refine hK.out _ _ hL (fun _ => ?_)
  clear hK K
  simp only [nD,nE,nF]
  have hL0 := hL
  refine Loc.putC 5 (rdone c e) (by kernel_rfl) rfl (by kernel_rfl) rfl (by kernel_rfl) (by kernel_rfl) hL ?_
  replace hL := hL.setC (xs := clC' (rdone c e)) rfl
  simp only [nA,nB,nC,Act.put,nD,nE,nF]
  refine Loc.putT 6 (⟨tid, false, tgen, tdl, tper, tlast, tarmed, true⟩) (by kernel_rfl) rfl (by kernel_rfl) rfl (by kernel_rfl) (by kernel_rfl) hL ?_
  replace hL := hL.setT (xs := rtC (⟨tid, false, tgen, tdl, tper, tlast, tarmed, true⟩)) rfl
  simp only [nA,nB,nC,Act.put,nD,nE,nF]
  refine held_put 7 (by kernel_rfl) rfl (by kernel_rfl) (fun W => by go_simp; try rfl) hL ?_
  simp only [nA,nB,nC,Act.put,nD,nE,nF]
  refine wpAnyH_done (by kernel_rfl) ?_ _
  go_wp2
  refine bodyPost_ret (v := .tuple #[clV (rdone c e), rtV (⟨tid, false, tgen, tdl, tper, tlast, tarmed, true⟩), .bool (false)]) (results_loc (by kernel_rfl) _ _ (rdone c e) (⟨tid, false, tgen, tdl, tper, tlast, tarmed, true⟩) (false) ⟨w.heap.size + 1 + 1 + 1, 0, none⟩ ⟨w.heap.size + 1 + 1 + 1 + 1, 0, none⟩ (by kernel_rfl) (by kernel_rfl) (by kernel_rfl) (hL0.gotC (rdone c e) _) (hL0.gotT (⟨tid, false, tgen, tdl, tper, tlast, tarmed, true⟩) _)) rfl ?_
  rw [HV.out]
  exact ⟨rfl, hL.m, hL.chg⟩

set_option maxHeartbeats 4000000 in
set_option maxRecDepth 100000 in
theorem rfirst_75 (R : Rm) (c : Cl) (t : RT) (e : Ev) (bm : Nat) (vc vt : Value) (w : World) (HM : Hid (Blk w bm 91 (mcC R vc vt))) (k3 : (e.kind == 3) = false) (k11 : (e.kind == 11) = false) (k6 : (e.kind == 6) = false) (k7 : (e.kind == 7) = true) (x1 : (c.bg.what == 4) = true) (x2 : (t.live) = true) (x3 : (e.id == c.bg.id) = true) (x4 : (t.btw) = true) (x5 : (decide (t.gen < u64top)) = true) (hg : U64 t.gen) :
    Calls Try.prog 59 #[ptrV bm, clV c, rtV t, evV e] w (EndsR w bm vc vt (rfirst R c t e)) := by
  obtain ⟨tid, tlive, tgen, tdl, tper, tlast, tarmed, tbtw⟩ := t
  try dsimp only at *
  subst x2
  subst x4
  have HV := hid (show (rfirst R c ⟨tid, true, tgen, tdl, tper, tlast, tarmed, true⟩ e) = (R, rdone c e, ⟨tid, false, tgen, tdl, tper, tlast, tarmed, true⟩, e.gen == tgen + 1) by simp [rfirst, k3, k11, k6, k7, x1, x3, x5])
  have up : decide (tgen < 18446744073709551615) = true := x5
  have uq : tgen + 1 ≤ 18446744073709551615 := by have h := up; rw [decide_eq_true_eq] at h; omega
  have tz : 0 ≤ tgen := hg.1
  have hlt := HM.out.lt
  go_enter Try.func59, Try.ntmps59
  go_wp2
  refine named ((five w (clC' (c)) (rtC (⟨tid, false, tgen, tdl, tper, tlast, tarmed, true⟩)) (evC e) clZ rtZ).alloc (.cells (evC c.bg).toArray 31)) (fun V hV => ?_)
  have hL : Loc w bm (mcC R vc vt) w.heap.size (clC' (c)) (rtC (⟨tid, false, tgen, tdl, tper, tlast, tarmed, true⟩)) (evC e) (some (evC c.bg)) V := by rw [hV]; exact (loc_five (HM.out) (Chg.refl _ _) rfl _ _ _).six (evC c.bg) (five_size _ _ _ _ _ _)
  clear hV
  replace hL := hL.drew
  refine wp_region_held_drew (by kernel_rfl) hL (fun _ => ?_)
  simp only [List.size_toArray, List.length_cons, List.length_nil, Nat.reduceAdd, Array.replicate_succ, Array.replicate_zero, List.push_toArray, List.nil_append, List.cons_append]
  refine tkC 0 hL ?_
  refine tkE 1 hL ?_
  refine tkT 3 hL ?_
  refine tp 4 hL ?_
  refine wpAnyH_ready (rs := [2]) (by kernel_rfl) (by simp) (AllReadyH.cons rfl (fun K hK => ?_) AllReadyH.nil)
  rw [if_pos (by kernel_rfl)]
  go_simp
  refine (rdone_any _ _ _).mono ?_
  rintro x W9 ⟨rfl, hb9⟩
  go_simp
  replace hL := hL.below hb9
  clear hb9
  refine hK.out _ _ hL (fun _ => ?_)
  clear hK K
  simp only [nD,nE,nF]
  have hL0 := hL
  refine Loc.putC 5 (rdone c e) (by kernel_rfl) rfl (by kernel_rfl) rfl (by kernel_rfl) (by kernel_rfl) hL ?_
  replace hL := hL.setC (xs := clC' (rdone c e)) rfl
  simp only [nA,nB,nC,Act.put,nD,nE,nF]
  refine Loc.putT 6 (⟨tid, false, tgen, tdl, tper, tlast, tarmed, true⟩) (by kernel_rfl) rfl (by kernel_rfl) rfl (by kernel_rfl) (by kernel_rfl) hL ?_
  replace hL := hL.setT (xs := rtC (⟨tid, false, tgen, tdl, tper, tlast, tarmed, true⟩)) rfl
  simp only [nA,nB,nC,Act.put,nD,nE,nF]
  refine held_put 7 (by kernel_rfl) rfl (by kernel_rfl) (fun W => by go_simp; try rfl) hL ?_
  simp only [nA,nB,nC,Act.put,nD,nE,nF]
  refine wpAnyH_done (by kernel_rfl) ?_ _
  go_wp2
  refine bodyPost_ret (v := .tuple #[clV (rdone c e), rtV (⟨tid, false, tgen, tdl, tper, tlast, tarmed, true⟩), .bool (e.gen == tgen + 1)]) (results_loc (by kernel_rfl) _ _ (rdone c e) (⟨tid, false, tgen, tdl, tper, tlast, tarmed, true⟩) (e.gen == tgen + 1) ⟨w.heap.size + 1 + 1 + 1, 0, none⟩ ⟨w.heap.size + 1 + 1 + 1 + 1, 0, none⟩ (by kernel_rfl) (by kernel_rfl) (by kernel_rfl) (hL0.gotC (rdone c e) _) (hL0.gotT (⟨tid, false, tgen, tdl, tper, tlast, tarmed, true⟩) _)) rfl ?_
  rw [HV.out]
  exact ⟨rfl, hL.m, hL.chg⟩
end Go.Proofs.Ytpnkkdpggofanaa
