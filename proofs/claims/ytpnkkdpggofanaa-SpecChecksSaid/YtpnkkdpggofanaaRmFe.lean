/- The document's machine: first by its walk, part 5. -/
import Derived.Test.YtpnkkdpggofanaaRmR
import Derived.Test.YtpnkkdpggofanaaRmB
namespace Go.Proofs.Ytpnkkdpggofanaa
open Go.RowKit

set_option maxHeartbeats 4000000 in
set_option maxRecDepth 100000 in
theorem rfirst_3b0 (R : Rm) (c : Cl) (t : RT) (e : Ev) (bm : Nat) (vc vt : Value) (w : World) (HM : Hid (Blk w bm 91 (mcC R vc vt))) (k3 : (e.kind == 3) = true) (w1 : (c.bg.what == 1) = false) (w2 : (c.bg.what == 2) = true) (x0 : (decide (c.bg.per > 0)) = true) (x1 : (rfits c.bg.dl c.bg.per) = true) (x2 : (R.ended) = true) (_HT : Hid (∀ W, Chg (· = bm) w W → Reads W vt R.tms.length (R.tms.flatMap rtC))) (_HN : Hid (rlives R.tms).Nodup) (_hn : R.tms.length ≤ 1000000) (hd : U64 c.bg.dl) (hp : U64 c.bg.per) :
    Calls Try.prog 59 #[ptrV bm, clV c, rtV t, evV e] w (EndsR w bm vc vt (rfirst R c t e)) := by
  obtain ⟨tid, tlive, tgen, tdl, tper, tlast, tarmed, tbtw⟩ := t
  try dsimp only at *
  have HV := hid (show (rfirst R c ⟨tid, tlive, tgen, tdl, tper, tlast, tarmed, tbtw⟩ e) = (R, rdone c e, ⟨e.id, true, e.gen, c.bg.dl, c.bg.per, false, false, false⟩, false) by simp [rfirst, k3, w1, w2, x0, x1, x2, rper])
  have hlt := HM.out.lt
  go_enter Try.func59, Try.ntmps59
  go_wp2
  refine named ((five w (clC' (c)) (rtC (⟨tid, tlive, tgen, tdl, tper, tlast, tarmed, tbtw⟩)) (evC e) clZ rtZ).alloc (.cells (evC c.bg).toArray 31)) (fun V hV => ?_)
  have hL : Loc w bm (mcC R vc vt) w.heap.size (clC' (c)) (rtC (⟨tid, tlive, tgen, tdl, tper, tlast, tarmed, tbtw⟩)) (evC e) (some (evC c.bg)) V := by rw [hV]; exact (loc_five (HM.out) (Chg.refl _ _) rfl _ _ _).six (evC c.bg) (five_size _ _ _ _ _ _)
  clear hV
  replace hL := hL.drew
  refine wp_region_held_drew (by kernel_rfl) hL (fun _ => ?_)
  simp only [List.size_toArray, List.length_cons, List.length_nil, Nat.reduceAdd, Array.replicate_succ, Array.replicate_zero, List.push_toArray, List.nil_append, List.cons_append]
  refine tp 0 hL ?_
  refine tq 1 hL (fun _ h => (h.b _ rfl).cell 3 rfl) ?_
  refine tp 2 hL ?_
  refine tp 3 hL ?_
  refine tp 4 hL ?_
  refine tq 5 hL (fun _ h => (h.b _ rfl).cell 3 rfl) ?_
  refine tp 6 hL ?_
  refine tp 7 hL ?_
  refine tp 8 hL ?_
  refine tp 9 hL ?_
  refine tp 10 hL ?_
  refine tp 11 hL ?_
  refine tp 12 hL ?_
  refine tq 13 hL (fun _ h => (h.b _ rfl).cell 6 rfl) ?_
  refine tp 14 hL ?_
  refine wpAnyH_ready (rs := [15]) (by kernel_rfl) (by simp) (AllReadyH.cons rfl (fun K hK => ?_) AllReadyH.nil)
  rw [if_pos (by kernel_rfl)]
  go_simp
  refine (rfits_any _ _ _ hd hp).mono ?_
  rintro x w' ⟨rfl, rfl⟩
  go_simp
  refine hK.out _ _ hL (fun _ => ?_)
  clear hK K
  simp only [nD,nE,nF]
  refine tp 16 hL ?_
  refine tp 17 hL ?_
  refine tp 18 hL ?_
  refine tp 19 hL ?_
  refine tp 20 hL ?_
  refine tp 21 hL ?_
  refine tq 22 hL (fun _ h => h.m.cell 3 rfl) ?_
  refine tp 23 hL ?_
  refine tp 24 hL ?_
  refine tp 25 hL ?_
  refine sp 26 hL ?_
  refine sp 27 hL ?_
  refine sp 28 hL ?_
  refine sp 29 hL ?_
  refine sp 30 hL ?_
  refine tp 31 hL ?_
  refine tp 32 hL ?_
  refine sp 33 hL ?_
  refine sp 34 hL ?_
  refine sp 35 hL ?_
  refine sp 36 hL ?_
  refine sp 37 hL ?_
  refine sp 38 hL ?_
  refine sp 39 hL ?_
  refine sp 40 hL ?_
  refine tp 41 hL ?_
  refine held_put 42 (by kernel_rfl) rfl (by kernel_rfl) (fun W => by go_simp; try rfl) hL ?_
  simp only [nA,nB,nC,Act.put,nD,nE,nF]
  refine wpAnyH_done (by kernel_rfl) ?_ _
  obtain ⟨V5, hV5⟩ : ∃ V5, V5 = V.drew := ⟨_, rfl⟩
  rw [← hV5] at hL ⊢
  clear hV5
  have ce4 := hL.e.cell 4 rfl
  have ze4 := hL.e.frozen 4
  have ce5 := hL.e.cell 5 rfl
  have ze5 := hL.e.frozen 5
  have ct0 := hL.t.cell 0 rfl
  have zt0 := hL.t.frozen 0
  have ct1 := hL.t.cell 1 rfl
  have zt1 := hL.t.frozen 1
  have ct2 := hL.t.cell 2 rfl
  have zt2 := hL.t.frozen 2
  have ct3 := hL.t.cell 3 rfl
  have zt3 := hL.t.frozen 3
  have ct4 := hL.t.cell 4 rfl
  have zt4 := hL.t.frozen 4
  have ct5 := hL.t.cell 5 rfl
  have zt5 := hL.t.frozen 5
  have ct6 := hL.t.cell 6 rfl
  have zt6 := hL.t.frozen 6
  have ct7 := hL.t.cell 7 rfl
  have zt7 := hL.t.frozen 7
  have cb6 := (hL.b _ rfl).cell 6 rfl
  have HL := hid hL
  clear hL
  go_wp2
  refine named _ (fun V6 hV6 => ?_)
  have hL : Loc w bm (mcC R vc vt) w.heap.size (clC' c) (rtC ⟨e.id, true, e.gen, c.bg.dl, c.bg.per, false, false, false⟩) (evC e) (some (evC c.bg)) V6 := by rw [hV6]; exact (((((((HL.out.setU 0 _).setU 1 _).setU 2 _).setU 3 _).setU 4 _).setU 5 _).setU 6 _).setU 7 _
  clear hV6 HL ce4 ce5 ze4 ze5 cb6 ct0 zt0 ct1 zt1 ct2 zt2 ct3 zt3 ct4 zt4 ct5 zt5 ct6 zt6 ct7 zt7
  replace hL := hL.drew
  refine wp_region_held_drew (by kernel_rfl) hL (fun _ => ?_)
  simp only [List.size_toArray, List.length_cons, List.length_nil, Nat.reduceAdd, Array.replicate_succ, Array.replicate_zero, List.push_toArray, List.nil_append, List.cons_append]
  refine tkC 0 hL ?_
  refine tkE 1 hL ?_
  refine tkT 3 hL ?_
  refine tp 4 hL ?_
  refine wpAnyH_ready (rs := [2]) (by kernel_rfl) (by simp) (AllReadyH.cons rfl (fun K hK => ?_) AllReadyH.nil)
  rw [if_pos (by kernel_rfl)]
  go_simp
  refine (rdone_any _ _ _).mono ?_
  rintro x W9 ⟨rfl, hb9⟩
  go_simp
  replace hL := hL.below hb9
  clear hb9
  refine hK.out _ _ hL (fun _ => ?_)
  clear hK K
  simp only [nD,nE,nF]
  refine tp 5 hL ?_
  refine sp 6 hL ?_
  refine sp 7 hL ?_
  refine sp 8 hL ?_
  refine sp 9 hL ?_
  refine sp 10 hL ?_
  refine tp 11 hL ?_
  refine tp 12 hL ?_
  refine sp 13 hL ?_
  refine sp 14 hL ?_
  refine sp 15 hL ?_
  refine sp 16 hL ?_
  refine tp 17 hL ?_
  have hL0 := hL
  refine Loc.putC 18 (rdone c e) (by kernel_rfl) rfl (by kernel_rfl) rfl (by kernel_rfl) (by kernel_rfl) hL ?_
  replace hL := hL.setC (xs := clC' (rdone c e)) rfl
  simp only [nA,nB,nC,Act.put,nD,nE,nF]
  refine Loc.putT 19 (⟨e.id, true, e.gen, c.bg.dl, c.bg.per, false, false, false⟩) (by kernel_rfl) rfl (by kernel_rfl) rfl (by kernel_rfl) (by kernel_rfl) hL ?_
  replace hL := hL.setT (xs := rtC (⟨e.id, true, e.gen, c.bg.dl, c.bg.per, false, false, false⟩)) rfl
  simp only [nA,nB,nC,Act.put,nD,nE,nF]
  refine held_put 20 (by kernel_rfl) rfl (by kernel_rfl) (fun W => by go_simp; try rfl) hL ?_
  simp only [nA,nB,nC,Act.put,nD,nE,nF]
  refine wpAnyH_done (by kernel_rfl) ?_ _
  go_wp2
  refine bodyPost_ret (v := .tuple #[clV (rdone c e), rtV (⟨e.id, true, e.gen, c.bg.dl, c.bg.per, false, false, false⟩), .bool (false)]) (results_loc (by kernel_rfl) _ _ (rdone c e) (⟨e.id, true, e.gen, c.bg.dl, c.bg.per, false, false, false⟩) (false) ⟨w.heap.size + 1 + 1 + 1, 0, none⟩ ⟨w.heap.size + 1 + 1 + 1 + 1, 0, none⟩ (by kernel_rfl) (by kernel_rfl) (by kernel_rfl) (hL0.gotC (rdone c e) _) (hL0.gotT (⟨e.id, true, e.gen, c.bg.dl, c.bg.per, false, false, false⟩) _)) rfl ?_
  rw [HV.out]
  exact ⟨rfl, hL.m, hL.chg⟩

set_option maxHeartbeats 4000000 in
set_option maxRecDepth 100000 in
theorem rfirst_3b1 (R : Rm) (c : Cl) (t : RT) (e : Ev) (bm : Nat) (vc vt : Value) (w : World) (HM : Hid (Blk w bm 91 (mcC R vc vt))) (k3 : (e.kind == 3) = true) (w1 : (c.bg.what == 1) = false) (w2 : (c.bg.what == 2) = true) (x0 : (decide (c.bg.per > 0)) = true) (x1 : (rfits c.bg.dl c.bg.per) = true) (x2 : (R.ended) = false) (x3 : (decide (rfindI R.tms e.id < 0)) = false) (HT : Hid (∀ W, Chg (· = bm) w W → Reads W vt R.tms.length (R.tms.flatMap rtC))) (_HN : Hid (rlives R.tms).Nodup) (hn : R.tms.length ≤ 1000000) (hd : U64 c.bg.dl) (hp : U64 c.bg.per) :
    Calls Try.prog 59 #[ptrV bm, clV c, rtV t, evV e] w (EndsR w bm vc vt (rfirst R c t e)) := by
  obtain ⟨tid, tlive, tgen, tdl, tper, tlast, tarmed, tbtw⟩ := t
  try dsimp only at *
  have HV := hid (show (rfirst R c ⟨tid, tlive, tgen, tdl, tper, tlast, tarmed, tbtw⟩ e) = (R, rdone c e, ⟨e.id, true, e.gen, c.bg.dl, c.bg.per, false, false, false⟩, false) by simp [rfirst, k3, w1, w2, x0, x1, x2, x3, rper])
  have hlt := HM.out.lt
  go_enter Try.func59, Try.ntmps59
  go_wp2
  refine named ((five w (clC' (c)) (rtC (⟨tid, tlive, tgen, tdl, tper, tlast, tarmed, tbtw⟩)) (evC e) clZ rtZ).alloc (.cells (evC c.bg).toArray 31)) (fun V hV => ?_)
  have hL : Loc w bm (mcC R vc vt) w.heap.size (clC' (c)) (rtC (⟨tid, tlive, tgen, tdl, tper, tlast, tarmed, tbtw⟩)) (evC e) (some (evC c.bg)) V := by rw [hV]; exact (loc_five (HM.out) (Chg.refl _ _) rfl _ _ _).six (evC c.bg) (five_size _ _ _ _ _ _)
  clear hV
  replace hL := hL.drew
  refine wp_region_held_drew (by kernel_rfl) hL (fun _ => ?_)
  simp only [List.size_toArray, List.length_cons, List.length_nil, Nat.reduceAdd, Array.replicate_succ, Array.replicate_zero, List.push_toArray, List.nil_append, List.cons_append]
  refine tp 0 hL ?_
  refine tq 1 hL (fun _ h => (h.b _ rfl).cell 3 rfl) ?_
  refine tp 2 hL ?_
  refine tp 3 hL ?_
  refine tp 4 hL ?_
  refine tq 5 hL (fun _ h => (h.b _ rfl).cell 3 rfl) ?_
  refine tp 6 hL ?_
  refine tp 7 hL ?_
  refine tp 8 hL ?_
  refine tp 9 hL ?_
  refine tp 10 hL ?_
  refine tp 11 hL ?_
  refine tp 12 hL ?_
  refine tq 13 hL (fun _ h => (h.b _ rfl).cell 6 rfl) ?_
  refine tp 14 hL ?_
  refine wpAnyH_ready (rs := [15]) (by kernel_rfl) (by simp) (AllReadyH.cons rfl (fun K hK => ?_) AllReadyH.nil)
  rw [if_pos (by kernel_rfl)]
  go_simp
  refine (rfits_any _ _ _ hd hp).mono ?_
  rintro x w' ⟨rfl, rfl⟩
  go_simp
  refine hK.out _ _ hL (fun _ => ?_)
  clear hK K
  simp only [nD,nE,nF]
  refine tp 16 hL ?_
  refine tp 17 hL ?_
  refine tp 18 hL ?_
  refine tp 19 hL ?_
  refine tp 20 hL ?_
  refine tp 21 hL ?_
  refine tq 22 hL (fun _ h => h.m.cell 3 rfl) ?_
  refine tp 23 hL ?_
  refine tp 24 hL ?_
  refine tp 25 hL ?_
  refine tp 26 hL ?_
  refine tp 27 hL ?_
  refine tq 28 hL (fun _ h => h.e.cell 4 rfl) ?_
  refine wpAnyH_ready (rs := [29]) (by kernel_rfl) (by simp) (AllReadyH.cons rfl (fun K hK => ?_) AllReadyH.nil)
  rw [if_pos (by kernel_rfl)]
  go_simp
  refine (rfind_any R.tms e.id bm vt _ (hL.m.cell 6 rfl) (HT.out _ hL.chg) hn).mono ?_
  rintro x w' ⟨rfl, rfl⟩
  go_simp
  refine hK.out _ _ hL (fun _ => ?_)
  clear hK K
  simp only [nD,nE,nF]
  refine tp 30 hL ?_
  refine tp 31 hL ?_
  refine tp 32 hL ?_
  refine sp 33 hL ?_
  refine sp 34 hL ?_
  refine sp 35 hL ?_
  refine sp 36 hL ?_
  refine sp 37 hL ?_
  refine sp 38 hL ?_
  refine sp 39 hL ?_
  refine sp 40 hL ?_
  refine tp 41 hL ?_
  refine held_put 42 (by kernel_rfl) rfl (by kernel_rfl) (fun W => by go_simp; try rfl) hL ?_
  simp only [nA,nB,nC,Act.put,nD,nE,nF]
  refine wpAnyH_done (by kernel_rfl) ?_ _
  obtain ⟨V5, hV5⟩ : ∃ V5, V5 = V.drew := ⟨_, rfl⟩
  rw [← hV5] at hL ⊢
  clear hV5
  have ce4 := hL.e.cell 4 rfl
  have ze4 := hL.e.frozen 4
  have ce5 := hL.e.cell 5 rfl
  have ze5 := hL.e.frozen 5
  have ct0 := hL.t.cell 0 rfl
  have zt0 := hL.t.frozen 0
  have ct1 := hL.t.cell 1 rfl
  have zt1 := hL.t.frozen 1
  have ct2 := hL.t.cell 2 rfl
  have zt2 := hL.t.frozen 2
  have ct3 := hL.t.cell 3 rfl
  have zt3 := hL.t.frozen 3
  have ct4 := hL.t.cell 4 rfl
  have zt4 := hL.t.frozen 4
  have ct5 := hL.t.cell 5 rfl
  have zt5 := hL.t.frozen 5
  have ct6 := hL.t.cell 6 rfl
  have zt6 := hL.t.frozen 6
  have ct7 := hL.t.cell 7 rfl
  have zt7 := hL.t.frozen 7
  have cb6 := (hL.b _ rfl).cell 6 rfl
  have HL := hid hL
  clear hL
  go_wp2
  refine named _ (fun V6 hV6 => ?_)
  have hL : Loc w bm (mcC R vc vt) w.heap.size (clC' c) (rtC ⟨e.id, true, e.gen, c.bg.dl, c.bg.per, false, false, false⟩) (evC e) (some (evC c.bg)) V6 := by rw [hV6]; exact (((((((HL.out.setU 0 _).setU 1 _).setU 2 _).setU 3 _).setU 4 _).setU 5 _).setU 6 _).setU 7 _
  clear hV6 HL ce4 ce5 ze4 ze5 cb6 ct0 zt0 ct1 zt1 ct2 zt2 ct3 zt3 ct4 zt4 ct5 zt5 ct6 zt6 ct7 zt7
  replace hL := hL.drew
  refine wp_region_held_drew (by kernel_rfl) hL (fun _ => ?_)
  simp only [List.size_toArray, List.length_cons, List.length_nil, Nat.reduceAdd, Array.replicate_succ, Array.replicate_zero, List.push_toArray, List.nil_append, List.cons_append]
  refine tkC 0 hL ?_
  refine tkE 1 hL ?_
  refine tkT 3 hL ?_
  refine tp 4 hL ?_
  refine wpAnyH_ready (rs := [2]) (by kernel_rfl) (by simp) (AllReadyH.cons rfl (fun K hK => ?_) AllReadyH.nil)
  rw [if_pos (by kernel_rfl)]
  go_simp
  refine (rdone_any _ _ _).mono ?_
  rintro x W9 ⟨rfl, hb9⟩
  go_simp
  replace hL := hL.below hb9
  clear hb9
  refine hK.out _ _ hL (fun _ => ?_)
  clear hK K
  simp only [nD,nE,nF]
  refine tp 5 hL ?_
  refine sp 6 hL ?_
  refine sp 7 hL ?_
  refine sp 8 hL ?_
  refine sp 9 hL ?_
  refine sp 10 hL ?_
  refine tp 11 hL ?_
  refine tp 12 hL ?_
  refine sp 13 hL ?_
  refine sp 14 hL ?_
  refine sp 15 hL ?_
  refine sp 16 hL ?_
  refine tp 17 hL ?_
  have hL0 := hL
  refine Loc.putC 18 (rdone c e) (by kernel_rfl) rfl (by kernel_rfl) rfl (by kernel_rfl) (by kernel_rfl) hL ?_
  replace hL := hL.setC (xs := clC' (rdone c e)) rfl
  simp only [nA,nB,nC,Act.put,nD,nE,nF]
  refine Loc.putT 19 (⟨e.id, true, e.gen, c.bg.dl, c.bg.per, false, false, false⟩) (by kernel_rfl) rfl (by kernel_rfl) rfl (by kernel_rfl) (by kernel_rfl) hL ?_
  replace hL := hL.setT (xs := rtC (⟨e.id, true, e.gen, c.bg.dl, c.bg.per, false, false, false⟩)) rfl
  simp only [nA,nB,nC,Act.put,nD,nE,nF]
  refine held_put 20 (by kernel_rfl) rfl (by kernel_rfl) (fun W => by go_simp; try rfl) hL ?_
  simp only [nA,nB,nC,Act.put,nD,nE,nF]
  refine wpAnyH_done (by kernel_rfl) ?_ _
  go_wp2
  refine bodyPost_ret (v := .tuple #[clV (rdone c e), rtV (⟨e.id, true, e.gen, c.bg.dl, c.bg.per, false, false, false⟩), .bool (false)]) (results_loc (by kernel_rfl) _ _ (rdone c e) (⟨e.id, true, e.gen, c.bg.dl, c.bg.per, false, false, false⟩) (false) ⟨w.heap.size + 1 + 1 + 1, 0, none⟩ ⟨w.heap.size + 1 + 1 + 1 + 1, 0, none⟩ (by kernel_rfl) (by kernel_rfl) (by kernel_rfl) (hL0.gotC (rdone c e) _) (hL0.gotT (⟨e.id, true, e.gen, c.bg.dl, c.bg.per, false, false, false⟩) _)) rfl ?_
  rw [HV.out]
  exact ⟨rfl, hL.m, hL.chg⟩

set_option maxHeartbeats 4000000 in
set_option maxRecDepth 100000 in
theorem rfirst_3b2 (R : Rm) (c : Cl) (t : RT) (e : Ev) (bm : Nat) (vc vt : Value) (w : World) (HM : Hid (Blk w bm 91 (mcC R vc vt))) (k3 : (e.kind == 3) = true) (w1 : (c.bg.what == 1) = false) (w2 : (c.bg.what == 2) = true) (x0 : (decide (c.bg.per > 0)) = true) (x1 : (rfits c.bg.dl c.bg.per) = true) (x2 : (R.ended) = false) (x3 : (decide (rfindI R.tms e.id < 0)) = true) (x4 : (decide (((rlives R.tms).length : Int) < R.room)) = false) (HT : Hid (∀ W, Chg (· = bm) w W → Reads W vt R.tms.length (R.tms.flatMap rtC))) (HN : Hid (rlives R.tms).Nodup) (hn : R.tms.length ≤ 1000000) (hd : U64 c.bg.dl) (hp : U64 c.bg.per) :
    Calls Try.prog 59 #[ptrV bm, clV c, rtV t, evV e] w (EndsR w bm vc vt (rfirst R c t e)) := by
  obtain ⟨tid, tlive, tgen, tdl, tper, tlast, tarmed, tbtw⟩ := t
  try dsimp only at *
  have HV := hid (show (rfirst R c ⟨tid, tlive, tgen, tdl, tper, tlast, tarmed, tbtw⟩ e) = (R, rdone c e, ⟨e.id, true, e.gen, c.bg.dl, c.bg.per, false, false, false⟩, false) by simp [rfirst, k3, w1, w2, x0, x1, x2, x3, x4, rper])
  have hlt := HM.out.lt
  go_enter Try.func59, Try.ntmps59
  go_wp2
  refine named ((five w (clC' (c)) (rtC (⟨tid, tlive, tgen, tdl, tper, tlast, tarmed, tbtw⟩)) (evC e) clZ rtZ).alloc (.cells (evC c.bg).toArray 31)) (fun V hV => ?_)
  have hL : Loc w bm (mcC R vc vt) w.heap.size (clC' (c)) (rtC (⟨tid, tlive, tgen, tdl, tper, tlast, tarmed, tbtw⟩)) (evC e) (some (evC c.bg)) V := by rw [hV]; exact (loc_five (HM.out) (Chg.refl _ _) rfl _ _ _).six (evC c.bg) (five_size _ _ _ _ _ _)
  clear hV
  replace hL := hL.drew
  refine wp_region_held_drew (by kernel_rfl) hL (fun _ => ?_)
  simp only [List.size_toArray, List.length_cons, List.length_nil, Nat.reduceAdd, Array.replicate_succ, Array.replicate_zero, List.push_toArray, List.nil_append, List.cons_append]
  refine tp 0 hL ?_
  refine tq 1 hL (fun _ h => (h.b _ rfl).cell 3 rfl) ?_
  refine tp 2 hL ?_
  refine tp 3 hL ?_
  refine tp 4 hL ?_
  refine tq 5 hL (fun _ h => (h.b _ rfl).cell 3 rfl) ?_
  refine tp 6 hL ?_
  refine tp 7 hL ?_
  refine tp 8 hL ?_
  refine tp 9 hL ?_
  refine tp 10 hL ?_
  refine tp 11 hL ?_
  refine tp 12 hL ?_
  refine tq 13 hL (fun _ h => (h.b _ rfl).cell 6 rfl) ?_
  refine tp 14 hL ?_
  refine wpAnyH_ready (rs := [15]) (by kernel_rfl) (by simp) (AllReadyH.cons rfl (fun K hK => ?_) AllReadyH.nil)
  rw [if_pos (by kernel_rfl)]
  go_simp
  refine (rfits_any _ _ _ hd hp).mono ?_
  rintro x w' ⟨rfl, rfl⟩
  go_simp
  refine hK.out _ _ hL (fun _ => ?_)
  clear hK K
  simp only [nD,nE,nF]
  refine tp 16 hL ?_
  refine tp 17 hL ?_
  refine tp 18 hL ?_
  refine tp 19 hL ?_
  refine tp 20 hL ?_
  refine tp 21 hL ?_
  refine tq 22 hL (fun _ h => h.m.cell 3 rfl) ?_
  refine tp 23 hL ?_
  refine tp 24 hL ?_
  refine tp 25 hL ?_
  refine tp 26 hL ?_
  refine tp 27 hL ?_
  refine tq 28 hL (fun _ h => h.e.cell 4 rfl) ?_
  refine wpAnyH_ready (rs := [29]) (by kernel_rfl) (by simp) (AllReadyH.cons rfl (fun K hK => ?_) AllReadyH.nil)
  rw [if_pos (by kernel_rfl)]
  go_simp
  refine (rfind_any R.tms e.id bm vt _ (hL.m.cell 6 rfl) (HT.out _ hL.chg) hn).mono ?_
  rintro x w' ⟨rfl, rfl⟩
  go_simp
  refine hK.out _ _ hL (fun _ => ?_)
  clear hK K
  simp only [nD,nE,nF]
  refine tp 30 hL ?_
  refine tp 31 hL ?_
  refine tp 32 hL ?_
  refine tp 33 hL ?_
  refine tp 36 hL ?_
  refine tp 37 hL ?_
  refine tp 38 hL ?_
  refine tq 39 hL (fun _ h => h.m.cell 0 rfl) ?_
  refine wpAnyH_ready (rs := [34]) (by kernel_rfl) (by simp) (AllReadyH.cons rfl (fun K hK => ?_) AllReadyH.nil)
  rw [if_pos (by kernel_rfl)]
  go_simp
  refine (rlive_any R.tms bm vt _ (hL.m.cell 6 rfl) (HT.out _ hL.chg) hn).mono ?_
  rintro x W9 ⟨v9, L, rfl, hup, hown, hb9⟩
  obtain ⟨a9, p9, rfl⟩ := owns_shape hown
  have x4w : decide ((L.length : Int) < R.room) = false := by rw [hup.len HN.out]; exact x4
  clear hup hown
  go_simp
  replace hL := hL.below hb9
  clear hb9
  refine hK.out _ _ hL (fun _ => ?_)
  clear hK K
  simp only [nD,nE,nF]
  refine tp 35 hL ?_
  refine tp 40 hL ?_
  refine tp 41 hL ?_
  refine held_put 42 (by kernel_rfl) rfl (by kernel_rfl) (fun W => by go_simp; try rfl) hL ?_
  simp only [nA,nB,nC,Act.put,nD,nE,nF]
  refine wpAnyH_done (by kernel_rfl) ?_ _
  have ce4 := hL.e.cell 4 rfl
  have ze4 := hL.e.frozen 4
  have ce5 := hL.e.cell 5 rfl
  have ze5 := hL.e.frozen 5
  have ct0 := hL.t.cell 0 rfl
  have zt0 := hL.t.frozen 0
  have ct1 := hL.t.cell 1 rfl
  have zt1 := hL.t.frozen 1
  have ct2 := hL.t.cell 2 rfl
  have zt2 := hL.t.frozen 2
  have ct3 := hL.t.cell 3 rfl
  have zt3 := hL.t.frozen 3
  have ct4 := hL.t.cell 4 rfl
  have zt4 := hL.t.frozen 4
  have ct5 := hL.t.cell 5 rfl
  have zt5 := hL.t.frozen 5
  have ct6 := hL.t.cell 6 rfl
  have zt6 := hL.t.frozen 6
  have ct7 := hL.t.cell 7 rfl
  have zt7 := hL.t.frozen 7
  have cb6 := (hL.b _ rfl).cell 6 rfl
  have HL := hid hL
  clear hL
  go_wp2
  refine named _ (fun V6 hV6 => ?_)
  have hL : Loc w bm (mcC R vc vt) w.heap.size (clC' c) (rtC ⟨e.id, true, e.gen, c.bg.dl, c.bg.per, false, false, false⟩) (evC e) (some (evC c.bg)) V6 := by rw [hV6]; exact (((((((HL.out.setU 0 _).setU 1 _).setU 2 _).setU 3 _).setU 4 _).setU 5 _).setU 6 _).setU 7 _
  clear hV6 HL ce4 ce5 ze4 ze5 cb6 ct0 zt0 ct1 zt1 ct2 zt2 ct3 zt3 ct4 zt4 ct5 zt5 ct6 zt6 ct7 zt7
  replace hL := hL.drew
  refine wp_region_held_drew (by kernel_rfl) hL (fun _ => ?_)
  simp only [List.size_toArray, List.length_cons, List.length_nil, Nat.reduceAdd, Array.replicate_succ, Array.replicate_zero, List.push_toArray, List.nil_append, List.cons_append]
  refine tkC 0 hL ?_
  refine tkE 1 hL ?_
  refine tkT 3 hL ?_
  refine tp 4 hL ?_
  refine wpAnyH_ready (rs := [2]) (by kernel_rfl) (by simp) (AllReadyH.cons rfl (fun K hK => ?_) AllReadyH.nil)
  rw [if_pos (by kernel_rfl)]
  go_simp
  refine (rdone_any _ _ _).mono ?_
  rintro x W9 ⟨rfl, hb9⟩
  go_simp
  replace hL := hL.below hb9
  clear hb9
  refine hK.out _ _ hL (fun _ => ?_)
  clear hK K
  simp only [nD,nE,nF]
  refine tp 5 hL ?_
  refine sp 6 hL ?_
  refine sp 7 hL ?_
  refine sp 8 hL ?_
  refine sp 9 hL ?_
  refine sp 10 hL ?_
  refine tp 11 hL ?_
  refine tp 12 hL ?_
  refine sp 13 hL ?_
  refine sp 14 hL ?_
  refine sp 15 hL ?_
  refine sp 16 hL ?_
  refine tp 17 hL ?_
  have hL0 := hL
  refine Loc.putC 18 (rdone c e) (by kernel_rfl) rfl (by kernel_rfl) rfl (by kernel_rfl) (by kernel_rfl) hL ?_
  replace hL := hL.setC (xs := clC' (rdone c e)) rfl
  simp only [nA,nB,nC,Act.put,nD,nE,nF]
  refine Loc.putT 19 (⟨e.id, true, e.gen, c.bg.dl, c.bg.per, false, false, false⟩) (by kernel_rfl) rfl (by kernel_rfl) rfl (by kernel_rfl) (by kernel_rfl) hL ?_
  replace hL := hL.setT (xs := rtC (⟨e.id, true, e.gen, c.bg.dl, c.bg.per, false, false, false⟩)) rfl
  simp only [nA,nB,nC,Act.put,nD,nE,nF]
  refine held_put 20 (by kernel_rfl) rfl (by kernel_rfl) (fun W => by go_simp; try rfl) hL ?_
  simp only [nA,nB,nC,Act.put,nD,nE,nF]
  refine wpAnyH_done (by kernel_rfl) ?_ _
  go_wp2
  refine bodyPost_ret (v := .tuple #[clV (rdone c e), rtV (⟨e.id, true, e.gen, c.bg.dl, c.bg.per, false, false, false⟩), .bool (false)]) (results_loc (by kernel_rfl) _ _ (rdone c e) (⟨e.id, true, e.gen, c.bg.dl, c.bg.per, false, false, false⟩) (false) ⟨w.heap.size + 1 + 1 + 1, 0, none⟩ ⟨w.heap.size + 1 + 1 + 1 + 1, 0, none⟩ (by kernel_rfl) (by kernel_rfl) (by kernel_rfl) (hL0.gotC (rdone c e) _) (hL0.gotT (⟨e.id, true, e.gen, c.bg.dl, c.bg.per, false, false, false⟩) _)) rfl ?_
  rw [HV.out]
  exact ⟨rfl, hL.m, hL.chg⟩

set_option maxHeartbeats 4000000 in
set_option maxRecDepth 100000 in
theorem rfirst_3b3 (R : Rm) (c : Cl) (t : RT) (e : Ev) (bm : Nat) (vc vt : Value) (w : World) (HM : Hid (Blk w bm 91 (mcC R vc vt))) (k3 : (e.kind == 3) = true) (w1 : (c.bg.what == 1) = false) (w2 : (c.bg.what == 2) = true) (x0 : (decide (c.bg.per > 0)) = true) (x1 : (rfits c.bg.dl c.bg.per) = true) (x2 : (R.ended) = false) (x3 : (decide (rfindI R.tms e.id < 0)) = true) (x4 : (decide (((rlives R.tms).length : Int) < R.room)) = true) (x5 : (e.dl == c.bg.dl) = false) (HT : Hid (∀ W, Chg (· = bm) w W → Reads W vt R.tms.length (R.tms.flatMap rtC))) (HN : Hid (rlives R.tms).Nodup) (hn : R.tms.length ≤ 1000000) (hd : U64 c.bg.dl) (hp : U64 c.bg.per) :
    Calls Try.prog 59 #[ptrV bm, clV c, rtV t, evV e] w (EndsR w bm vc vt (rfirst R c t e)) := by
  obtain ⟨tid, tlive, tgen, tdl, tper, tlast, tarmed, tbtw⟩ := t
  try dsimp only at *
  have HV := hid (show (rfirst R c ⟨tid, tlive, tgen, tdl, tper, tlast, tarmed, tbtw⟩ e) = (R, rdone c e, ⟨e.id, true, e.gen, c.bg.dl, c.bg.per, false, false, false⟩, false) by simp [rfirst, k3, w1, w2, x0, x1, x2, x3, x4, x5, rper])
  have hlt := HM.out.lt
  go_enter Try.func59, Try.ntmps59
  go_wp2
  refine named ((five w (clC' (c)) (rtC (⟨tid, tlive, tgen, tdl, tper, tlast, tarmed, tbtw⟩)) (evC e) clZ rtZ).alloc (.cells (evC c.bg).toArray 31)) (fun V hV => ?_)
  have hL : Loc w bm (mcC R vc vt) w.heap.size (clC' (c)) (rtC (⟨tid, tlive, tgen, tdl, tper, tlast, tarmed, tbtw⟩)) (evC e) (some (evC c.bg)) V := by rw [hV]; exact (loc_five (HM.out) (Chg.refl _ _) rfl _ _ _).six (evC c.bg) (five_size _ _ _ _ _ _)
  clear hV
  replace hL := hL.drew
  refine wp_region_held_drew (by kernel_rfl) hL (fun _ => ?_)
  simp only [List.size_toArray, List.length_cons, List.length_nil, Nat.reduceAdd, Array.replicate_succ, Array.replicate_zero, List.push_toArray, List.nil_append, List.cons_append]
  refine tp 0 hL ?_
  refine tq 1 hL (fun _ h => (h.b _ rfl).cell 3 rfl) ?_
  refine tp 2 hL ?_
  refine tp 3 hL ?_
  refine tp 4 hL ?_
  refine tq 5 hL (fun _ h => (h.b _ rfl).cell 3 rfl) ?_
  refine tp 6 hL ?_
  refine tp 7 hL ?_
  refine tp 8 hL ?_
  refine tp 9 hL ?_
  refine tp 10 hL ?_
  refine tp 11 hL ?_
  refine tp 12 hL ?_
  refine tq 13 hL (fun _ h => (h.b _ rfl).cell 6 rfl) ?_
  refine tp 14 hL ?_
  refine wpAnyH_ready (rs := [15]) (by kernel_rfl) (by simp) (AllReadyH.cons rfl (fun K hK => ?_) AllReadyH.nil)
  rw [if_pos (by kernel_rfl)]
  go_simp
  refine (rfits_any _ _ _ hd hp).mono ?_
  rintro x w' ⟨rfl, rfl⟩
  go_simp
  refine hK.out _ _ hL (fun _ => ?_)
  clear hK K
  simp only [nD,nE,nF]
  refine tp 16 hL ?_
  refine tp 17 hL ?_
  refine tp 18 hL ?_
  refine tp 19 hL ?_
  refine tp 20 hL ?_
  refine tp 21 hL ?_
  refine tq 22 hL (fun _ h => h.m.cell 3 rfl) ?_
  refine tp 23 hL ?_
  refine tp 24 hL ?_
  refine tp 25 hL ?_
  refine tp 26 hL ?_
  refine tp 27 hL ?_
  refine tq 28 hL (fun _ h => h.e.cell 4 rfl) ?_
  refine wpAnyH_ready (rs := [29]) (by kernel_rfl) (by simp) (AllReadyH.cons rfl (fun K hK => ?_) AllReadyH.nil)
  rw [if_pos (by kernel_rfl)]
  go_simp
  refine (rfind_any R.tms e.id bm vt _ (hL.m.cell 6 rfl) (HT.out _ hL.chg) hn).mono ?_
  rintro x w' ⟨rfl, rfl⟩
  go_simp
  refine hK.out _ _ hL (fun _ => ?_)
  clear hK K
  simp only [nD,nE,nF]
  refine tp 30 hL ?_
  refine tp 31 hL ?_
  refine tp 32 hL ?_
  refine tp 33 hL ?_
  refine tp 36 hL ?_
  refine tp 37 hL ?_
  refine tp 38 hL ?_
  refine tq 39 hL (fun _ h => h.m.cell 0 rfl) ?_
  refine wpAnyH_ready (rs := [34]) (by kernel_rfl) (by simp) (AllReadyH.cons rfl (fun K hK => ?_) AllReadyH.nil)
  rw [if_pos (by kernel_rfl)]
  go_simp
  refine (rlive_any R.tms bm vt _ (hL.m.cell 6 rfl) (HT.out _ hL.chg) hn).mono ?_
  rintro x W9 ⟨v9, L, rfl, hup, hown, hb9⟩
  obtain ⟨a9, p9, rfl⟩ := owns_shape hown
  have x4w : decide ((L.length : Int) < R.room) = true := by rw [hup.len HN.out]; exact x4
  clear hup hown
  go_simp
  replace hL := hL.below hb9
  clear hb9
  refine hK.out _ _ hL (fun _ => ?_)
  clear hK K
  simp only [nD,nE,nF]
  refine tp 35 hL ?_
  refine tp 40 hL ?_
  refine tp 41 hL ?_
  refine held_put 42 (by kernel_rfl) rfl (by kernel_rfl) (fun W => by go_simp; try rfl) hL ?_
  simp only [nA,nB,nC,Act.put,nD,nE,nF]
  refine wpAnyH_done (by kernel_rfl) ?_ _
  have ce4 := hL.e.cell 4 rfl
  have ze4 := hL.e.frozen 4
  have ce5 := hL.e.cell 5 rfl
  have ze5 := hL.e.frozen 5
  have ct0 := hL.t.cell 0 rfl
  have zt0 := hL.t.frozen 0
  have ct1 := hL.t.cell 1 rfl
  have zt1 := hL.t.frozen 1
  have ct2 := hL.t.cell 2 rfl
  have zt2 := hL.t.frozen 2
  have ct3 := hL.t.cell 3 rfl
  have zt3 := hL.t.frozen 3
  have ct4 := hL.t.cell 4 rfl
  have zt4 := hL.t.frozen 4
  have ct5 := hL.t.cell 5 rfl
  have zt5 := hL.t.frozen 5
  have ct6 := hL.t.cell 6 rfl
  have zt6 := hL.t.frozen 6
  have ct7 := hL.t.cell 7 rfl
  have zt7 := hL.t.frozen 7
  have cb6 := (hL.b _ rfl).cell 6 rfl
  have HL := hid hL
  clear hL
  go_wp2
  refine named _ (fun V6 hV6 => ?_)
  have hL : Loc w bm (mcC R vc vt) w.heap.size (clC' c) (rtC ⟨e.id, true, e.gen, c.bg.dl, c.bg.per, false, false, false⟩) (evC e) (some (evC c.bg)) V6 := by rw [hV6]; exact (((((((HL.out.setU 0 _).setU 1 _).setU 2 _).setU 3 _).setU 4 _).setU 5 _).setU 6 _).setU 7 _
  clear hV6 HL ce4 ce5 ze4 ze5 cb6 ct0 zt0 ct1 zt1 ct2 zt2 ct3 zt3 ct4 zt4 ct5 zt5 ct6 zt6 ct7 zt7
  replace hL := hL.drew
  refine wp_region_held_drew (by kernel_rfl) hL (fun _ => ?_)
  simp only [List.size_toArray, List.length_cons, List.length_nil, Nat.reduceAdd, Array.replicate_succ, Array.replicate_zero, List.push_toArray, List.nil_append, List.cons_append]
  refine tkC 0 hL ?_
  refine tkE 1 hL ?_
  refine tkT 3 hL ?_
  refine tp 4 hL ?_
  refine wpAnyH_ready (rs := [2]) (by kernel_rfl) (by simp) (AllReadyH.cons rfl (fun K hK => ?_) AllReadyH.nil)
  rw [if_pos (by kernel_rfl)]
  go_simp
  refine (rdone_any _ _ _).mono ?_
  rintro x W9 ⟨rfl, hb9⟩
  go_simp
  replace hL := hL.below hb9
  clear hb9
  refine hK.out _ _ hL (fun _ => ?_)
  clear hK K
  simp only [nD,nE,nF]
  refine tp 5 hL ?_
  refine tp 6 hL ?_
  refine tq 7 hL (fun _ h => h.e.cell 6 rfl) ?_
  refine tp 8 hL ?_
  refine tq 9 hL (fun _ h => (h.b _ rfl).cell 6 rfl) ?_
  refine tp 10 hL ?_
  refine tp 11 hL ?_
  refine tp 12 hL ?_
  refine sp 13 hL ?_
  refine sp 14 hL ?_
  refine sp 15 hL ?_
  refine sp 16 hL ?_
  refine tp 17 hL ?_
  have hL0 := hL
  refine Loc.putC 18 (rdone c e) (by kernel_rfl) rfl (by kernel_rfl) rfl (by kernel_rfl) (by kernel_rfl) hL ?_
  replace hL := hL.setC (xs := clC' (rdone c e)) rfl
  simp only [nA,nB,nC,Act.put,nD,nE,nF]
  refine Loc.putT 19 (⟨e.id, true, e.gen, c.bg.dl, c.bg.per, false, false, false⟩) (by kernel_rfl) rfl (by kernel_rfl) rfl (by kernel_rfl) (by kernel_rfl) hL ?_
  replace hL := hL.setT (xs := rtC (⟨e.id, true, e.gen, c.bg.dl, c.bg.per, false, false, false⟩)) rfl
  simp only [nA,nB,nC,Act.put,nD,nE,nF]
  refine held_put 20 (by kernel_rfl) rfl (by kernel_rfl) (fun W => by go_simp; try rfl) hL ?_
  simp only [nA,nB,nC,Act.put,nD,nE,nF]
  refine wpAnyH_done (by kernel_rfl) ?_ _
  go_wp2
  refine bodyPost_ret (v := .tuple #[clV (rdone c e), rtV (⟨e.id, true, e.gen, c.bg.dl, c.bg.per, false, false, false⟩), .bool (false)]) (results_loc (by kernel_rfl) _ _ (rdone c e) (⟨e.id, true, e.gen, c.bg.dl, c.bg.per, false, false, false⟩) (false) ⟨w.heap.size + 1 + 1 + 1, 0, none⟩ ⟨w.heap.size + 1 + 1 + 1 + 1, 0, none⟩ (by kernel_rfl) (by kernel_rfl) (by kernel_rfl) (hL0.gotC (rdone c e) _) (hL0.gotT (⟨e.id, true, e.gen, c.bg.dl, c.bg.per, false, false, false⟩) _)) rfl ?_
  rw [HV.out]
  exact ⟨rfl, hL.m, hL.chg⟩

set_option maxHeartbeats 4000000 in
set_option maxRecDepth 100000 in
theorem rfirst_3b4 (R : Rm) (c : Cl) (t : RT) (e : Ev) (bm : Nat) (vc vt : Value) (w : World) (HM : Hid (Blk w bm 91 (mcC R vc vt))) (k3 : (e.kind == 3) = true) (w1 : (c.bg.what == 1) = false) (w2 : (c.bg.what == 2) = true) (x0 : (decide (c.bg.per > 0)) = true) (x1 : (rfits c.bg.dl c.bg.per) = true) (x2 : (R.ended) = false) (x3 : (decide (rfindI R.tms e.id < 0)) = true) (x4 : (decide (((rlives R.tms).length : Int) < R.room)) = true) (x5 : (e.dl == c.bg.dl) = true) (HT : Hid (∀ W, Chg (· = bm) w W → Reads W vt R.tms.length (R.tms.flatMap rtC))) (HN : Hid (rlives R.tms).Nodup) (hn : R.tms.length ≤ 1000000) (hd : U64 c.bg.dl) (hp : U64 c.bg.per) :
    Calls Try.prog 59 #[ptrV bm, clV c, rtV t, evV e] w (EndsR w bm vc vt (rfirst R c t e)) := by
  obtain ⟨tid, tlive, tgen, tdl, tper, tlast, tarmed, tbtw⟩ := t
  try dsimp only at *
  have HV := hid (show (rfirst R c ⟨tid, tlive, tgen, tdl, tper, tlast, tarmed, tbtw⟩ e) = (R, rdone c e, ⟨e.id, true, e.gen, c.bg.dl, c.bg.per, false, false, false⟩, e.per == c.bg.per) by simp [rfirst, k3, w1, w2, x0, x1, x2, x3, x4, x5, rper])
  have hlt := HM.out.lt
  go_enter Try.func59, Try.ntmps59
  go_wp2
  refine named ((five w (clC' (c)) (rtC (⟨tid, tlive, tgen, tdl, tper, tlast, tarmed, tbtw⟩)) (evC e) clZ rtZ).alloc (.cells (evC c.bg).toArray 31)) (fun V hV => ?_)
  have hL : Loc w bm (mcC R vc vt) w.heap.size (clC' (c)) (rtC (⟨tid, tlive, tgen, tdl, tper, tlast, tarmed, tbtw⟩)) (evC e) (some (evC c.bg)) V := by rw [hV]; exact (loc_five (HM.out) (Chg.refl _ _) rfl _ _ _).six (evC c.bg) (five_size _ _ _ _ _ _)
  clear hV
  replace hL := hL.drew
  refine wp_region_held_drew (by kernel_rfl) hL (fun _ => ?_)
  simp only [List.size_toArray, List.length_cons, List.length_nil, Nat.reduceAdd, Array.replicate_succ, Array.replicate_zero, List.push_toArray, List.nil_append, List.cons_append]
  refine tp 0 hL ?_
  refine tq 1 hL (fun _ h => (h.b _ rfl).cell 3 rfl) ?_
  refine tp 2 hL ?_
  refine tp 3 hL ?_
  refine tp 4 hL ?_
  refine tq 5 hL (fun _ h => (h.b _ rfl).cell 3 rfl) ?_
  refine tp 6 hL ?_
  refine tp 7 hL ?_
  refine tp 8 hL ?_
  refine tp 9 hL ?_
  refine tp 10 hL ?_
  refine tp 11 hL ?_
  refine tp 12 hL ?_
  refine tq 13 hL (fun _ h => (h.b _ rfl).cell 6 rfl) ?_
  refine tp 14 hL ?_
  refine wpAnyH_ready (rs := [15]) (by kernel_rfl) (by simp) (AllReadyH.cons rfl (fun K hK => ?_) AllReadyH.nil)
  rw [if_pos (by kernel_rfl)]
  go_simp
  refine (rfits_any _ _ _ hd hp).mono ?_
  rintro x w' ⟨rfl, rfl⟩
  go_simp
  refine hK.out _ _ hL (fun _ => ?_)
  clear hK K
  simp only [nD,nE,nF]
  refine tp 16 hL ?_
  refine tp 17 hL ?_
  refine tp 18 hL ?_
  refine tp 19 hL ?_
  refine tp 20 hL ?_
  refine tp 21 hL ?_
  refine tq 22 hL (fun _ h => h.m.cell 3 rfl) ?_
  refine tp 23 hL ?_
  refine tp 24 hL ?_
  refine tp 25 hL ?_
  refine tp 26 hL ?_
  refine tp 27 hL ?_
  refine tq 28 hL (fun _ h => h.e.cell 4 rfl) ?_
  refine wpAnyH_ready (rs := [29]) (by kernel_rfl) (by simp) (AllReadyH.cons rfl (fun K hK => ?_) AllReadyH.nil)
  rw [if_pos (by kernel_rfl)]
  go_simp
  refine (rfind_any R.tms e.id bm vt _ (hL.m.cell 6 rfl) (HT.out _ hL.chg) hn).mono ?_
  rintro x w' ⟨rfl, rfl⟩
  go_simp
  refine hK.out _ _ hL (fun _ => ?_)
  clear hK K
  simp only [nD,nE,nF]
  refine tp 30 hL ?_
  refine tp 31 hL ?_
  refine tp 32 hL ?_
  refine tp 33 hL ?_
  refine tp 36 hL ?_
  refine tp 37 hL ?_
  refine tp 38 hL ?_
  refine tq 39 hL (fun _ h => h.m.cell 0 rfl) ?_
  refine wpAnyH_ready (rs := [34]) (by kernel_rfl) (by simp) (AllReadyH.cons rfl (fun K hK => ?_) AllReadyH.nil)
  rw [if_pos (by kernel_rfl)]
  go_simp
  refine (rlive_any R.tms bm vt _ (hL.m.cell 6 rfl) (HT.out _ hL.chg) hn).mono ?_
  rintro x W9 ⟨v9, L, rfl, hup, hown, hb9⟩
  obtain ⟨a9, p9, rfl⟩ := owns_shape hown
  have x4w : decide ((L.length : Int) < R.room) = true := by rw [hup.len HN.out]; exact x4
  clear hup hown
  go_simp
  replace hL := hL.below hb9
  clear hb9
  refine hK.out _ _ hL (fun _ => ?_)
  clear hK K
  simp only [nD,nE,nF]
  refine tp 35 hL ?_
  refine tp 40 hL ?_
  refine tp 41 hL ?_
  refine held_put 42 (by kernel_rfl) rfl (by kernel_rfl) (fun W => by go_simp; try rfl) hL ?_
  simp only [nA,nB,nC,Act.put,nD,nE,nF]
  refine wpAnyH_done (by kernel_rfl) ?_ _
  have ce4 := hL.e.cell 4 rfl
  have ze4 := hL.e.frozen 4
  have ce5 := hL.e.cell 5 rfl
  have ze5 := hL.e.frozen 5
  have ct0 := hL.t.cell 0 rfl
  have zt0 := hL.t.frozen 0
  have ct1 := hL.t.cell 1 rfl
  have zt1 := hL.t.frozen 1
  have ct2 := hL.t.cell 2 rfl
  have zt2 := hL.t.frozen 2
  have ct3 := hL.t.cell 3 rfl
  have zt3 := hL.t.frozen 3
  have ct4 := hL.t.cell 4 rfl
  have zt4 := hL.t.frozen 4
  have ct5 := hL.t.cell 5 rfl
  have zt5 := hL.t.frozen 5
  have ct6 := hL.t.cell 6 rfl
  have zt6 := hL.t.frozen 6
  have ct7 := hL.t.cell 7 rfl
  have zt7 := hL.t.frozen 7
  have cb6 := (hL.b _ rfl).cell 6 rfl
  have HL := hid hL
  clear hL
  go_wp2
  refine named _ (fun V6 hV6 => ?_)
  have hL : Loc w bm (mcC R vc vt) w.heap.size (clC' c) (rtC ⟨e.id, true, e.gen, c.bg.dl, c.bg.per, false, false, false⟩) (evC e) (some (evC c.bg)) V6 := by rw [hV6]; exact (((((((HL.out.setU 0 _).setU 1 _).setU 2 _).setU 3 _).setU 4 _).setU 5 _).setU 6 _).setU 7 _
  clear hV6 HL ce4 ce5 ze4 ze5 cb6 ct0 zt0 ct1 zt1 ct2 zt2 ct3 zt3 ct4 zt4 ct5 zt5 ct6 zt6 ct7 zt7
  replace hL := hL.drew
  refine wp_region_held_drew (by kernel_rfl) hL (fun _ => ?_)
  simp only [List.size_toArray, List.length_cons, List.length_nil, Nat.reduceAdd, Array.replicate_succ, Array.replicate_zero, List.push_toArray, List.nil_append, List.cons_append]
  refine tkC 0 hL ?_
  refine tkE 1 hL ?_
  refine tkT 3 hL ?_
  refine tp 4 hL ?_
  refine wpAnyH_ready (rs := [2]) (by kernel_rfl) (by simp) (AllReadyH.cons rfl (fun K hK => ?_) AllReadyH.nil)
  rw [if_pos (by kernel_rfl)]
  go_simp
  refine (rdone_any _ _ _).mono ?_
  rintro x W9 ⟨rfl, hb9⟩
  go_simp
  replace hL := hL.below hb9
  clear hb9
  refine hK.out _ _ hL (fun _ => ?_)
  clear hK K
  simp only [nD,nE,nF]
  refine tp 5 hL ?_
  refine tp 6 hL ?_
  refine tq 7 hL (fun _ h => h.e.cell 6 rfl) ?_
  refine tp 8 hL ?_
  refine tq 9 hL (fun _ h => (h.b _ rfl).cell 6 rfl) ?_
  refine tp 10 hL ?_
  refine tp 11 hL ?_
  refine tp 12 hL ?_
  refine tp 13 hL ?_
  refine tq 14 hL (fun _ h => h.e.cell 7 rfl) ?_
  refine tp 15 hL ?_
  refine tp 16 hL ?_
  refine tp 17 hL ?_
  have hL0 := hL
  refine Loc.putC 18 (rdone c e) (by kernel_rfl) rfl (by kernel_rfl) rfl (by kernel_rfl) (by kernel_rfl) hL ?_
  replace hL := hL.setC (xs := clC' (rdone c e)) rfl
  simp only [nA,nB,nC,Act.put,nD,nE,nF]
  refine Loc.putT 19 (⟨e.id, true, e.gen, c.bg.dl, c.bg.per, false, false, false⟩) (by kernel_rfl) rfl (by kernel_rfl) rfl (by kernel_rfl) (by kernel_rfl) hL ?_
  replace hL := hL.setT (xs := rtC (⟨e.id, true, e.gen, c.bg.dl, c.bg.per, false, false, false⟩)) rfl
  simp only [nA,nB,nC,Act.put,nD,nE,nF]
  refine held_put 20 (by kernel_rfl) rfl (by kernel_rfl) (fun W => by go_simp; try rfl) hL ?_
  simp only [nA,nB,nC,Act.put,nD,nE,nF]
  refine wpAnyH_done (by kernel_rfl) ?_ _
  go_wp2
  refine bodyPost_ret (v := .tuple #[clV (rdone c e), rtV (⟨e.id, true, e.gen, c.bg.dl, c.bg.per, false, false, false⟩), .bool (e.per == c.bg.per)]) (results_loc (by kernel_rfl) _ _ (rdone c e) (⟨e.id, true, e.gen, c.bg.dl, c.bg.per, false, false, false⟩) (e.per == c.bg.per) ⟨w.heap.size + 1 + 1 + 1, 0, none⟩ ⟨w.heap.size + 1 + 1 + 1 + 1, 0, none⟩ (by kernel_rfl) (by kernel_rfl) (by kernel_rfl) (hL0.gotC (rdone c e) _) (hL0.gotT (⟨e.id, true, e.gen, c.bg.dl, c.bg.per, false, false, false⟩) _)) rfl ?_
  rw [HV.out]
  exact ⟨rfl, hL.m, hL.chg⟩

set_option maxHeartbeats 4000000 in
set_option maxRecDepth 100000 in
theorem rfirst_3c (R : Rm) (c : Cl) (t : RT) (e : Ev) (bm : Nat) (vc vt : Value) (w : World) (HM : Hid (Blk w bm 91 (mcC R vc vt))) (k3 : (e.kind == 3) = true) (w1 : (c.bg.what == 1) = false) (w2 : (c.bg.what == 2) = false) (_HT : Hid (∀ W, Chg (· = bm) w W → Reads W vt R.tms.length (R.tms.flatMap rtC))) (_HN : Hid (rlives R.tms).Nodup) (_hn : R.tms.length ≤ 1000000) (_hd : U64 c.bg.dl) (_hp : U64 c.bg.per) :
    Calls Try.prog 59 #[ptrV bm, clV c, rtV t, evV e] w (EndsR w bm vc vt (rfirst R c t e)) := by
  obtain ⟨tid, tlive, tgen, tdl, tper, tlast, tarmed, tbtw⟩ := t
  try dsimp only at *
  have HV := hid (show (rfirst R c ⟨tid, tlive, tgen, tdl, tper, tlast, tarmed, tbtw⟩ e) = (R, rdone c e, ⟨e.id, true, e.gen, c.bg.dl, 0, false, false, false⟩, false) by simp [rfirst, k3, w1, w2, rper])
  have hlt := HM.out.lt
  go_enter Try.func59, Try.ntmps59
  go_wp2
  refine named ((five w (clC' (c)) (rtC (⟨tid, tlive, tgen, tdl, tper, tlast, tarmed, tbtw⟩)) (evC e) clZ rtZ).alloc (.cells (evC c.bg).toArray 31)) (fun V hV => ?_)
  have hL : Loc w bm (mcC R vc vt) w.heap.size (clC' (c)) (rtC (⟨tid, tlive, tgen, tdl, tper, tlast, tarmed, tbtw⟩)) (evC e) (some (evC c.bg)) V := by rw [hV]; exact (loc_five (HM.out) (Chg.refl _ _) rfl _ _ _).six (evC c.bg) (five_size _ _ _ _ _ _)
  clear hV
  replace hL := hL.drew
  refine wp_region_held_drew (by kernel_rfl) hL (fun _ => ?_)
  simp only [List.size_toArray, List.length_cons, List.length_nil, Nat.reduceAdd, Array.replicate_succ, Array.replicate_zero, List.push_toArray, List.nil_append, List.cons_append]
  refine tp 0 hL ?_
  refine tq 1 hL (fun _ h => (h.b _ rfl).cell 3 rfl) ?_
  refine tp 2 hL ?_
  refine tp 3 hL ?_
  refine tp 4 hL ?_
  refine tq 5 hL (fun _ h => (h.b _ rfl).cell 3 rfl) ?_
  refine tp 6 hL ?_
  refine tp 7 hL ?_
  refine sp 8 hL ?_
  refine sp 9 hL ?_
  refine tp 10 hL ?_
  refine tp 11 hL ?_
  refine sp 12 hL ?_
  refine sp 13 hL ?_
  refine sp 14 hL ?_
  refine sp 15 hL ?_
  refine tp 16 hL ?_
  refine tp 17 hL ?_
  refine tp 18 hL ?_
  refine sp 19 hL ?_
  refine sp 20 hL ?_
  refine sp 21 hL ?_
  refine sp 22 hL ?_
  refine sp 23 hL ?_
  refine tp 24 hL ?_
  refine tp 25 hL ?_
  refine sp 26 hL ?_
  refine sp 27 hL ?_
  refine sp 28 hL ?_
  refine sp 29 hL ?_
  refine sp 30 hL ?_
  refine tp 31 hL ?_
  refine tp 32 hL ?_
  refine sp 33 hL ?_
  refine sp 34 hL ?_
  refine sp 35 hL ?_
  refine sp 36 hL ?_
  refine sp 37 hL ?_
  refine sp 38 hL ?_
  refine sp 39 hL ?_
  refine sp 40 hL ?_
  refine tp 41 hL ?_
  refine held_put 42 (by kernel_rfl) rfl (by kernel_rfl) (fun W => by go_simp; try rfl) hL ?_
  simp only [nA,nB,nC,Act.put,nD,nE,nF]
  refine wpAnyH_done (by kernel_rfl) ?_ _
  obtain ⟨V5, hV5⟩ : ∃ V5, V5 = V.drew := ⟨_, rfl⟩
  rw [← hV5] at hL ⊢
  clear hV5
  have ce4 := hL.e.cell 4 rfl
  have ze4 := hL.e.frozen 4
  have ce5 := hL.e.cell 5 rfl
  have ze5 := hL.e.frozen 5
  have ct0 := hL.t.cell 0 rfl
  have zt0 := hL.t.frozen 0
  have ct1 := hL.t.cell 1 rfl
  have zt1 := hL.t.frozen 1
  have ct2 := hL.t.cell 2 rfl
  have zt2 := hL.t.frozen 2
  have ct3 := hL.t.cell 3 rfl
  have zt3 := hL.t.frozen 3
  have ct4 := hL.t.cell 4 rfl
  have zt4 := hL.t.frozen 4
  have ct5 := hL.t.cell 5 rfl
  have zt5 := hL.t.frozen 5
  have ct6 := hL.t.cell 6 rfl
  have zt6 := hL.t.frozen 6
  have ct7 := hL.t.cell 7 rfl
  have zt7 := hL.t.frozen 7
  have cb6 := (hL.b _ rfl).cell 6 rfl
  have HL := hid hL
  clear hL
  go_wp2
  refine named _ (fun V6 hV6 => ?_)
  have hL : Loc w bm (mcC R vc vt) w.heap.size (clC' c) (rtC ⟨e.id, true, e.gen, c.bg.dl, 0, false, false, false⟩) (evC e) (some (evC c.bg)) V6 := by rw [hV6]; exact (((((((HL.out.setU 0 _).setU 1 _).setU 2 _).setU 3 _).setU 4 _).setU 5 _).setU 6 _).setU 7 _
  clear hV6 HL ce4 ce5 ze4 ze5 cb6 ct0 zt0 ct1 zt1 ct2 zt2 ct3 zt3 ct4 zt4 ct5 zt5 ct6 zt6 ct7 zt7
  replace hL := hL.drew
  refine wp_region_held_drew (by kernel_rfl) hL (fun _ => ?_)
  simp only [List.size_toArray, List.length_cons, List.length_nil, Nat.reduceAdd, Array.replicate_succ, Array.replicate_zero, List.push_toArray, List.nil_append, List.cons_append]
  refine tkC 0 hL ?_
  refine tkE 1 hL ?_
  refine tkT 3 hL ?_
  refine tp 4 hL ?_
  refine wpAnyH_ready (rs := [2]) (by kernel_rfl) (by simp) (AllReadyH.cons rfl (fun K hK => ?_) AllReadyH.nil)
  rw [if_pos (by kernel_rfl)]
  go_simp
  refine (rdone_any _ _ _).mono ?_
  rintro x W9 ⟨rfl, hb9⟩
  go_simp
  replace hL := hL.below hb9
  clear hb9
  refine hK.out _ _ hL (fun _ => ?_)
  clear hK K
  simp only [nD,nE,nF]
  refine tp 5 hL ?_
  refine sp 6 hL ?_
  refine sp 7 hL ?_
  refine sp 8 hL ?_
  refine sp 9 hL ?_
  refine sp 10 hL ?_
  refine tp 11 hL ?_
  refine tp 12 hL ?_
  refine sp 13 hL ?_
  refine sp 14 hL ?_
  refine sp 15 hL ?_
  refine sp 16 hL ?_
  refine tp 17 hL ?_
  have hL0 := hL
  refine Loc.putC 18 (rdone c e) (by kernel_rfl) rfl (by kernel_rfl) rfl (by kernel_rfl) (by kernel_rfl) hL ?_
  replace hL := hL.setC (xs := clC' (rdone c e)) rfl
  simp only [nA,nB,nC,Act.put,nD,nE,nF]
  refine Loc.putT 19 (⟨e.id, true, e.gen, c.bg.dl, 0, false, false, false⟩) (by kernel_rfl) rfl (by kernel_rfl) rfl (by kernel_rfl) (by kernel_rfl) hL ?_
  replace hL := hL.setT (xs := rtC (⟨e.id, true, e.gen, c.bg.dl, 0, false, false, false⟩)) rfl
  simp only [nA,nB,nC,Act.put,nD,nE,nF]
  refine held_put 20 (by kernel_rfl) rfl (by kernel_rfl) (fun W => by go_simp; try rfl) hL ?_
  simp only [nA,nB,nC,Act.put,nD,nE,nF]
  refine wpAnyH_done (by kernel_rfl) ?_ _
  go_wp2
  refine bodyPost_ret (v := .tuple #[clV (rdone c e), rtV (⟨e.id, true, e.gen, c.bg.dl, 0, false, false, false⟩), .bool (false)]) (results_loc (by kernel_rfl) _ _ (rdone c e) (⟨e.id, true, e.gen, c.bg.dl, 0, false, false, false⟩) (false) ⟨w.heap.size + 1 + 1 + 1, 0, none⟩ ⟨w.heap.size + 1 + 1 + 1 + 1, 0, none⟩ (by kernel_rfl) (by kernel_rfl) (by kernel_rfl) (hL0.gotC (rdone c e) _) (hL0.gotT (⟨e.id, true, e.gen, c.bg.dl, 0, false, false, false⟩) _)) rfl ?_
  rw [HV.out]
  exact ⟨rfl, hL.m, hL.chg⟩
end Go.Proofs.Ytpnkkdpggofanaa
