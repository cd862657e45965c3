/- spec's rules by their walks: each does what the plain machine does. spec's rules by their walks: each does what the plain machine does. spec's rules by their walks: each does what the plain machine does. spec's rules by their walks: each does what the plain machine does. spec's rules by their walks: each does what the plain machine does. -/
import Derived.Test.YtpnkkdpggofanaaSpecC
namespace Go.Proofs.Ytpnkkdpggofanaa
open Go.RowKit

set_option maxRecDepth 4000 in
set_option maxHeartbeats 8000000 in
theorem close_any (B : Nat) (w : World) {bm b i : Nat} {c : Cl} {G : Gm} (h : Rep B w bm G) (hB : B ≤ w.heap.size) (hi : G.cs[i]? = some (b, c)) (hc : G.cp = ptrV b) (e : Ev) (_he : e.wf) :
    Calls Try.prog 86 #[ptrV bm, evV e] w fun x w' => Ends B bm w (closeM G.ma c e) x w' := by
  go_enter Try.func86, Try.ntmps86
  have HH := hid h
  clear h
  by_cases hw : c.bg.what = 6
  · have HW := hid (show decide (c.bg.what ∈ [6]) = true by simp [hw])
    cases hcl : G.closed
    · have HP := hid (show closeM G.ma c e = some ({ G with closed := true, closer := e.call } : Gm).ma by unfold closeM; simp [hw, hcl, Gm.ma])
      go_wp2_with (go_at_call 102; generalize hW : World.alloc w _ = W; obtain ⟨hR, hE, hBW, hsz⟩ := HH.out.boxed e hW; clear hW HH; generalize hBE : w.heap.size = be at *; have HR := hid hR; have HE := hid hE; have HBW := hid hBW; have HC : Hid (Blk W b 126 (clC c)) := (HR.out.cl _ (List.mem_of_getElem? hi)).1; clear hR hE hBW; have HE0 := hid HE.out; have HEp := hid HE.out; refine (what_any (c := c) [6] _ _ (Reads.built_at _ [.int .i64 6] 3 1 _ (by first | omega | simp)) (by simp) (hc ▸ (HR.out.alloc _).mach.cell 9 rfl) ((HC.out.alloc _).cell 3 rfl)).mono ?_; rintro x w' ⟨hx, rfl⟩; rw [HW.out] at hx; subst hx; generalize hW2 : World.alloc _ _ = W2; replace HR := hid (show Rep B W2 bm G from hW2 ▸ HR.out.alloc _); replace HE := hid (show Blk W2 be 31 (evC e) from hW2 ▸ HE.out.alloc _); replace HBW := hid (show Below be w W2 from hW2 ▸ (HBW.out.alloc (Nat.le_of_lt HEp.out.lt) _)); replace HC := hid (show Blk W2 b 126 (clC c) from hW2 ▸ HC.out.alloc _); clear hW2; clear HEp; have m_closed : W2.cell? ⟨bm, 2, none⟩ = some (.bool G.closed) := HR.out.mach.cell 2 rfl; have m_closer : W2.cell? ⟨bm, 4, none⟩ = some (.int .i64 G.closer) := HR.out.mach.cell 4 rfl; have e_call : W2.cell? ⟨be, 2, none⟩ = some (.int .i64 e.call) := HE.out.cell 2 rfl; rw [hcl] at m_closed; have f2 := HR.out.mach.frozen 2; have f4 := HR.out.mach.frozen 4; have hne : be ≠ bm := fun h => HE.out.ne HR.out.mach (by decide) h; have hne' := hne.symm)
      go_region_held3 (fun W => W.cell? ⟨be, 2, none⟩ = some (.int .i64 e.call)) (go_keep) (fail)
      all_goals go_wp2
      all_goals go_ret
      have hch := (((Chg.refl (· = bm) W2).sets rfl 2 (.bool true)).sets rfl 4 (.int .i64 e.call)).drew
      exact Ends.yes (G' := { G with closed := true, closer := e.call }) rfl (below_chg (HBW.out.mono hB) (by omega) hch (fun k hk => hk ▸ HR.out.base.1)) HP.out (HR.out.mset hch HR.out.now (show Blk _ bm _ (mC _) from (HR.out.mach.set 2 (.bool true)).set 4 (.int .i64 e.call)))
    · have HP := hid (show closeM G.ma c e = none by unfold closeM; simp [hw, hcl, Gm.ma])
      go_wp2_with (go_at_call 102; generalize hW : World.alloc w _ = W; obtain ⟨hR, hE, hBW, hsz⟩ := HH.out.boxed e hW; clear hW HH; generalize hBE : w.heap.size = be at *; have HR := hid hR; have HE := hid hE; have HBW := hid hBW; have HC : Hid (Blk W b 126 (clC c)) := (HR.out.cl _ (List.mem_of_getElem? hi)).1; clear hR hE hBW; have HE0 := hid HE.out; have HEp := hid HE.out; refine (what_any (c := c) [6] _ _ (Reads.built_at _ [.int .i64 6] 3 1 _ (by first | omega | simp)) (by simp) (hc ▸ (HR.out.alloc _).mach.cell 9 rfl) ((HC.out.alloc _).cell 3 rfl)).mono ?_; rintro x w' ⟨hx, rfl⟩; rw [HW.out] at hx; subst hx; generalize hW2 : World.alloc _ _ = W2; replace HR := hid (show Rep B W2 bm G from hW2 ▸ HR.out.alloc _); replace HE := hid (show Blk W2 be 31 (evC e) from hW2 ▸ HE.out.alloc _); replace HBW := hid (show Below be w W2 from hW2 ▸ (HBW.out.alloc (Nat.le_of_lt HEp.out.lt) _)); replace HC := hid (show Blk W2 b 126 (clC c) from hW2 ▸ HC.out.alloc _); clear hW2; clear HEp; have m_closed : W2.cell? ⟨bm, 2, none⟩ = some (.bool G.closed) := HR.out.mach.cell 2 rfl; rw [hcl] at m_closed)
      go_ret
      exact Ends.no rfl (HBW.out.mono hB) HP.out
  · have HW := hid (show decide (c.bg.what ∈ [6]) = false by simp [hw])
    have HP := hid (show closeM G.ma c e = none by unfold closeM; simp [hw, Gm.ma])
    go_wp2_with (go_at_call 102; generalize hW : World.alloc w _ = W; obtain ⟨hR, hE, hBW, hsz⟩ := HH.out.boxed e hW; clear hW HH; generalize hBE : w.heap.size = be at *; have HR := hid hR; have HE := hid hE; have HBW := hid hBW; have HC : Hid (Blk W b 126 (clC c)) := (HR.out.cl _ (List.mem_of_getElem? hi)).1; clear hR hE hBW; have HE0 := hid HE.out; have HEp := hid HE.out; refine (what_any (c := c) [6] _ _ (Reads.built_at _ [.int .i64 6] 3 1 _ (by first | omega | simp)) (by simp) (hc ▸ (HR.out.alloc _).mach.cell 9 rfl) ((HC.out.alloc _).cell 3 rfl)).mono ?_; rintro x w' ⟨hx, rfl⟩; rw [HW.out] at hx; subst hx; generalize hW2 : World.alloc _ _ = W2; replace HR := hid (show Rep B W2 bm G from hW2 ▸ HR.out.alloc _); replace HE := hid (show Blk W2 be 31 (evC e) from hW2 ▸ HE.out.alloc _); replace HBW := hid (show Below be w W2 from hW2 ▸ (HBW.out.alloc (Nat.le_of_lt HEp.out.lt) _)); replace HC := hid (show Blk W2 b 126 (clC c) from hW2 ▸ HC.out.alloc _); clear hW2; clear HEp; have m_closed : W2.cell? ⟨bm, 2, none⟩ = some (.bool G.closed) := HR.out.mach.cell 2 rfl)
    go_ret
    exact Ends.no rfl (HBW.out.mono hB) HP.out
end Go.Proofs.Ytpnkkdpggofanaa

namespace Go.Proofs.Ytpnkkdpggofanaa
open Go.RowKit

set_option maxRecDepth 4000 in
set_option maxHeartbeats 8000000 in
theorem answer_any (B : Nat) (w : World) {bm b i : Nat} {c : Cl} {G : Gm} (h : Rep B w bm G) (hB : B ≤ w.heap.size) (hi : G.cs[i]? = some (b, c)) (hc : G.cp = ptrV b) (e : Ev) (_he : e.wf) :
    Calls Try.prog 79 #[ptrV bm, evV e] w fun x w' => Ends B bm w (answerM G.ma i c e) x w' := by
  go_enter Try.func79, Try.ntmps79
  go_wp2
  generalize hW : w.alloc _ = W
  obtain ⟨hR, hE, hBW, hsz⟩ := h.boxed e hW
  clear hW h
  generalize hBE : w.heap.size = be at *
  have HR := hid hR
  have HE := hid hE
  have HBW := hid hBW
  have HC : Hid (Blk W b 126 (clC c)) := (HR.out.cl _ (List.mem_of_getElem? hi)).1
  clear hR hE hBW
  have m_c : W.cell? ⟨bm, 9, none⟩ = some (ptrV b) := hc ▸ HR.out.mach.cell 9 rfl
  have e_id : W.cell? ⟨be, 4, none⟩ = some (.int .u64 e.id) := HE.out.cell 4 rfl
  have e_gen : W.cell? ⟨be, 5, none⟩ = some (.int .u64 e.gen) := HE.out.cell 5 rfl
  have e_err : W.cell? ⟨be, 9, none⟩ = some (.int .i64 e.err) := HE.out.cell 9 rfl
  have c_cid : W.cell? ⟨b, 12, none⟩ = some (.int .u64 c.id) := HC.out.cell 12 rfl
  have c_cgen : W.cell? ⟨b, 13, none⟩ = some (.int .u64 c.gen) := HC.out.cell 13 rfl
  have c_cerr : W.cell? ⟨b, 14, none⟩ = some (.int .i64 c.err) := HC.out.cell 14 rfl
  by_cases h1 : e.id = c.id
  · have h1' : (e.id != c.id) = false := by simp [h1]
    by_cases h2 : e.gen = c.gen
    · have h2' : (e.gen != c.gen) = false := by simp [h2]
      by_cases h3 : e.err = c.err
      · have h3' : (e.err != c.err) = false := by simp [h3]
        have HP := hid (show answerM G.ma i c e = some ({ G with cs := G.cs.set i (b, { c with opn := false }), opn := aput G.opn e.thr false } : Gm).ma by rw [opn_ma hi]; unfold answerM; simp [h1, h2, h3]; rfl)
        go_quiet (fail)
        generalize hW1 : W.drewN _ = W1
        replace HR := hid (show Rep B W1 bm G from hW1 ▸ HR.out.drewN _)
        replace HE := hid (show Blk W1 be 31 (evC e) from hW1 ▸ HE.out)
        replace HBW := hid (show Below be w W1 from hW1 ▸ below_drewN HBW.out _)
        replace HC := hid (show Blk W1 b 126 (clC c) from hW1 ▸ HC.out)
        clear hW1
        have m_c : W1.cell? ⟨bm, 9, none⟩ = some (ptrV b) := hc ▸ HR.out.mach.cell 9 rfl
        have c_opn : W1.cell? ⟨b, 10, none⟩ = some (.bool c.opn) := HC.out.cell 10 rfl
        have f10 := HC.out.frozen 10
        go_wp2
        generalize hW2 : W1.setCell ⟨b, 10, none⟩ (.bool false) = W2
        have hch := hid (show Chg (· = b) W1 W2 from hW2 ▸ (Chg.refl (· = b) W1).sets rfl 10 (.bool false))
        have hBb := (HR.out.cl _ (List.mem_of_getElem? hi)).2.1
        have HB := hid (below_chg (HBW.out.mono hB) (by omega) hch.out (fun k hk => hk ▸ hBb))
        replace HE := hid (HE.out.chg hch.out (fun h => HE.out.ne HC.out (by decide) h))
        have hBw : B ≤ w.heap.size := by omega
        replace HR := hid (HR.out.cset hi hch.out (c' := { c with opn := false }) (show Blk W2 b _ (clC _) from hW2 ▸ HC.out.set 10 (.bool false)) ⟨(HR.out.cl _ (List.mem_of_getElem? hi)).2.2.bg⟩)
        clear hch HBW HC hW2 m_c c_opn f10
        generalize hG : ({ G with cs := G.cs.set i (b, { c with opn := false }) } : Gm) = G1 at HR
        have ho : G1.bo = G.bo ∧ G1.opn = G.opn := by subst hG; exact ⟨rfl, rfl⟩
        have m_open : W2.cell? ⟨bm, 6, none⟩ = some (.map (some G.bo)) := ho.1 ▸ HR.out.mach.cell 6 rfl
        have e_thr : W2.cell? ⟨be, 1, none⟩ = some (.int .i64 e.thr) := HE.out.cell 1 rfl
        go_still_tail 6, (by kernel_rfl)
        refine (show wpList _ _ _ _ _ W2.drew from ?_)
        generalize hW3 : W2.drew = WD
        have HR3 := hid (show Rep B WD bm G1 from hW3 ▸ HR.out.drew)
        have HM := hid (show MapIs (Value.int .i64) Value.bool WD G.bo G.opn from ho.1 ▸ ho.2 ▸ HR3.out.opn)
        have HB3 := hid (show Below B w WD from hW3 ▸ HB.out.drew)
        clear hW3
        go_wp2_with (refine wpList_update _ rfl 82 _ _ _ rfl (keyLaw_int Try.underlying3) Try.underlying82 G.bo G.opn HM.out rfl e.thr rfl false rfl ?_; intro w4 hm4 hg4 hs4; have HR4 := hid (HR3.out.oset (ho.1 ▸ Chg.of_grown hg4 (fun k hk => (Option.some.inj hk).symm)) (show MapIs (Value.int .i64) Value.bool w4 G1.bo (aput G.opn e.thr false) from ho.1.symm ▸ hm4)); have HB4 := hid (HB3.out.trans ((Chg.of_grown (S := (· = G.bo)) hg4 (fun k hk => (Option.some.inj hk).symm)).below (Nat.le_trans hBw HB3.out.size) (fun k hk => hk ▸ ho.1 ▸ HR3.out.base.2.1))); clear hm4 hg4 hs4)
        go_ret
        subst hG
        exact Ends.yes (G' := { G with cs := G.cs.set i (b, { c with opn := false }), opn := aput G.opn e.thr false }) rfl HB4.out HP.out HR4.out
      · have h3' : (e.err != c.err) = true := by simp [h3]
        have HP := hid (show answerM G.ma i c e = none by unfold answerM; simp [h1, h2, h3])
        go_quiet (fail)
        go_wp2
        go_ret
        exact Ends.no rfl (below_drewN (HBW.out.mono hB) _) HP.out
    · have h2' : (e.gen != c.gen) = true := by simp [h2]
      have HP := hid (show answerM G.ma i c e = none by unfold answerM; simp [h1, h2])
      go_quiet (fail)
      go_wp2
      go_ret
      exact Ends.no rfl (below_drewN (HBW.out.mono hB) _) HP.out
  · have h1' : (e.id != c.id) = true := by simp [h1]
    have HP := hid (show answerM G.ma i c e = none by unfold answerM; simp [h1])
    go_quiet (fail)
    go_wp2
    go_ret
    exact Ends.no rfl (below_drewN (HBW.out.mono hB) _) HP.out
end Go.Proofs.Ytpnkkdpggofanaa

namespace Go.Proofs.Ytpnkkdpggofanaa
open Go.RowKit

set_option maxRecDepth 4000 in
set_option maxHeartbeats 8000000 in
theorem end_any (B : Nat) (w : World) {bm b i : Nat} {c : Cl} {G : Gm} (h : Rep B w bm G) (hB : B ≤ w.heap.size) (hi : G.cs[i]? = some (b, c)) (hc : G.cp = ptrV b) (e : Ev) (_he : e.wf) :
    Calls Try.prog 88 #[ptrV bm, evV e] w fun x w' => Ends B bm w (endM G.ma i e) x w' := by
  go_enter Try.func88, Try.ntmps88
  go_wp2
  generalize hW : w.alloc _ = W
  obtain ⟨hR, hE, hBW, hsz⟩ := h.boxed e hW
  clear hW h
  generalize hBE : w.heap.size = be at *
  have HR := hid hR
  have HE := hid hE
  have HBW := hid hBW
  have HC : Hid (Blk W b 126 (clC c)) := (HR.out.cl _ (List.mem_of_getElem? hi)).1
  clear hR hE hBW
  have m_closed : W.cell? ⟨bm, 2, none⟩ = some (.bool G.closed) := HR.out.mach.cell 2 rfl
  have m_closer : W.cell? ⟨bm, 4, none⟩ = some (.int .i64 G.closer) := HR.out.mach.cell 4 rfl
  have m_live : W.cell? ⟨bm, 8, none⟩ = some (.map (some G.bl)) := HR.out.mach.cell 8 rfl
  have e_call : W.cell? ⟨be, 2, none⟩ = some (.int .i64 e.call) := HE.out.cell 2 rfl
  have hl := fun n => (HR.out.drewN n).len
  have hBw : B ≤ w.heap.size := Nat.le_trans hB (Nat.le_of_eq hBE.symm)
  cases h1 : G.closed
  · rw [h1] at m_closed
    have HP := hid (show endM G.ma i e = none by unfold endM; rw [lv_len]; simp [h1, Gm.ma])
    go_quiet (fail)
    go_wp2
    go_ret
    exact Ends.no rfl (below_drewN (HBW.out.mono hB) _) HP.out
  · by_cases h2 : G.closer = e.call
    · have h2' : (G.closer != e.call) = false := by simp [h2]
      by_cases h3 : G.lv.length = 0
      · have h3' : decide (0 < (G.lv.length : Int)) = false := decide_eq_false (by omega)
        rw [h1] at m_closed
        have HP := hid (show endM G.ma i e = some (fin ({ G with ended := true } : Gm).ma i 0 0 0) by unfold endM; rw [lv_len]; simp [h1, h2, h3, Gm.ma])
        go_quiet (fail)
        clear hl m_closed m_closer m_live
        generalize hW1 : W.drewN _ = W1
        replace HR := hid (show Rep B W1 bm G from hW1 ▸ HR.out.drewN _)
        replace HE := hid (show Blk W1 be 31 (evC e) from hW1 ▸ HE.out)
        replace HBW := hid (show Below be w W1 from hW1 ▸ below_drewN HBW.out _)
        replace HC := hid (show Blk W1 b 126 (clC c) from hW1 ▸ HC.out)
        clear hW1
        have m_ended : W1.cell? ⟨bm, 3, none⟩ = some (.bool G.ended) := HR.out.mach.cell 3 rfl
        have f3 := HR.out.mach.frozen 3
        go_wp2_with (generalize hW2 : W1.setCell ⟨bm, 3, none⟩ (.bool true) = W2; have hch := hid (show Chg (· = bm) W1 W2 from hW2 ▸ (Chg.refl (· = bm) W1).sets rfl 3 (.bool true)); have HB := hid (below_chg (HBW.out.mono hB) hBw hch.out (fun k hk => hk ▸ HR.out.base.1)); replace HR := hid (HR.out.mset hch.out (closed := G.closed) (closer := G.closer) (room := G.room) (cp := G.cp) (ended := true) HR.out.now (show Blk W2 bm _ (mC _) from hW2 ▸ HR.out.mach.set 3 (.bool true))); clear hch hW2 HBW HC m_ended f3; go_at_call 105; refine (finish_any B _ (G := { G with ended := true }) HR.out hi hc (0) (0) (0)).mono ?_; rintro x w5 ⟨rfl, hr5, hc5⟩; have HR5 := hid hr5; have HB5 := hid (HB.out.trans (hc5.below (Nat.le_trans hBw HB.out.size) (fun k hk => hk ▸ (HR.out.cl _ (List.mem_of_getElem? hi)).2.1))); clear hr5 hc5)
        go_ret
        exact Ends.yes rfl HB5.out (by rw [HP.out, ← fin_ma (G := { G with ended := true }) hi]) HR5.out
      · have h3' : decide (0 < (G.lv.length : Int)) = true := decide_eq_true (by omega)
        rw [h1] at m_closed
        have HP := hid (show endM G.ma i e = none by unfold endM; rw [lv_len]; simp [h1, h2, h3, Gm.ma])
        go_quiet (fail)
        go_wp2
        go_ret
        exact Ends.no rfl (below_drewN (HBW.out.mono hB) _) HP.out
    · have h2' : (G.closer != e.call) = true := by simp [h2]
      rw [h1] at m_closed
      have HP := hid (show endM G.ma i e = none by unfold endM; rw [lv_len]; simp [h1, h2, Gm.ma])
      go_quiet (fail)
      go_wp2
      go_ret
      exact Ends.no rfl (below_drewN (HBW.out.mono hB) _) HP.out
end Go.Proofs.Ytpnkkdpggofanaa

namespace Go.Proofs.Ytpnkkdpggofanaa
open Go.RowKit

set_option maxRecDepth 4000 in
set_option maxHeartbeats 8000000 in
theorem leave_any (B : Nat) (w : World) {bm b i : Nat} {c : Cl} {G : Gm} (h : Rep B w bm G) (hB : B ≤ w.heap.size) (hi : G.cs[i]? = some (b, c)) (_hc : G.cp = ptrV b) (e : Ev) (_he : e.wf) :
    Calls Try.prog 87 #[ptrV bm, evV e] w fun x w' => Ends B bm w (leaveM G.ma e) x w' := by
  go_enter Try.func87, Try.ntmps87
  go_wp2
  generalize hW : w.alloc _ = W
  obtain ⟨hR, hE, hBW, hsz⟩ := h.boxed e hW
  clear hW h
  generalize hBE : w.heap.size = be at *
  have HR := hid hR
  have HE := hid hE
  have HBW := hid hBW
  have HC : Hid (Blk W b 126 (clC c)) := (HR.out.cl _ (List.mem_of_getElem? hi)).1
  clear hR hE hBW
  cases hg : aget G.lv e.id with
  | none =>
    have hlp : liveP G e.id = .pointer none := by simp [liveP, hg]
    have HG := hid hg
    have m_live : W.cell? ⟨bm, 8, none⟩ = some (.map (some G.bl)) := HR.out.mach.cell 8 rfl
    have e_id : W.cell? ⟨be, 4, none⟩ = some (.int .u64 e.id) := HE.out.cell 4 rfl
    have hl := fun n => (HR.out.drewN n).look e.id
    rw [hlp] at hl
    clear hg hlp
    go_quiet (fail)
    go_wp2
    clear m_live e_id hl
    generalize hW1 : W.drewN _ = W1
    replace HR := hid (show Rep B W1 bm G from hW1 ▸ HR.out.drewN _)
    replace HE := hid (show Blk W1 be 31 (evC e) from hW1 ▸ HE.out)
    replace HBW := hid (show Below be w W1 from hW1 ▸ below_drewN HBW.out _)
    replace HC := hid (show Blk W1 b 126 (clC c) from hW1 ▸ HC.out)
    clear hW1
    have m_closed : W1.cell? ⟨bm, 2, none⟩ = some (.bool G.closed) := HR.out.mach.cell 2 rfl
    have m_closer : W1.cell? ⟨bm, 4, none⟩ = some (.int .i64 G.closer) := HR.out.mach.cell 4 rfl
    have e_call : W1.cell? ⟨be, 2, none⟩ = some (.int .i64 e.call) := HE.out.cell 2 rfl
    have hN := lv_none HG.out
    cases h1 : G.closed
    · rw [h1] at m_closed
      have HP := hid (show leaveM G.ma e = none by unfold leaveM; rw [hN]; simp [Gm.ma, h1])
      clear hN
      go_quiet (fail)
      go_wp2
      go_ret
      exact Ends.no rfl (below_drewN (HBW.out.mono hB) _) HP.out
    · by_cases h2 : G.closer = e.call
      · have h2' : (G.closer != e.call) = false := by simp [h2]
        rw [h1] at m_closed
        have HP := hid (show leaveM G.ma e = none by unfold leaveM; rw [hN]; simp [Gm.ma, h1, h2])
        clear hN
        go_quiet (fail)
        go_wp2
        go_ret
        exact Ends.no rfl (below_drewN (HBW.out.mono hB) _) HP.out
      · have h2' : (G.closer != e.call) = true := by simp [h2]
        rw [h1] at m_closed
        have HP := hid (show leaveM G.ma e = none by unfold leaveM; rw [hN]; simp [Gm.ma, h1, h2])
        clear hN
        go_quiet (fail)
        go_wp2
        go_ret
        exact Ends.no rfl (below_drewN (HBW.out.mono hB) _) HP.out
  | some p =>
    obtain ⟨bt, t⟩ := p
    have hlp : liveP G e.id = ptrV bt := by simp [liveP, hg]
    have HG := hid hg
    have m_live : W.cell? ⟨bm, 8, none⟩ = some (.map (some G.bl)) := HR.out.mach.cell 8 rfl
    have e_id : W.cell? ⟨be, 4, none⟩ = some (.int .u64 e.id) := HE.out.cell 4 rfl
    have hl := fun n => (HR.out.drewN n).look e.id
    rw [hlp] at hl
    clear hg hlp
    go_quiet (fail)
    go_wp2
    clear m_live e_id hl
    generalize hW1 : W.drewN _ = W1
    replace HR := hid (show Rep B W1 bm G from hW1 ▸ HR.out.drewN _)
    replace HE := hid (show Blk W1 be 31 (evC e) from hW1 ▸ HE.out)
    replace HBW := hid (show Below be w W1 from hW1 ▸ below_drewN HBW.out _)
    replace HC := hid (show Blk W1 b 126 (clC c) from hW1 ▸ HC.out)
    clear hW1
    have HT : Hid (Blk W1 bt 151 (tmC t)) := (HR.out.tm _ ((aget_mem HR.out.live.nodup).1 HG.out)).1
    have m_closed : W1.cell? ⟨bm, 2, none⟩ = some (.bool G.closed) := HR.out.mach.cell 2 rfl
    have m_closer : W1.cell? ⟨bm, 4, none⟩ = some (.int .i64 G.closer) := HR.out.mach.cell 4 rfl
    have e_call : W1.cell? ⟨be, 2, none⟩ = some (.int .i64 e.call) := HE.out.cell 2 rfl
    have e_gen : W1.cell? ⟨be, 5, none⟩ = some (.int .u64 e.gen) := HE.out.cell 5 rfl
    have t_b : W1.cell? ⟨bt, 5, none⟩ = some (.bool t.btw) := HT.out.cell 5 rfl
    have t_g : W1.cell? ⟨bt, 0, none⟩ = some (.int .u64 t.gen) := HT.out.cell 0 rfl
    have hN := lv_some HG.out
    cases h1 : G.closed
    · rw [h1] at m_closed
      have HP := hid (show leaveM G.ma e = none by unfold leaveM; rw [hN]; simp [h1, Gm.ma])
      clear hN
      go_quiet (fail)
      go_wp2
      go_ret
      exact Ends.no rfl (below_drewN (HBW.out.mono hB) _) HP.out
    · by_cases h2 : G.closer = e.call
      · have h2' : (G.closer != e.call) = false := by simp [h2]
        cases h3 : t.btw
        · by_cases h4 : e.gen = t.gen
          · have h4' : (e.gen != t.gen) = false := by simp [h4]
            rw [h1] at m_closed
            rw [h3] at t_b
            have HP := hid (show leaveM G.ma e = some (delLive G.ma e.id) by unfold leaveM; rw [hN]; simp [h1, h2, h3, h4, Gm.ma, delLive])
            clear hN
            go_quiet (fail)
            clear m_closed m_closer e_call e_gen t_b t_g
            generalize hW1 : W1.drewN _ = W3
            replace HR := hid (show Rep B W3 bm G from hW1 ▸ HR.out.drewN _)
            replace HE := hid (show Blk W3 be 31 (evC e) from hW1 ▸ HE.out)
            replace HBW := hid (show Below be w W3 from hW1 ▸ below_drewN HBW.out _)
            replace HC := hid (show Blk W3 b 126 (clC c) from hW1 ▸ HC.out)
            clear hW1
            replace HT : Hid (Blk W3 bt 151 (tmC t)) := (HR.out.tm _ ((aget_mem HR.out.live.nodup).1 HG.out)).1
            have m_live : W3.cell? ⟨bm, 8, none⟩ = some (.map (some G.bl)) := HR.out.mach.cell 8 rfl
            have e_id : W3.cell? ⟨be, 4, none⟩ = some (.int .u64 e.id) := HE.out.cell 4 rfl
            have t_g : W3.cell? ⟨bt, 0, none⟩ = some (.int .u64 t.gen) := HT.out.cell 0 rfl
            go_wp2
            go_still_tail 6, (by kernel_rfl)
            refine (show wpList _ _ _ _ _ W3.drew from ?_)
            generalize hW3 : W3.drew = WD
            have HR3 := hid (show Rep B WD bm G from hW3 ▸ HR.out.drew)
            have HM := hid HR3.out.live
            have HB3 := hid (show Below be w WD from hW3 ▸ HBW.out.drew)
            clear hW3
            go_wp2_with (refine wpList_delete _ rfl 97 29 _ _ rfl (keyLaw_int Try.underlying29) Try.underlying97 G.bl G.lv (bt, t) HM.out rfl e.id rfl ?_; intro w4 hm4 hg4 hs4; have HR4 := hid (HR3.out.ldel (Chg.of_grown hg4 (fun k hk => (Option.some.inj hk).symm)) hm4); have HB4 := hid ((HB3.out.mono hB).trans ((Chg.of_grown (S := (· = G.bl)) hg4 (fun k hk => (Option.some.inj hk).symm)).below (Nat.le_trans (by omega) HB3.out.size) (fun k hk => hk ▸ HR3.out.base.2.2.2))); clear hm4 hg4 hs4)
            go_ret
            exact Ends.yes (G' := { G with lv := adel G.lv e.id }) rfl HB4.out (by rw [HP.out, delLive_ma]) HR4.out
          · have h4' : (e.gen != t.gen) = true := by simp [h4]
            rw [h1] at m_closed
            rw [h3] at t_b
            have HP := hid (show leaveM G.ma e = none by unfold leaveM; rw [hN]; simp [h1, h2, h3, h4, Gm.ma])
            clear hN
            go_quiet (fail)
            go_wp2
            go_ret
            exact Ends.no rfl (below_drewN (HBW.out.mono hB) _) HP.out
        · rw [h1] at m_closed
          rw [h3] at t_b
          have HP := hid (show leaveM G.ma e = none by unfold leaveM; rw [hN]; simp [h1, h2, h3, Gm.ma])
          clear hN
          go_quiet (fail)
          go_wp2
          go_ret
          exact Ends.no rfl (below_drewN (HBW.out.mono hB) _) HP.out
      · have h2' : (G.closer != e.call) = true := by simp [h2]
        rw [h1] at m_closed
        have HP := hid (show leaveM G.ma e = none by unfold leaveM; rw [hN]; simp [h1, h2, Gm.ma])
        clear hN
        go_quiet (fail)
        go_wp2
        go_ret
        exact Ends.no rfl (below_drewN (HBW.out.mono hB) _) HP.out
end Go.Proofs.Ytpnkkdpggofanaa

namespace Go.Proofs.Ytpnkkdpggofanaa
open Go.RowKit

set_option maxRecDepth 4000 in
set_option maxHeartbeats 8000000 in
theorem over_any (B : Nat) (w : World) {bm b i : Nat} {c : Cl} {G : Gm} (h : Rep B w bm G) (hB : B ≤ w.heap.size) (hi : G.cs[i]? = some (b, c)) (hc : G.cp = ptrV b) (e : Ev) (_he : e.wf) :
    Calls Try.prog 78 #[ptrV bm, evV e] w fun x w' => Ends B bm w (overM G.ma c e) x w' := by
  go_enter Try.func78, Try.ntmps78
  go_wp2
  generalize hW : w.alloc _ = W
  obtain ⟨hR, hE, hBW, hsz⟩ := h.boxed e hW
  clear hW h
  generalize hBE : w.heap.size = be at *
  have HR := hid hR
  have HE := hid hE
  have HBW := hid hBW
  have HC : Hid (Blk W b 126 (clC c)) := (HR.out.cl _ (List.mem_of_getElem? hi)).1
  clear hR hE hBW
  cases hg : aget G.lv e.id with
  | none =>
    have hlp : liveP G e.id = .pointer none := by simp [liveP, hg]
    have HG := hid hg
    have m_live : W.cell? ⟨bm, 8, none⟩ = some (.map (some G.bl)) := HR.out.mach.cell 8 rfl
    have e_id : W.cell? ⟨be, 4, none⟩ = some (.int .u64 e.id) := HE.out.cell 4 rfl
    have hl := fun n => (HR.out.drewN n).look e.id
    rw [hlp] at hl
    clear hg hlp
    go_quiet (fail)
    go_wp2
    clear m_live e_id hl
    generalize hW1 : W.drewN _ = W1
    replace HR := hid (show Rep B W1 bm G from hW1 ▸ HR.out.drewN _)
    replace HE := hid (show Blk W1 be 31 (evC e) from hW1 ▸ HE.out)
    replace HBW := hid (show Below be w W1 from hW1 ▸ below_drewN HBW.out _)
    replace HC := hid (show Blk W1 b 126 (clC c) from hW1 ▸ HC.out)
    clear hW1
    have HP := hid (show overM G.ma c e = none by unfold overM; rw [lv_none HG.out])
    by_cases hw : c.bg.what = 7
    · have HW := hid (show decide (c.bg.what ∈ [7]) = true by simp [hw])
      have HE0 := hid HE.out
      refine wp_region_any (by kernel_rfl) ?_
      show wpAny _ _ _ _ 35 _ _ W1.drew
      refine wpAny_take (i := 0) (v := ptrV bm) rfl (by kernel_rfl) (by kernel_rfl) (by kernel_rfl) (fun _ _ _ h => h) (Or.inl ⟨by rfl, fun w => by go_simp⟩) ?_
      refine wpAny_step (k := 1) (by kernel_rfl) rfl (fun K hK => ?_)
      go_simp
      refine hK.out _ _ ?_
      clear hK K
      refine wpAny_step (k := 2) (by kernel_rfl) rfl (fun K hK => ?_)
      go_simp
      refine (what_any (c := c) [7] _ _ (Reads.built_at _ [.int .i64 7] 3 1 _ (by simp)) (by simp) (hc ▸ (HR.out.drew.alloc _).mach.cell 9 rfl) ((HC.out.drew.alloc _).cell 3 rfl)).mono ?_
      rintro x w' ⟨hx, rfl⟩
      rw [HW.out] at hx
      subst hx
      refine hK.out _ _ ?_
      clear hK K
      refine wpAny_quiet_rest (k := 3) _ (by kernel_rfl) (by kernel_rfl) rfl (by kernel_rfl) ?_
      simp only [List.drop_succ_cons, List.drop_zero]
      generalize hW2 : W1.drew.alloc _ = W2
      replace HR := hid (show Rep B W2 bm G from hW2 ▸ HR.out.drew.alloc _)
      replace HE := hid (show Blk W2 be 31 (evC e) from hW2 ▸ HE.out.drew.alloc _)
      replace HBW := hid (show Below be w W2 from hW2 ▸ (HBW.out.drew.alloc (Nat.le_trans (Nat.le_of_lt HE0.out.lt) (by simp)) _))
      replace HC := hid (show Blk W2 b 126 (clC c) from hW2 ▸ HC.out.drew.alloc _)
      clear hW2 HE0
      repeat (go_big_quiet_step (fail))
      refine wpQuiet_nil ?_
      intro _ hw'
      obtain ⟨nq, hw''⟩ := hw'
      subst hw''
      go_wp2
      go_ret
      exact Ends.no rfl (below_drewN (HBW.out.mono hB) _) HP.out
    · have HW := hid (show decide (c.bg.what ∈ [7]) = false by simp [hw])
      have HE0 := hid HE.out
      refine wp_region_any (by kernel_rfl) ?_
      show wpAny _ _ _ _ 35 _ _ W1.drew
      refine wpAny_take (i := 0) (v := ptrV bm) rfl (by kernel_rfl) (by kernel_rfl) (by kernel_rfl) (fun _ _ _ h => h) (Or.inl ⟨by rfl, fun w => by go_simp⟩) ?_
      refine wpAny_step (k := 1) (by kernel_rfl) rfl (fun K hK => ?_)
      go_simp
      refine hK.out _ _ ?_
      clear hK K
      refine wpAny_step (k := 2) (by kernel_rfl) rfl (fun K hK => ?_)
      go_simp
      refine (what_any (c := c) [7] _ _ (Reads.built_at _ [.int .i64 7] 3 1 _ (by simp)) (by simp) (hc ▸ (HR.out.drew.alloc _).mach.cell 9 rfl) ((HC.out.drew.alloc _).cell 3 rfl)).mono ?_
      rintro x w' ⟨hx, rfl⟩
      rw [HW.out] at hx
      subst hx
      refine hK.out _ _ ?_
      clear hK K
      refine wpAny_quiet_rest (k := 3) _ (by kernel_rfl) (by kernel_rfl) rfl (by kernel_rfl) ?_
      simp only [List.drop_succ_cons, List.drop_zero]
      generalize hW2 : W1.drew.alloc _ = W2
      replace HR := hid (show Rep B W2 bm G from hW2 ▸ HR.out.drew.alloc _)
      replace HE := hid (show Blk W2 be 31 (evC e) from hW2 ▸ HE.out.drew.alloc _)
      replace HBW := hid (show Below be w W2 from hW2 ▸ (HBW.out.drew.alloc (Nat.le_trans (Nat.le_of_lt HE0.out.lt) (by simp)) _))
      replace HC := hid (show Blk W2 b 126 (clC c) from hW2 ▸ HC.out.drew.alloc _)
      clear hW2 HE0
      repeat (go_big_quiet_step (fail))
      refine wpQuiet_nil ?_
      intro _ hw'
      obtain ⟨nq, hw''⟩ := hw'
      subst hw''
      go_wp2
      go_ret
      exact Ends.no rfl (below_drewN (HBW.out.mono hB) _) HP.out
  | some p =>
    obtain ⟨bt, t⟩ := p
    have hlp : liveP G e.id = ptrV bt := by simp [liveP, hg]
    have HG := hid hg
    have m_live : W.cell? ⟨bm, 8, none⟩ = some (.map (some G.bl)) := HR.out.mach.cell 8 rfl
    have e_id : W.cell? ⟨be, 4, none⟩ = some (.int .u64 e.id) := HE.out.cell 4 rfl
    have hl := fun n => (HR.out.drewN n).look e.id
    rw [hlp] at hl
    clear hg hlp
    go_quiet (fail)
    go_wp2
    clear m_live e_id hl
    generalize hW1 : W.drewN _ = W1
    replace HR := hid (show Rep B W1 bm G from hW1 ▸ HR.out.drewN _)
    replace HE := hid (show Blk W1 be 31 (evC e) from hW1 ▸ HE.out)
    replace HBW := hid (show Below be w W1 from hW1 ▸ below_drewN HBW.out _)
    replace HC := hid (show Blk W1 b 126 (clC c) from hW1 ▸ HC.out)
    clear hW1
    have HT : Hid (Blk W1 bt 151 (tmC t)) := (HR.out.tm _ ((aget_mem HR.out.live.nodup).1 HG.out)).1
    have he1 := hid (HR.out.tm _ ((aget_mem HR.out.live.nodup).1 HG.out)).2.2
    have hN := lv_some HG.out
    by_cases hw : c.bg.what = 7
    · have HW := hid (show decide (c.bg.what ∈ [7]) = true by simp [hw])
      cases hb : t.btw
      · have HP := hid (show overM G.ma c e = none by unfold overM; rw [hN]; simp [hw, hb])
        clear hN
        have HE0 := hid HE.out
        refine wp_region_any (by kernel_rfl) ?_
        show wpAny _ _ _ _ 35 _ _ W1.drew
        refine wpAny_take (i := 0) (v := ptrV bm) rfl (by kernel_rfl) (by kernel_rfl) (by kernel_rfl) (fun _ _ _ h => h) (Or.inl ⟨by rfl, fun w => by go_simp⟩) ?_
        refine wpAny_step (k := 1) (by kernel_rfl) rfl (fun K hK => ?_)
        go_simp
        refine hK.out _ _ ?_
        clear hK K
        refine wpAny_step (k := 2) (by kernel_rfl) rfl (fun K hK => ?_)
        go_simp
        refine (what_any (c := c) [7] _ _ (Reads.built_at _ [.int .i64 7] 3 1 _ (by simp)) (by simp) (hc ▸ (HR.out.drew.alloc _).mach.cell 9 rfl) ((HC.out.drew.alloc _).cell 3 rfl)).mono ?_
        rintro x w' ⟨hx, rfl⟩
        rw [HW.out] at hx
        subst hx
        refine hK.out _ _ ?_
        clear hK K
        refine wpAny_quiet_rest (k := 3) _ (by kernel_rfl) (by kernel_rfl) rfl (by kernel_rfl) ?_
        simp only [List.drop_succ_cons, List.drop_zero]
        generalize hW2 : W1.drew.alloc _ = W2
        replace HR := hid (show Rep B W2 bm G from hW2 ▸ HR.out.drew.alloc _)
        replace HE := hid (show Blk W2 be 31 (evC e) from hW2 ▸ HE.out.drew.alloc _)
        replace HBW := hid (show Below be w W2 from hW2 ▸ (HBW.out.drew.alloc (Nat.le_trans (Nat.le_of_lt HE0.out.lt) (by simp)) _))
        replace HC := hid (show Blk W2 b 126 (clC c) from hW2 ▸ HC.out.drew.alloc _)
        clear hW2 HE0
        replace HT : Hid (Blk W2 bt 151 (tmC t)) := (HR.out.tm _ ((aget_mem HR.out.live.nodup).1 HG.out)).1
        have e_gen : W2.cell? ⟨be, 5, none⟩ = some (.int .u64 e.gen) := HE.out.cell 5 rfl
        have t_b : W2.cell? ⟨bt, 5, none⟩ = some (.bool t.btw) := HT.out.cell 5 rfl
        have t_g : W2.cell? ⟨bt, 0, none⟩ = some (.int .u64 t.gen) := HT.out.cell 0 rfl
        have t_d : W2.cell? ⟨bt, 1, none⟩ = some (.int .u64 t.dl) := HT.out.cell 1 rfl
        have t_p : W2.cell? ⟨bt, 2, none⟩ = some (.int .u64 t.per) := HT.out.cell 2 rfl
        rw [hb] at t_b
        repeat (go_big_quiet_step (fail))
        refine wpQuiet_nil ?_
        intro _ hw'
        obtain ⟨nq, hw''⟩ := hw'
        subst hw''
        go_wp2
        go_ret
        exact Ends.no rfl (below_drewN (HBW.out.mono hB) _) HP.out
      · by_cases hgn : e.gen = t.gen
        · have hgn' : (e.gen != t.gen) = false := by simp [hgn]
          by_cases hf : fitsB t.dl t.per = false
          · have HF := hid hf
            have HP := hid (show overM G.ma c e = some (delLive G.ma e.id) by unfold overM; rw [hN]; simp [hw, hb, hgn, hf])
            clear hN
            have HE0 := hid HE.out
            refine wp_region_any (by kernel_rfl) ?_
            show wpAny _ _ _ _ 35 _ _ W1.drew
            refine wpAny_take (i := 0) (v := ptrV bm) rfl (by kernel_rfl) (by kernel_rfl) (by kernel_rfl) (fun _ _ _ h => h) (Or.inl ⟨by rfl, fun w => by go_simp⟩) ?_
            refine wpAny_step (k := 1) (by kernel_rfl) rfl (fun K hK => ?_)
            go_simp
            refine hK.out _ _ ?_
            clear hK K
            refine wpAny_step (k := 2) (by kernel_rfl) rfl (fun K hK => ?_)
            go_simp
            refine (what_any (c := c) [7] _ _ (Reads.built_at _ [.int .i64 7] 3 1 _ (by simp)) (by simp) (hc ▸ (HR.out.drew.alloc _).mach.cell 9 rfl) ((HC.out.drew.alloc _).cell 3 rfl)).mono ?_
            rintro x w' ⟨hx, rfl⟩
            rw [HW.out] at hx
            subst hx
            refine hK.out _ _ ?_
            clear hK K
            refine wpAny_quiet_rest (k := 3) _ (by kernel_rfl) (by kernel_rfl) rfl (by kernel_rfl) ?_
            simp only [List.drop_succ_cons, List.drop_zero]
            generalize hW2 : W1.drew.alloc _ = W2
            replace HR := hid (show Rep B W2 bm G from hW2 ▸ HR.out.drew.alloc _)
            replace HE := hid (show Blk W2 be 31 (evC e) from hW2 ▸ HE.out.drew.alloc _)
            replace HBW := hid (show Below be w W2 from hW2 ▸ (HBW.out.drew.alloc (Nat.le_trans (Nat.le_of_lt HE0.out.lt) (by simp)) _))
            replace HC := hid (show Blk W2 b 126 (clC c) from hW2 ▸ HC.out.drew.alloc _)
            clear hW2 HE0
            replace HT : Hid (Blk W2 bt 151 (tmC t)) := (HR.out.tm _ ((aget_mem HR.out.live.nodup).1 HG.out)).1
            have e_gen : W2.cell? ⟨be, 5, none⟩ = some (.int .u64 e.gen) := HE.out.cell 5 rfl
            have t_b : W2.cell? ⟨bt, 5, none⟩ = some (.bool t.btw) := HT.out.cell 5 rfl
            have t_g : W2.cell? ⟨bt, 0, none⟩ = some (.int .u64 t.gen) := HT.out.cell 0 rfl
            have t_d : W2.cell? ⟨bt, 1, none⟩ = some (.int .u64 t.dl) := HT.out.cell 1 rfl
            have t_p : W2.cell? ⟨bt, 2, none⟩ = some (.int .u64 t.per) := HT.out.cell 2 rfl
            rw [hb] at t_b
            repeat (go_big_quiet_step ((go_at_call 103; exact quiet_of_eq (HF.out ▸ fits_any _ _ _ he1.out.dl he1.out.per))))
            refine wpQuiet_nil ?_
            intro _ hw'
            obtain ⟨nq, hw''⟩ := hw'
            subst hw''
            clear e_gen t_b t_g t_d t_p
            generalize hW1 : W2.drewN _ = W3
            replace HR := hid (show Rep B W3 bm G from hW1 ▸ HR.out.drewN _)
            replace HE := hid (show Blk W3 be 31 (evC e) from hW1 ▸ HE.out)
            replace HBW := hid (show Below be w W3 from hW1 ▸ below_drewN HBW.out _)
            replace HC := hid (show Blk W3 b 126 (clC c) from hW1 ▸ HC.out)
            clear hW1
            replace HT : Hid (Blk W3 bt 151 (tmC t)) := (HR.out.tm _ ((aget_mem HR.out.live.nodup).1 HG.out)).1
            have m_live : W3.cell? ⟨bm, 8, none⟩ = some (.map (some G.bl)) := HR.out.mach.cell 8 rfl
            have e_id : W3.cell? ⟨be, 4, none⟩ = some (.int .u64 e.id) := HE.out.cell 4 rfl
            have t_g : W3.cell? ⟨bt, 0, none⟩ = some (.int .u64 t.gen) := HT.out.cell 0 rfl
            go_wp2
            go_still_tail 6, (by kernel_rfl)
            refine (show wpList _ _ _ _ _ W3.drew from ?_)
            generalize hW3 : W3.drew = WD
            have HR3 := hid (show Rep B WD bm G from hW3 ▸ HR.out.drew)
            have HM := hid HR3.out.live
            have HB3 := hid (show Below be w WD from hW3 ▸ HBW.out.drew)
            clear hW3
            go_wp2_with (refine wpList_delete _ rfl 97 29 _ _ rfl (keyLaw_int Try.underlying29) Try.underlying97 G.bl G.lv (bt, t) HM.out rfl e.id rfl ?_; intro w4 hm4 hg4 hs4; have HR4 := hid (HR3.out.ldel (Chg.of_grown hg4 (fun k hk => (Option.some.inj hk).symm)) hm4); have HB4 := hid ((HB3.out.mono hB).trans ((Chg.of_grown (S := (· = G.bl)) hg4 (fun k hk => (Option.some.inj hk).symm)).below (Nat.le_trans (by omega) HB3.out.size) (fun k hk => hk ▸ HR3.out.base.2.2.2))); clear hm4 hg4 hs4)
            go_ret
            exact Ends.yes (G' := { G with lv := adel G.lv e.id }) rfl HB4.out (by rw [HP.out, delLive_ma]) HR4.out
          · have HF := hid (show fitsB t.dl t.per = true by simpa using hf)
            have HP := hid (show overM G.ma c e = none by unfold overM; rw [hN]; simp [hw, hb, hgn, hf])
            clear hN
            have HE0 := hid HE.out
            refine wp_region_any (by kernel_rfl) ?_
            show wpAny _ _ _ _ 35 _ _ W1.drew
            refine wpAny_take (i := 0) (v := ptrV bm) rfl (by kernel_rfl) (by kernel_rfl) (by kernel_rfl) (fun _ _ _ h => h) (Or.inl ⟨by rfl, fun w => by go_simp⟩) ?_
            refine wpAny_step (k := 1) (by kernel_rfl) rfl (fun K hK => ?_)
            go_simp
            refine hK.out _ _ ?_
            clear hK K
            refine wpAny_step (k := 2) (by kernel_rfl) rfl (fun K hK => ?_)
            go_simp
            refine (what_any (c := c) [7] _ _ (Reads.built_at _ [.int .i64 7] 3 1 _ (by simp)) (by simp) (hc ▸ (HR.out.drew.alloc _).mach.cell 9 rfl) ((HC.out.drew.alloc _).cell 3 rfl)).mono ?_
            rintro x w' ⟨hx, rfl⟩
            rw [HW.out] at hx
            subst hx
            refine hK.out _ _ ?_
            clear hK K
            refine wpAny_quiet_rest (k := 3) _ (by kernel_rfl) (by kernel_rfl) rfl (by kernel_rfl) ?_
            simp only [List.drop_succ_cons, List.drop_zero]
            generalize hW2 : W1.drew.alloc _ = W2
            replace HR := hid (show Rep B W2 bm G from hW2 ▸ HR.out.drew.alloc _)
            replace HE := hid (show Blk W2 be 31 (evC e) from hW2 ▸ HE.out.drew.alloc _)
            replace HBW := hid (show Below be w W2 from hW2 ▸ (HBW.out.drew.alloc (Nat.le_trans (Nat.le_of_lt HE0.out.lt) (by simp)) _))
            replace HC := hid (show Blk W2 b 126 (clC c) from hW2 ▸ HC.out.drew.alloc _)
            clear hW2 HE0
            replace HT : Hid (Blk W2 bt 151 (tmC t)) := (HR.out.tm _ ((aget_mem HR.out.live.nodup).1 HG.out)).1
            have e_gen : W2.cell? ⟨be, 5, none⟩ = some (.int .u64 e.gen) := HE.out.cell 5 rfl
            have t_b : W2.cell? ⟨bt, 5, none⟩ = some (.bool t.btw) := HT.out.cell 5 rfl
            have t_g : W2.cell? ⟨bt, 0, none⟩ = some (.int .u64 t.gen) := HT.out.cell 0 rfl
            have t_d : W2.cell? ⟨bt, 1, none⟩ = some (.int .u64 t.dl) := HT.out.cell 1 rfl
            have t_p : W2.cell? ⟨bt, 2, none⟩ = some (.int .u64 t.per) := HT.out.cell 2 rfl
            rw [hb] at t_b
            repeat (go_big_quiet_step ((go_at_call 103; exact quiet_of_eq (HF.out ▸ fits_any _ _ _ he1.out.dl he1.out.per))))
            refine wpQuiet_nil ?_
            intro _ hw'
            obtain ⟨nq, hw''⟩ := hw'
            subst hw''
            go_wp2
            go_ret
            exact Ends.no rfl (below_drewN (HBW.out.mono hB) _) HP.out
        · have hgn' : (e.gen != t.gen) = true := by simp [hgn]
          have HP := hid (show overM G.ma c e = none by unfold overM; rw [hN]; simp [hw, hb, hgn])
          clear hN
          have HE0 := hid HE.out
          refine wp_region_any (by kernel_rfl) ?_
          show wpAny _ _ _ _ 35 _ _ W1.drew
          refine wpAny_take (i := 0) (v := ptrV bm) rfl (by kernel_rfl) (by kernel_rfl) (by kernel_rfl) (fun _ _ _ h => h) (Or.inl ⟨by rfl, fun w => by go_simp⟩) ?_
          refine wpAny_step (k := 1) (by kernel_rfl) rfl (fun K hK => ?_)
          go_simp
          refine hK.out _ _ ?_
          clear hK K
          refine wpAny_step (k := 2) (by kernel_rfl) rfl (fun K hK => ?_)
          go_simp
          refine (what_any (c := c) [7] _ _ (Reads.built_at _ [.int .i64 7] 3 1 _ (by simp)) (by simp) (hc ▸ (HR.out.drew.alloc _).mach.cell 9 rfl) ((HC.out.drew.alloc _).cell 3 rfl)).mono ?_
          rintro x w' ⟨hx, rfl⟩
          rw [HW.out] at hx
          subst hx
          refine hK.out _ _ ?_
          clear hK K
          refine wpAny_quiet_rest (k := 3) _ (by kernel_rfl) (by kernel_rfl) rfl (by kernel_rfl) ?_
          simp only [List.drop_succ_cons, List.drop_zero]
          generalize hW2 : W1.drew.alloc _ = W2
          replace HR := hid (show Rep B W2 bm G from hW2 ▸ HR.out.drew.alloc _)
          replace HE := hid (show Blk W2 be 31 (evC e) from hW2 ▸ HE.out.drew.alloc _)
          replace HBW := hid (show Below be w W2 from hW2 ▸ (HBW.out.drew.alloc (Nat.le_trans (Nat.le_of_lt HE0.out.lt) (by simp)) _))
          replace HC := hid (show Blk W2 b 126 (clC c) from hW2 ▸ HC.out.drew.alloc _)
          clear hW2 HE0
          replace HT : Hid (Blk W2 bt 151 (tmC t)) := (HR.out.tm _ ((aget_mem HR.out.live.nodup).1 HG.out)).1
          have e_gen : W2.cell? ⟨be, 5, none⟩ = some (.int .u64 e.gen) := HE.out.cell 5 rfl
          have t_b : W2.cell? ⟨bt, 5, none⟩ = some (.bool t.btw) := HT.out.cell 5 rfl
          have t_g : W2.cell? ⟨bt, 0, none⟩ = some (.int .u64 t.gen) := HT.out.cell 0 rfl
          have t_d : W2.cell? ⟨bt, 1, none⟩ = some (.int .u64 t.dl) := HT.out.cell 1 rfl
          have t_p : W2.cell? ⟨bt, 2, none⟩ = some (.int .u64 t.per) := HT.out.cell 2 rfl
          rw [hb] at t_b
          repeat (go_big_quiet_step (fail))
          refine wpQuiet_nil ?_
          intro _ hw'
          obtain ⟨nq, hw''⟩ := hw'
          subst hw''
          go_wp2
          go_ret
          exact Ends.no rfl (below_drewN (HBW.out.mono hB) _) HP.out
    · have HW := hid (show decide (c.bg.what ∈ [7]) = false by simp [hw])
      have HP := hid (show overM G.ma c e = none by unfold overM; rw [hN]; simp [hw])
      clear hN
      have HE0 := hid HE.out
      refine wp_region_any (by kernel_rfl) ?_
      show wpAny _ _ _ _ 35 _ _ W1.drew
      refine wpAny_take (i := 0) (v := ptrV bm) rfl (by kernel_rfl) (by kernel_rfl) (by kernel_rfl) (fun _ _ _ h => h) (Or.inl ⟨by rfl, fun w => by go_simp⟩) ?_
      refine wpAny_step (k := 1) (by kernel_rfl) rfl (fun K hK => ?_)
      go_simp
      refine hK.out _ _ ?_
      clear hK K
      refine wpAny_step (k := 2) (by kernel_rfl) rfl (fun K hK => ?_)
      go_simp
      refine (what_any (c := c) [7] _ _ (Reads.built_at _ [.int .i64 7] 3 1 _ (by simp)) (by simp) (hc ▸ (HR.out.drew.alloc _).mach.cell 9 rfl) ((HC.out.drew.alloc _).cell 3 rfl)).mono ?_
      rintro x w' ⟨hx, rfl⟩
      rw [HW.out] at hx
      subst hx
      refine hK.out _ _ ?_
      clear hK K
      refine wpAny_quiet_rest (k := 3) _ (by kernel_rfl) (by kernel_rfl) rfl (by kernel_rfl) ?_
      simp only [List.drop_succ_cons, List.drop_zero]
      generalize hW2 : W1.drew.alloc _ = W2
      replace HR := hid (show Rep B W2 bm G from hW2 ▸ HR.out.drew.alloc _)
      replace HE := hid (show Blk W2 be 31 (evC e) from hW2 ▸ HE.out.drew.alloc _)
      replace HBW := hid (show Below be w W2 from hW2 ▸ (HBW.out.drew.alloc (Nat.le_trans (Nat.le_of_lt HE0.out.lt) (by simp)) _))
      replace HC := hid (show Blk W2 b 126 (clC c) from hW2 ▸ HC.out.drew.alloc _)
      clear hW2 HE0
      replace HT : Hid (Blk W2 bt 151 (tmC t)) := (HR.out.tm _ ((aget_mem HR.out.live.nodup).1 HG.out)).1
      have e_gen : W2.cell? ⟨be, 5, none⟩ = some (.int .u64 e.gen) := HE.out.cell 5 rfl
      have t_b : W2.cell? ⟨bt, 5, none⟩ = some (.bool t.btw) := HT.out.cell 5 rfl
      have t_g : W2.cell? ⟨bt, 0, none⟩ = some (.int .u64 t.gen) := HT.out.cell 0 rfl
      have t_d : W2.cell? ⟨bt, 1, none⟩ = some (.int .u64 t.dl) := HT.out.cell 1 rfl
      have t_p : W2.cell? ⟨bt, 2, none⟩ = some (.int .u64 t.per) := HT.out.cell 2 rfl
      repeat (go_big_quiet_step (fail))
      refine wpQuiet_nil ?_
      intro _ hw'
      obtain ⟨nq, hw''⟩ := hw'
      subst hw''
      go_wp2
      go_ret
      exact Ends.no rfl (below_drewN (HBW.out.mono hB) _) HP.out
end Go.Proofs.Ytpnkkdpggofanaa
