/- spec's rules by their walks: each does what the plain machine does. -/
import Derived.Test.YtpnkkdpggofanaaSpecC
namespace Go.Proofs.Ytpnkkdpggofanaa
open Go.RowKit

set_option maxRecDepth 4000 in
set_option maxHeartbeats 8000000 in
theorem end_any (B : Nat) (w : World) {bm b i : Nat} {c : Cl} {G : Gm} (h : Rep B w bm G) (hB : B ≤ w.heap.size) (hi : G.cs[i]? = some (b, c)) (hc : G.cp = ptrV b) (e : Ev) (_he : e.wf) :
    Calls Try.prog 88 #[ptrV bm, evV e] w fun x w' => Ends B bm w (endM G.ma i e) x w' := by
  go_enter Try.func88, Try.ntmps88
  go_wp2
  generalize hW : w.alloc _ = W
  obtain ⟨hR, hE, hBW, hsz⟩ := h.boxed e hW
  clear hW h
  generalize hBE : w.heap.size = be at *
  have HR := hid hR
  have HE := hid hE
  have HBW := hid hBW
  have HC : Hid (Blk W b 126 (clC c)) := (HR.out.cl _ (List.mem_of_getElem? hi)).1
  clear hR hE hBW
  have m_closed : W.cell? ⟨bm, 2, none⟩ = some (.bool G.closed) := HR.out.mach.cell 2 rfl
  have m_closer : W.cell? ⟨bm, 4, none⟩ = some (.int .i64 G.closer) := HR.out.mach.cell 4 rfl
  have m_live : W.cell? ⟨bm, 8, none⟩ = some (.map (some G.bl)) := HR.out.mach.cell 8 rfl
  have e_call : W.cell? ⟨be, 2, none⟩ = some (.int .i64 e.call) := HE.out.cell 2 rfl
  have hl := fun n => (HR.out.drewN n).len
  have hBw : B ≤ w.heap.size := Nat.le_trans hB (Nat.le_of_eq hBE.symm)
  cases h1 : G.closed
  · rw [h1] at m_closed
    have HP := hid (show endM G.ma i e = none by unfold endM; rw [lv_len]; simp [h1, Gm.ma])
    go_quiet (fail)
    go_wp2
    go_ret
    exact Ends.no rfl (below_drewN (HBW.out.mono hB) _) HP.out
  · by_cases h2 : G.closer = e.call
    · have h2' : (G.closer != e.call) = false := by simp [h2]
      by_cases h3 : G.lv.length = 0
      · have h3' : decide (0 < (G.lv.length : Int)) = false := decide_eq_false (by omega)
        rw [h1] at m_closed
        have HP := hid (show endM G.ma i e = some (fin ({ G with ended := true } : Gm).ma i 0 0 0) by unfold endM; rw [lv_len]; simp [h1, h2, h3, Gm.ma])
        go_quiet (fail)
        clear hl m_closed m_closer m_live
        generalize hW1 : W.drewN _ = W1
        replace HR := hid (show Rep B W1 bm G from hW1 ▸ HR.out.drewN _)
        replace HE := hid (show Blk W1 be 31 (evC e) from hW1 ▸ HE.out)
        replace HBW := hid (show Below be w W1 from hW1 ▸ below_drewN HBW.out _)
        replace HC := hid (show Blk W1 b 126 (clC c) from hW1 ▸ HC.out)
        clear hW1
        have m_ended : W1.cell? ⟨bm, 3, none⟩ = some (.bool G.ended) := HR.out.mach.cell 3 rfl
        have f3 := HR.out.mach.frozen 3
        go_wp2_with (generalize hW2 : W1.setCell ⟨bm, 3, none⟩ (.bool true) = W2; have hch := hid (show Chg (· = bm) W1 W2 from hW2 ▸ (Chg.refl (· = bm) W1).sets rfl 3 (.bool true)); have HB := hid (below_chg (HBW.out.mono hB) hBw hch.out (fun k hk => hk ▸ HR.out.base.1)); replace HR := hid (HR.out.mset hch.out (closed := G.closed) (closer := G.closer) (room := G.room) (cp := G.cp) (ended := true) HR.out.now (show Blk W2 bm _ (mC _) from hW2 ▸ HR.out.mach.set 3 (.bool true))); clear hch hW2 HBW HC m_ended f3; go_at_call 105; refine (finish_any B _ (G := { G with ended := true }) HR.out hi hc (0) (0) (0)).mono ?_; rintro x w5 ⟨rfl, hr5, hc5⟩; have HR5 := hid hr5; have HB5 := hid (HB.out.trans (hc5.below (Nat.le_trans hBw HB.out.size) (fun k hk => hk ▸ (HR.out.cl _ (List.mem_of_getElem? hi)).2.1))); clear hr5 hc5)
        go_ret
        exact Ends.yes rfl HB5.out (by rw [HP.out, ← fin_ma (G := { G with ended := true }) hi]) HR5.out
      · have h3' : decide (0 < (G.lv.length : Int)) = true := decide_eq_true (by omega)
        rw [h1] at m_closed
        have HP := hid (show endM G.ma i e = none by unfold endM; rw [lv_len]; simp [h1, h2, h3, Gm.ma])
        go_quiet (fail)
        go_wp2
        go_ret
        exact Ends.no rfl (below_drewN (HBW.out.mono hB) _) HP.out
    · have h2' : (G.closer != e.call) = true := by simp [h2]
      rw [h1] at m_closed
      have HP := hid (show endM G.ma i e = none by unfold endM; rw [lv_len]; simp [h1, h2, Gm.ma])
      go_quiet (fail)
      go_wp2
      go_ret
      exact Ends.no rfl (below_drewN (HBW.out.mono hB) _) HP.out
end Go.Proofs.Ytpnkkdpggofanaa
