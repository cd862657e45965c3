/- spec's rules by their walks: each does what the plain machine does. spec's rules by their walks: each does what the plain machine does. spec's rules by their walks: each does what the plain machine does. spec's rules by their walks: each does what the plain machine does. spec's rules by their walks: each does what the plain machine does. -/
import Derived.Test.YtpnkkdpggofanaaSpecC
namespace Go.Proofs.Ytpnkkdpggofanaa
open Go.RowKit

set_option maxRecDepth 4000 in
set_option maxHeartbeats 8000000 in
theorem tick_any (B : Nat) (w : World) {bm b i : Nat} {c : Cl} {G : Gm} (h : Rep B w bm G) (hB : B ≤ w.heap.size) (hi : G.cs[i]? = some (b, c)) (hc : G.cp = ptrV b) (e : Ev) (_he : e.wf) :
    Calls Try.prog 81 #[ptrV bm, evV e] w fun x w' => Ends B bm w (tickM G.ma i c e) x w' := by
  have hN := hid h.now
  have m_now : ∀ o, (w.alloc o).cell? ⟨bm, 1, none⟩ = some (.int .u64 G.now) := fun o => (h.alloc o).mach.cell 1 rfl
  go_enter Try.func81, Try.ntmps81
  have HH := hid h
  clear h
  by_cases hf : fitsB G.now 1 = true
  · by_cases hw : c.bg.what = 7
    · have HW := hid (show decide (c.bg.what ∈ [7]) = true by simp [hw])
      cases he1 : G.ended
      · by_cases ht : e.tk = G.now + 1
        · have ht' : (e.tk != G.now + 1) = false := by simp [ht]
          have HP := hid (show tickM G.ma i c e = some (fin ({ G with now := G.now + 1 } : Gm).ma i 0 0 0) by unfold tickM; simp [hw, he1, ht, hf, Gm.ma])
          clear ht hw
          go_wp2_with (first | (go_at_call 42; clear m_now; generalize hW : World.alloc w _ = W; obtain ⟨hR, hE, hBW, hsz⟩ := HH.out.boxed e hW; clear hW HH; generalize hBE : w.heap.size = be at *; have HR := hid hR; have HE := hid hE; have HBW := hid hBW; have HC : Hid (Blk W b 126 (clC c)) := (HR.out.cl _ (List.mem_of_getElem? hi)).1; clear hR hE hBW; have HE0 := hid HE.out; refine (add_fits (G.now) (1) _ hN.out u64_one hf).mono ?_; rintro x w' ⟨rfl, rfl⟩) | (go_at_call 102; have HEp := hid HE.out; refine (what_any (c := c) [7] _ _ (Reads.built_at _ [.int .i64 7] 3 1 _ (by first | omega | simp)) (by simp) (hc ▸ (HR.out.alloc _).mach.cell 9 rfl) ((HC.out.alloc _).cell 3 rfl)).mono ?_; rintro x w' ⟨hx, rfl⟩; rw [HW.out] at hx; subst hx; generalize hW2 : World.alloc _ _ = W2; replace HR := hid (show Rep B W2 bm G from hW2 ▸ HR.out.alloc _); replace HE := hid (show Blk W2 be 31 (evC e) from hW2 ▸ HE.out.alloc _); replace HBW := hid (show Below be w W2 from hW2 ▸ (HBW.out.alloc (Nat.le_of_lt HEp.out.lt) _)); replace HC := hid (show Blk W2 b 126 (clC c) from hW2 ▸ HC.out.alloc _); clear hW2; clear HEp; have m_ended : W2.cell? ⟨bm, 3, none⟩ = some (.bool G.ended) := HR.out.mach.cell 3 rfl; have m_now : W2.cell? ⟨bm, 1, none⟩ = some (.int .u64 G.now) := HR.out.mach.cell 1 rfl; have e_tk : W2.cell? ⟨be, 8, none⟩ = some (.int .u64 e.tk) := HE.out.cell 8 rfl; rw [he1] at m_ended; have f1 := HR.out.mach.frozen 1; have hBw : B ≤ w.heap.size := Nat.le_trans hB (Nat.le_of_eq hBE.symm)) | (generalize hW3 : (W2.setCell ⟨bm, 1, none⟩ (.int .u64 (G.now + 1))) = W3; have hch := hid (show Chg (· = bm) W2 W3 from hW3 ▸ ((Chg.refl (· = bm) W2).sets rfl 1 (.int .u64 (G.now + 1)))); have HB := hid (below_chg (HBW.out.mono hB) hBw hch.out (fun k hk => hk ▸ HR.out.base.1)); replace HR := hid (HR.out.mset hch.out (closed := G.closed) (closer := G.closer) (room := G.room) (cp := G.cp) (ended := G.ended) (now := G.now + 1) (hN.out.add u64_one hf) (show Blk W3 bm _ (mC _) from hW3 ▸ (HR.out.mach.set 1 (.int .u64 (G.now + 1))))); clear hch hW3 HBW HC m_now f1 m_ended e_tk; go_at_call 105; refine (finish_any B _ (G := { G with now := G.now + 1 }) HR.out hi hc (0) (0) (0)).mono ?_; rintro x w5 ⟨rfl, hr5, hc5⟩; have HR5 := hid hr5; have HB5 := hid (HB.out.trans (hc5.below (Nat.le_trans hBw HB.out.size) (fun k hk => hk ▸ (HR.out.cl _ (List.mem_of_getElem? hi)).2.1))); clear hr5 hc5))
          go_ret
          exact Ends.yes rfl HB5.out (by rw [HP.out, ← fin_ma (G := { G with now := G.now + 1 }) hi]) HR5.out
        · have ht' : (e.tk != G.now + 1) = true := by simp [ht]
          have HP := hid (show tickM G.ma i c e = none by unfold tickM; simp [hw, he1, ht, hf, Gm.ma])
          go_wp2_with (first | (go_at_call 42; clear m_now; generalize hW : World.alloc w _ = W; obtain ⟨hR, hE, hBW, hsz⟩ := HH.out.boxed e hW; clear hW HH; generalize hBE : w.heap.size = be at *; have HR := hid hR; have HE := hid hE; have HBW := hid hBW; have HC : Hid (Blk W b 126 (clC c)) := (HR.out.cl _ (List.mem_of_getElem? hi)).1; clear hR hE hBW; have HE0 := hid HE.out; refine (add_fits (G.now) (1) _ hN.out u64_one hf).mono ?_; rintro x w' ⟨rfl, rfl⟩) | (go_at_call 102; have HEp := hid HE.out; refine (what_any (c := c) [7] _ _ (Reads.built_at _ [.int .i64 7] 3 1 _ (by first | omega | simp)) (by simp) (hc ▸ (HR.out.alloc _).mach.cell 9 rfl) ((HC.out.alloc _).cell 3 rfl)).mono ?_; rintro x w' ⟨hx, rfl⟩; rw [HW.out] at hx; subst hx; generalize hW2 : World.alloc _ _ = W2; replace HR := hid (show Rep B W2 bm G from hW2 ▸ HR.out.alloc _); replace HE := hid (show Blk W2 be 31 (evC e) from hW2 ▸ HE.out.alloc _); replace HBW := hid (show Below be w W2 from hW2 ▸ (HBW.out.alloc (Nat.le_of_lt HEp.out.lt) _)); replace HC := hid (show Blk W2 b 126 (clC c) from hW2 ▸ HC.out.alloc _); clear hW2; clear HEp; have m_ended : W2.cell? ⟨bm, 3, none⟩ = some (.bool G.ended) := HR.out.mach.cell 3 rfl; have m_now : W2.cell? ⟨bm, 1, none⟩ = some (.int .u64 G.now) := HR.out.mach.cell 1 rfl; have e_tk : W2.cell? ⟨be, 8, none⟩ = some (.int .u64 e.tk) := HE.out.cell 8 rfl; rw [he1] at m_ended))
          go_ret
          exact Ends.no rfl (HBW.out.mono hB) HP.out
      · have HP := hid (show tickM G.ma i c e = none by unfold tickM; simp [hw, he1, hf, Gm.ma])
        go_wp2_with (first | (go_at_call 42; clear m_now; generalize hW : World.alloc w _ = W; obtain ⟨hR, hE, hBW, hsz⟩ := HH.out.boxed e hW; clear hW HH; generalize hBE : w.heap.size = be at *; have HR := hid hR; have HE := hid hE; have HBW := hid hBW; have HC : Hid (Blk W b 126 (clC c)) := (HR.out.cl _ (List.mem_of_getElem? hi)).1; clear hR hE hBW; have HE0 := hid HE.out; refine (add_fits (G.now) (1) _ hN.out u64_one hf).mono ?_; rintro x w' ⟨rfl, rfl⟩) | (go_at_call 102; have HEp := hid HE.out; refine (what_any (c := c) [7] _ _ (Reads.built_at _ [.int .i64 7] 3 1 _ (by first | omega | simp)) (by simp) (hc ▸ (HR.out.alloc _).mach.cell 9 rfl) ((HC.out.alloc _).cell 3 rfl)).mono ?_; rintro x w' ⟨hx, rfl⟩; rw [HW.out] at hx; subst hx; generalize hW2 : World.alloc _ _ = W2; replace HR := hid (show Rep B W2 bm G from hW2 ▸ HR.out.alloc _); replace HE := hid (show Blk W2 be 31 (evC e) from hW2 ▸ HE.out.alloc _); replace HBW := hid (show Below be w W2 from hW2 ▸ (HBW.out.alloc (Nat.le_of_lt HEp.out.lt) _)); replace HC := hid (show Blk W2 b 126 (clC c) from hW2 ▸ HC.out.alloc _); clear hW2; clear HEp; have m_ended : W2.cell? ⟨bm, 3, none⟩ = some (.bool G.ended) := HR.out.mach.cell 3 rfl; have m_now : W2.cell? ⟨bm, 1, none⟩ = some (.int .u64 G.now) := HR.out.mach.cell 1 rfl; have e_tk : W2.cell? ⟨be, 8, none⟩ = some (.int .u64 e.tk) := HE.out.cell 8 rfl; rw [he1] at m_ended))
        go_ret
        exact Ends.no rfl (HBW.out.mono hB) HP.out
    · have HW := hid (show decide (c.bg.what ∈ [7]) = false by simp [hw])
      have HP := hid (show tickM G.ma i c e = none by unfold tickM; simp [hw, hf, Gm.ma])
      go_wp2_with (first | (go_at_call 42; clear m_now; generalize hW : World.alloc w _ = W; obtain ⟨hR, hE, hBW, hsz⟩ := HH.out.boxed e hW; clear hW HH; generalize hBE : w.heap.size = be at *; have HR := hid hR; have HE := hid hE; have HBW := hid hBW; have HC : Hid (Blk W b 126 (clC c)) := (HR.out.cl _ (List.mem_of_getElem? hi)).1; clear hR hE hBW; have HE0 := hid HE.out; refine (add_fits (G.now) (1) _ hN.out u64_one hf).mono ?_; rintro x w' ⟨rfl, rfl⟩) | (go_at_call 102; have HEp := hid HE.out; refine (what_any (c := c) [7] _ _ (Reads.built_at _ [.int .i64 7] 3 1 _ (by first | omega | simp)) (by simp) (hc ▸ (HR.out.alloc _).mach.cell 9 rfl) ((HC.out.alloc _).cell 3 rfl)).mono ?_; rintro x w' ⟨hx, rfl⟩; rw [HW.out] at hx; subst hx; generalize hW2 : World.alloc _ _ = W2; replace HR := hid (show Rep B W2 bm G from hW2 ▸ HR.out.alloc _); replace HE := hid (show Blk W2 be 31 (evC e) from hW2 ▸ HE.out.alloc _); replace HBW := hid (show Below be w W2 from hW2 ▸ (HBW.out.alloc (Nat.le_of_lt HEp.out.lt) _)); replace HC := hid (show Blk W2 b 126 (clC c) from hW2 ▸ HC.out.alloc _); clear hW2; clear HEp; have m_ended : W2.cell? ⟨bm, 3, none⟩ = some (.bool G.ended) := HR.out.mach.cell 3 rfl; have m_now : W2.cell? ⟨bm, 1, none⟩ = some (.int .u64 G.now) := HR.out.mach.cell 1 rfl; have e_tk : W2.cell? ⟨be, 8, none⟩ = some (.int .u64 e.tk) := HE.out.cell 8 rfl))
      go_ret
      exact Ends.no rfl (HBW.out.mono hB) HP.out
  · replace hf : fitsB G.now 1 = false := by simpa using hf
    by_cases hw : c.bg.what = 7
    · have HW := hid (show decide (c.bg.what ∈ [7]) = true by simp [hw])
      cases he1 : G.ended
      · have HP := hid (show tickM G.ma i c e = none by unfold tickM; simp [hw, he1, hf, Gm.ma])
        go_wp2_with (first | (go_at_call 42; clear m_now; generalize hW : World.alloc w _ = W; obtain ⟨hR, hE, hBW, hsz⟩ := HH.out.boxed e hW; clear hW HH; generalize hBE : w.heap.size = be at *; have HR := hid hR; have HE := hid hE; have HBW := hid hBW; have HC : Hid (Blk W b 126 (clC c)) := (HR.out.cl _ (List.mem_of_getElem? hi)).1; clear hR hE hBW; have HE0 := hid HE.out; refine (add_not (G.now) (1) _ hN.out u64_one hf).mono ?_; rintro x w' ⟨rfl, rfl⟩) | (go_at_call 102; have HEp := hid HE.out; refine (what_any (c := c) [7] _ _ (Reads.built_at _ [.int .i64 7] 3 1 _ (by first | omega | simp)) (by simp) (hc ▸ (HR.out.alloc _).mach.cell 9 rfl) ((HC.out.alloc _).cell 3 rfl)).mono ?_; rintro x w' ⟨hx, rfl⟩; rw [HW.out] at hx; subst hx; generalize hW2 : World.alloc _ _ = W2; replace HR := hid (show Rep B W2 bm G from hW2 ▸ HR.out.alloc _); replace HE := hid (show Blk W2 be 31 (evC e) from hW2 ▸ HE.out.alloc _); replace HBW := hid (show Below be w W2 from hW2 ▸ (HBW.out.alloc (Nat.le_of_lt HEp.out.lt) _)); replace HC := hid (show Blk W2 b 126 (clC c) from hW2 ▸ HC.out.alloc _); clear hW2; clear HEp; have m_ended : W2.cell? ⟨bm, 3, none⟩ = some (.bool G.ended) := HR.out.mach.cell 3 rfl; have m_now : W2.cell? ⟨bm, 1, none⟩ = some (.int .u64 G.now) := HR.out.mach.cell 1 rfl; have e_tk : W2.cell? ⟨be, 8, none⟩ = some (.int .u64 e.tk) := HE.out.cell 8 rfl; rw [he1] at m_ended))
        go_ret
        exact Ends.no rfl (HBW.out.mono hB) HP.out
      · have HP := hid (show tickM G.ma i c e = none by unfold tickM; simp [hw, he1, hf, Gm.ma])
        go_wp2_with (first | (go_at_call 42; clear m_now; generalize hW : World.alloc w _ = W; obtain ⟨hR, hE, hBW, hsz⟩ := HH.out.boxed e hW; clear hW HH; generalize hBE : w.heap.size = be at *; have HR := hid hR; have HE := hid hE; have HBW := hid hBW; have HC : Hid (Blk W b 126 (clC c)) := (HR.out.cl _ (List.mem_of_getElem? hi)).1; clear hR hE hBW; have HE0 := hid HE.out; refine (add_not (G.now) (1) _ hN.out u64_one hf).mono ?_; rintro x w' ⟨rfl, rfl⟩) | (go_at_call 102; have HEp := hid HE.out; refine (what_any (c := c) [7] _ _ (Reads.built_at _ [.int .i64 7] 3 1 _ (by first | omega | simp)) (by simp) (hc ▸ (HR.out.alloc _).mach.cell 9 rfl) ((HC.out.alloc _).cell 3 rfl)).mono ?_; rintro x w' ⟨hx, rfl⟩; rw [HW.out] at hx; subst hx; generalize hW2 : World.alloc _ _ = W2; replace HR := hid (show Rep B W2 bm G from hW2 ▸ HR.out.alloc _); replace HE := hid (show Blk W2 be 31 (evC e) from hW2 ▸ HE.out.alloc _); replace HBW := hid (show Below be w W2 from hW2 ▸ (HBW.out.alloc (Nat.le_of_lt HEp.out.lt) _)); replace HC := hid (show Blk W2 b 126 (clC c) from hW2 ▸ HC.out.alloc _); clear hW2; clear HEp; have m_ended : W2.cell? ⟨bm, 3, none⟩ = some (.bool G.ended) := HR.out.mach.cell 3 rfl; have m_now : W2.cell? ⟨bm, 1, none⟩ = some (.int .u64 G.now) := HR.out.mach.cell 1 rfl; have e_tk : W2.cell? ⟨be, 8, none⟩ = some (.int .u64 e.tk) := HE.out.cell 8 rfl; rw [he1] at m_ended))
        go_ret
        exact Ends.no rfl (HBW.out.mono hB) HP.out
    · have HW := hid (show decide (c.bg.what ∈ [7]) = false by simp [hw])
      have HP := hid (show tickM G.ma i c e = none by unfold tickM; simp [hw])
      go_wp2_with (first | (go_at_call 42; clear m_now; generalize hW : World.alloc w _ = W; obtain ⟨hR, hE, hBW, hsz⟩ := HH.out.boxed e hW; clear hW HH; generalize hBE : w.heap.size = be at *; have HR := hid hR; have HE := hid hE; have HBW := hid hBW; have HC : Hid (Blk W b 126 (clC c)) := (HR.out.cl _ (List.mem_of_getElem? hi)).1; clear hR hE hBW; have HE0 := hid HE.out; refine (add_not (G.now) (1) _ hN.out u64_one hf).mono ?_; rintro x w' ⟨rfl, rfl⟩) | (go_at_call 102; have HEp := hid HE.out; refine (what_any (c := c) [7] _ _ (Reads.built_at _ [.int .i64 7] 3 1 _ (by first | omega | simp)) (by simp) (hc ▸ (HR.out.alloc _).mach.cell 9 rfl) ((HC.out.alloc _).cell 3 rfl)).mono ?_; rintro x w' ⟨hx, rfl⟩; rw [HW.out] at hx; subst hx; generalize hW2 : World.alloc _ _ = W2; replace HR := hid (show Rep B W2 bm G from hW2 ▸ HR.out.alloc _); replace HE := hid (show Blk W2 be 31 (evC e) from hW2 ▸ HE.out.alloc _); replace HBW := hid (show Below be w W2 from hW2 ▸ (HBW.out.alloc (Nat.le_of_lt HEp.out.lt) _)); replace HC := hid (show Blk W2 b 126 (clC c) from hW2 ▸ HC.out.alloc _); clear hW2; clear HEp; have m_ended : W2.cell? ⟨bm, 3, none⟩ = some (.bool G.ended) := HR.out.mach.cell 3 rfl; have m_now : W2.cell? ⟨bm, 1, none⟩ = some (.int .u64 G.now) := HR.out.mach.cell 1 rfl; have e_tk : W2.cell? ⟨be, 8, none⟩ = some (.int .u64 e.tk) := HE.out.cell 8 rfl))
      go_ret
      exact Ends.no rfl (HBW.out.mono hB) HP.out
end Go.Proofs.Ytpnkkdpggofanaa

namespace Go.Proofs.Ytpnkkdpggofanaa
open Go.RowKit

set_option maxRecDepth 4000 in
set_option maxHeartbeats 8000000 in
theorem reset_any (B : Nat) (w : World) {bm b i : Nat} {c : Cl} {G : Gm} (h : Rep B w bm G) (hB : B ≤ w.heap.size) (hi : G.cs[i]? = some (b, c)) (hc : G.cp = ptrV b) (e : Ev) (he : e.wf) :
    Calls Try.prog 82 #[ptrV bm, evV e] w fun x w' => Ends B bm w (resetM G.ma i c e) x w' := by
  go_enter Try.func82, Try.ntmps82
  go_wp2
  generalize hW : w.alloc _ = W
  obtain ⟨hR, hE, hBW, hsz⟩ := h.boxed e hW
  clear hW h
  generalize hBE : w.heap.size = be at *
  have HR := hid hR
  have HE := hid hE
  have HBW := hid hBW
  have HC : Hid (Blk W b 126 (clC c)) := (HR.out.cl _ (List.mem_of_getElem? hi)).1
  clear hR hE hBW
  cases hg : aget G.lv e.id with
  | none =>
    have hlp : liveP G e.id = .pointer none := by simp [liveP, hg]
    have HG := hid hg
    have m_live : W.cell? ⟨bm, 8, none⟩ = some (.map (some G.bl)) := HR.out.mach.cell 8 rfl
    have e_id : W.cell? ⟨be, 4, none⟩ = some (.int .u64 e.id) := HE.out.cell 4 rfl
    have hl := fun n => (HR.out.drewN n).look e.id
    rw [hlp] at hl
    clear hg hlp
    go_quiet (fail)
    go_wp2
    clear m_live e_id hl
    generalize hW1 : W.drewN _ = W1
    replace HR := hid (show Rep B W1 bm G from hW1 ▸ HR.out.drewN _)
    replace HE := hid (show Blk W1 be 31 (evC e) from hW1 ▸ HE.out)
    replace HBW := hid (show Below be w W1 from hW1 ▸ below_drewN HBW.out _)
    replace HC := hid (show Blk W1 b 126 (clC c) from hW1 ▸ HC.out)
    clear hW1
    have HP := hid (show resetM G.ma i c e = none by unfold resetM; rw [lv_none HG.out])
    by_cases hw : c.bg.what = 3
    · have HW := hid (show decide (c.bg.what ∈ [3]) = true by simp [hw])
      have HE0 := hid HE.out
      refine wp_region_any (by kernel_rfl) ?_
      show wpAny _ _ _ _ 49 _ _ W1.drew
      refine wpAny_take (i := 0) (v := ptrV bm) rfl (by kernel_rfl) (by kernel_rfl) (by kernel_rfl) (fun _ _ _ h => h) (Or.inl ⟨by rfl, fun w => by go_simp⟩) ?_
      refine wpAny_step (k := 1) (by kernel_rfl) rfl (fun K hK => ?_)
      go_simp
      refine hK.out _ _ ?_
      clear hK K
      refine wpAny_step (k := 2) (by kernel_rfl) rfl (fun K hK => ?_)
      go_simp
      refine (what_any (c := c) [3] _ _ (Reads.built_at _ [.int .i64 3] 3 1 _ (by simp)) (by simp) (hc ▸ (HR.out.drew.alloc _).mach.cell 9 rfl) ((HC.out.drew.alloc _).cell 3 rfl)).mono ?_
      rintro x w' ⟨hx, rfl⟩
      rw [HW.out] at hx
      subst hx
      refine hK.out _ _ ?_
      clear hK K
      refine wpAny_quiet_rest (k := 3) _ (by kernel_rfl) (by kernel_rfl) rfl (by kernel_rfl) ?_
      simp only [List.drop_succ_cons, List.drop_zero]
      generalize hW2 : W1.drew.alloc _ = W2
      replace HR := hid (show Rep B W2 bm G from hW2 ▸ HR.out.drew.alloc _)
      replace HE := hid (show Blk W2 be 31 (evC e) from hW2 ▸ HE.out.drew.alloc _)
      replace HBW := hid (show Below be w W2 from hW2 ▸ (HBW.out.drew.alloc (Nat.le_trans (Nat.le_of_lt HE0.out.lt) (by simp)) _))
      replace HC := hid (show Blk W2 b 126 (clC c) from hW2 ▸ HC.out.drew.alloc _)
      clear hW2 HE0
      repeat (go_big_quiet_step (fail))
      refine wpQuiet_nil ?_
      intro _ hw'
      obtain ⟨nq, hw''⟩ := hw'
      subst hw''
      go_wp2
      go_ret
      exact Ends.no rfl (below_drewN (HBW.out.mono hB) _) HP.out
    · have HW := hid (show decide (c.bg.what ∈ [3]) = false by simp [hw])
      have HE0 := hid HE.out
      refine wp_region_any (by kernel_rfl) ?_
      show wpAny _ _ _ _ 49 _ _ W1.drew
      refine wpAny_take (i := 0) (v := ptrV bm) rfl (by kernel_rfl) (by kernel_rfl) (by kernel_rfl) (fun _ _ _ h => h) (Or.inl ⟨by rfl, fun w => by go_simp⟩) ?_
      refine wpAny_step (k := 1) (by kernel_rfl) rfl (fun K hK => ?_)
      go_simp
      refine hK.out _ _ ?_
      clear hK K
      refine wpAny_step (k := 2) (by kernel_rfl) rfl (fun K hK => ?_)
      go_simp
      refine (what_any (c := c) [3] _ _ (Reads.built_at _ [.int .i64 3] 3 1 _ (by simp)) (by simp) (hc ▸ (HR.out.drew.alloc _).mach.cell 9 rfl) ((HC.out.drew.alloc _).cell 3 rfl)).mono ?_
      rintro x w' ⟨hx, rfl⟩
      rw [HW.out] at hx
      subst hx
      refine hK.out _ _ ?_
      clear hK K
      refine wpAny_quiet_rest (k := 3) _ (by kernel_rfl) (by kernel_rfl) rfl (by kernel_rfl) ?_
      simp only [List.drop_succ_cons, List.drop_zero]
      generalize hW2 : W1.drew.alloc _ = W2
      replace HR := hid (show Rep B W2 bm G from hW2 ▸ HR.out.drew.alloc _)
      replace HE := hid (show Blk W2 be 31 (evC e) from hW2 ▸ HE.out.drew.alloc _)
      replace HBW := hid (show Below be w W2 from hW2 ▸ (HBW.out.drew.alloc (Nat.le_trans (Nat.le_of_lt HE0.out.lt) (by simp)) _))
      replace HC := hid (show Blk W2 b 126 (clC c) from hW2 ▸ HC.out.drew.alloc _)
      clear hW2 HE0
      repeat (go_big_quiet_step (fail))
      refine wpQuiet_nil ?_
      intro _ hw'
      obtain ⟨nq, hw''⟩ := hw'
      subst hw''
      go_wp2
      go_ret
      exact Ends.no rfl (below_drewN (HBW.out.mono hB) _) HP.out
  | some p =>
    obtain ⟨bt, t⟩ := p
    have hlp : liveP G e.id = ptrV bt := by simp [liveP, hg]
    have HG := hid hg
    have m_live : W.cell? ⟨bm, 8, none⟩ = some (.map (some G.bl)) := HR.out.mach.cell 8 rfl
    have e_id : W.cell? ⟨be, 4, none⟩ = some (.int .u64 e.id) := HE.out.cell 4 rfl
    have hl := fun n => (HR.out.drewN n).look e.id
    rw [hlp] at hl
    clear hg hlp
    go_quiet (fail)
    go_wp2
    clear m_live e_id hl
    generalize hW1 : W.drewN _ = W1
    replace HR := hid (show Rep B W1 bm G from hW1 ▸ HR.out.drewN _)
    replace HE := hid (show Blk W1 be 31 (evC e) from hW1 ▸ HE.out)
    replace HBW := hid (show Below be w W1 from hW1 ▸ below_drewN HBW.out _)
    replace HC := hid (show Blk W1 b 126 (clC c) from hW1 ▸ HC.out)
    clear hW1
    have HT : Hid (Blk W1 bt 151 (tmC t)) := (HR.out.tm _ ((aget_mem HR.out.live.nodup).1 HG.out)).1
    have he1 := hid (HR.out.tm _ ((aget_mem HR.out.live.nodup).1 HG.out)).2.2
    have hN := lv_some HG.out
    have hE := hid he.gen
    by_cases hw : c.bg.what = 3
    · have HW := hid (show decide (c.bg.what ∈ [3]) = true by simp [hw])
      by_cases hi1 : e.id = c.bg.id
      · have hi1' : (e.id != c.bg.id) = false := by simp [hi1]
        by_cases hd : e.dl = c.bg.dl
        · have hd' : (e.dl != c.bg.dl) = false := by simp [hd]
          by_cases hz : e.gen ≠ 0
          · have hz' : (e.gen == 0) = false := by simp [hz]
            have hs1 : (e.gen - 1) % 18446744073709551616 = e.gen - 1 := Int.emod_eq_of_lt (by have := hE.out.1; omega) (by have := hE.out.2; omega)
            by_cases hgn : e.gen - 1 = t.gen
            · have hgn' : (e.gen - 1 != t.gen) = false := by simp [hgn]
              have HP := hid (show resetM G.ma i c e = some (fin ({ G with lv := aput G.lv e.id (bt, { t with gen := e.gen, dl := e.dl, armed := false, btw := false }) } : Gm).ma i e.id e.gen 0) by rw [setLive_ma]; unfold resetM; rw [hN]; simp [hw, hi1, hd, hz, hgn])
              clear hN hw hi1 hd hgn
              have HE0 := hid HE.out
              refine wp_region_any (by kernel_rfl) ?_
              show wpAny _ _ _ _ 49 _ _ W1.drew
              refine wpAny_take (i := 0) (v := ptrV bm) rfl (by kernel_rfl) (by kernel_rfl) (by kernel_rfl) (fun _ _ _ h => h) (Or.inl ⟨by rfl, fun w => by go_simp⟩) ?_
              refine wpAny_step (k := 1) (by kernel_rfl) rfl (fun K hK => ?_)
              go_simp
              refine hK.out _ _ ?_
              clear hK K
              refine wpAny_step (k := 2) (by kernel_rfl) rfl (fun K hK => ?_)
              go_simp
              refine (what_any (c := c) [3] _ _ (Reads.built_at _ [.int .i64 3] 3 1 _ (by simp)) (by simp) (hc ▸ (HR.out.drew.alloc _).mach.cell 9 rfl) ((HC.out.drew.alloc _).cell 3 rfl)).mono ?_
              rintro x w' ⟨hx, rfl⟩
              rw [HW.out] at hx
              subst hx
              refine hK.out _ _ ?_
              clear hK K
              refine wpAny_quiet_rest (k := 3) _ (by kernel_rfl) (by kernel_rfl) rfl (by kernel_rfl) ?_
              simp only [List.drop_succ_cons, List.drop_zero]
              generalize hW2 : W1.drew.alloc _ = W2
              replace HR := hid (show Rep B W2 bm G from hW2 ▸ HR.out.drew.alloc _)
              replace HE := hid (show Blk W2 be 31 (evC e) from hW2 ▸ HE.out.drew.alloc _)
              replace HBW := hid (show Below be w W2 from hW2 ▸ (HBW.out.drew.alloc (Nat.le_trans (Nat.le_of_lt HE0.out.lt) (by simp)) _))
              replace HC := hid (show Blk W2 b 126 (clC c) from hW2 ▸ HC.out.drew.alloc _)
              clear hW2 HE0
              replace HT : Hid (Blk W2 bt 151 (tmC t)) := (HR.out.tm _ ((aget_mem HR.out.live.nodup).1 HG.out)).1
              have m_c : W2.cell? ⟨bm, 9, none⟩ = some (ptrV b) := hc ▸ HR.out.mach.cell 9 rfl
              have e_id : W2.cell? ⟨be, 4, none⟩ = some (.int .u64 e.id) := HE.out.cell 4 rfl
              have e_dl : W2.cell? ⟨be, 6, none⟩ = some (.int .u64 e.dl) := HE.out.cell 6 rfl
              have e_gen : W2.cell? ⟨be, 5, none⟩ = some (.int .u64 e.gen) := HE.out.cell 5 rfl
              have c_id : W2.cell? ⟨b, 4, none⟩ = some (.int .u64 c.bg.id) := HC.out.cell 4 rfl
              have c_dl : W2.cell? ⟨b, 6, none⟩ = some (.int .u64 c.bg.dl) := HC.out.cell 6 rfl
              have t_g : W2.cell? ⟨bt, 0, none⟩ = some (.int .u64 t.gen) := HT.out.cell 0 rfl
              repeat (go_big_quiet_step (fail))
              refine wpQuiet_nil ?_
              intro _ hw'
              obtain ⟨nq, hw''⟩ := hw'
              subst hw''
              clear m_c e_id e_dl e_gen c_id c_dl t_g
              generalize hW1 : W2.drewN _ = W3
              replace HR := hid (show Rep B W3 bm G from hW1 ▸ HR.out.drewN _)
              replace HE := hid (show Blk W3 be 31 (evC e) from hW1 ▸ HE.out)
              replace HBW := hid (show Below be w W3 from hW1 ▸ below_drewN HBW.out _)
              replace HC := hid (show Blk W3 b 126 (clC c) from hW1 ▸ HC.out)
              clear hW1
              replace HT : Hid (Blk W3 bt 151 (tmC t)) := (HR.out.tm _ ((aget_mem HR.out.live.nodup).1 HG.out)).1
              have e_id : W3.cell? ⟨be, 4, none⟩ = some (.int .u64 e.id) := HE.out.cell 4 rfl
              have e_gen : W3.cell? ⟨be, 5, none⟩ = some (.int .u64 e.gen) := HE.out.cell 5 rfl
              have e_dl : W3.cell? ⟨be, 6, none⟩ = some (.int .u64 e.dl) := HE.out.cell 6 rfl
              have t_g : W3.cell? ⟨bt, 0, none⟩ = some (.int .u64 t.gen) := HT.out.cell 0 rfl
              have t_d : W3.cell? ⟨bt, 1, none⟩ = some (.int .u64 t.dl) := HT.out.cell 1 rfl
              have t_a : W3.cell? ⟨bt, 4, none⟩ = some (.bool t.armed) := HT.out.cell 4 rfl
              have t_b : W3.cell? ⟨bt, 5, none⟩ = some (.bool t.btw) := HT.out.cell 5 rfl
              have f0 := HT.out.frozen 0
              have f1 := HT.out.frozen 1
              have f4 := HT.out.frozen 4
              have f5 := HT.out.frozen 5
              have hne : be ≠ bt := fun h => HE.out.ne HT.out (by decide) h
              have hne' := hne.symm
              have hBw : B ≤ w.heap.size := Nat.le_trans hB (Nat.le_of_eq hBE.symm)
              go_wp2
              go_region_held3 (fun W => W.cell? ⟨be, 5, none⟩ = some (.int .u64 e.gen) ∧ W.cell? ⟨be, 6, none⟩ = some (.int .u64 e.dl)) (go_keep) (fail)
              all_goals go_wp2_with (go_at_call 105; refine (show Calls _ _ _ (((((W3.setCell ⟨bt, 0, none⟩ (.int .u64 e.gen)).setCell ⟨bt, 1, none⟩ (.int .u64 e.dl)).setCell ⟨bt, 4, none⟩ (.bool false)).setCell ⟨bt, 5, none⟩ (.bool false))).drew _ from ?_); generalize hW4 : (((((W3.setCell ⟨bt, 0, none⟩ (.int .u64 e.gen)).setCell ⟨bt, 1, none⟩ (.int .u64 e.dl)).setCell ⟨bt, 4, none⟩ (.bool false)).setCell ⟨bt, 5, none⟩ (.bool false))).drew = W4; have hch := hid (show Chg (· = bt) W3 W4 from hW4 ▸ (((((Chg.refl (· = bt) W3).sets rfl 0 (.int .u64 e.gen)).sets rfl 1 (.int .u64 e.dl)).sets rfl 4 (.bool false)).sets rfl 5 (.bool false)).drew); have HB := hid (below_chg (HBW.out.mono hB) hBw hch.out (fun k hk => hk ▸ (HR.out.tm _ ((aget_mem HR.out.live.nodup).1 HG.out)).2.1)); replace HR := hid (HR.out.tset HG.out hch.out (t' := { t with gen := e.gen, dl := e.dl, armed := false, btw := false }) (show Blk W4 bt _ (tmC _) from hW4 ▸ ((((HT.out.set 0 (.int .u64 e.gen)).set 1 (.int .u64 e.dl)).set 4 (.bool false)).set 5 (.bool false))) ⟨hE.out, he.dl, he1.out.per⟩); clear hch hW4 HBW HC HT; refine (finish_any B _ (G := { G with lv := aput G.lv e.id (bt, { t with gen := e.gen, dl := e.dl, armed := false, btw := false }) }) HR.out hi hc (e.id) (e.gen) (0)).mono ?_; rintro x w5 ⟨rfl, hr5, hc5⟩; have HR5 := hid hr5; have HB5 := hid (HB.out.trans (hc5.below (Nat.le_trans hBw HB.out.size) (fun k hk => hk ▸ (HR.out.cl _ (List.mem_of_getElem? hi)).2.1))); clear hr5 hc5)
              all_goals go_ret
              exact Ends.yes rfl HB5.out (by rw [HP.out, ← fin_ma (G := { G with lv := aput G.lv e.id (bt, { t with gen := e.gen, dl := e.dl, armed := false, btw := false }) }) hi]) HR5.out
            · have hgn' : (e.gen - 1 != t.gen) = true := by simp [hgn]
              have HP := hid (show resetM G.ma i c e = none by unfold resetM; rw [hN]; simp [hw, hi1, hd, hz, hgn])
              clear hN
              have HE0 := hid HE.out
              refine wp_region_any (by kernel_rfl) ?_
              show wpAny _ _ _ _ 49 _ _ W1.drew
              refine wpAny_take (i := 0) (v := ptrV bm) rfl (by kernel_rfl) (by kernel_rfl) (by kernel_rfl) (fun _ _ _ h => h) (Or.inl ⟨by rfl, fun w => by go_simp⟩) ?_
              refine wpAny_step (k := 1) (by kernel_rfl) rfl (fun K hK => ?_)
              go_simp
              refine hK.out _ _ ?_
              clear hK K
              refine wpAny_step (k := 2) (by kernel_rfl) rfl (fun K hK => ?_)
              go_simp
              refine (what_any (c := c) [3] _ _ (Reads.built_at _ [.int .i64 3] 3 1 _ (by simp)) (by simp) (hc ▸ (HR.out.drew.alloc _).mach.cell 9 rfl) ((HC.out.drew.alloc _).cell 3 rfl)).mono ?_
              rintro x w' ⟨hx, rfl⟩
              rw [HW.out] at hx
              subst hx
              refine hK.out _ _ ?_
              clear hK K
              refine wpAny_quiet_rest (k := 3) _ (by kernel_rfl) (by kernel_rfl) rfl (by kernel_rfl) ?_
              simp only [List.drop_succ_cons, List.drop_zero]
              generalize hW2 : W1.drew.alloc _ = W2
              replace HR := hid (show Rep B W2 bm G from hW2 ▸ HR.out.drew.alloc _)
              replace HE := hid (show Blk W2 be 31 (evC e) from hW2 ▸ HE.out.drew.alloc _)
              replace HBW := hid (show Below be w W2 from hW2 ▸ (HBW.out.drew.alloc (Nat.le_trans (Nat.le_of_lt HE0.out.lt) (by simp)) _))
              replace HC := hid (show Blk W2 b 126 (clC c) from hW2 ▸ HC.out.drew.alloc _)
              clear hW2 HE0
              replace HT : Hid (Blk W2 bt 151 (tmC t)) := (HR.out.tm _ ((aget_mem HR.out.live.nodup).1 HG.out)).1
              have m_c : W2.cell? ⟨bm, 9, none⟩ = some (ptrV b) := hc ▸ HR.out.mach.cell 9 rfl
              have e_id : W2.cell? ⟨be, 4, none⟩ = some (.int .u64 e.id) := HE.out.cell 4 rfl
              have e_dl : W2.cell? ⟨be, 6, none⟩ = some (.int .u64 e.dl) := HE.out.cell 6 rfl
              have e_gen : W2.cell? ⟨be, 5, none⟩ = some (.int .u64 e.gen) := HE.out.cell 5 rfl
              have c_id : W2.cell? ⟨b, 4, none⟩ = some (.int .u64 c.bg.id) := HC.out.cell 4 rfl
              have c_dl : W2.cell? ⟨b, 6, none⟩ = some (.int .u64 c.bg.dl) := HC.out.cell 6 rfl
              have t_g : W2.cell? ⟨bt, 0, none⟩ = some (.int .u64 t.gen) := HT.out.cell 0 rfl
              repeat (go_big_quiet_step (fail))
              refine wpQuiet_nil ?_
              intro _ hw'
              obtain ⟨nq, hw''⟩ := hw'
              subst hw''
              go_wp2
              go_ret
              exact Ends.no rfl (below_drewN (HBW.out.mono hB) _) HP.out
          · replace hz : e.gen = 0 := by simpa using hz
            have hz' : (e.gen == 0) = true := by simp [hz]
            have HP := hid (show resetM G.ma i c e = none by unfold resetM; rw [hN]; simp [hw, hi1, hd, hz])
            clear hN
            have HE0 := hid HE.out
            refine wp_region_any (by kernel_rfl) ?_
            show wpAny _ _ _ _ 49 _ _ W1.drew
            refine wpAny_take (i := 0) (v := ptrV bm) rfl (by kernel_rfl) (by kernel_rfl) (by kernel_rfl) (fun _ _ _ h => h) (Or.inl ⟨by rfl, fun w => by go_simp⟩) ?_
            refine wpAny_step (k := 1) (by kernel_rfl) rfl (fun K hK => ?_)
            go_simp
            refine hK.out _ _ ?_
            clear hK K
            refine wpAny_step (k := 2) (by kernel_rfl) rfl (fun K hK => ?_)
            go_simp
            refine (what_any (c := c) [3] _ _ (Reads.built_at _ [.int .i64 3] 3 1 _ (by simp)) (by simp) (hc ▸ (HR.out.drew.alloc _).mach.cell 9 rfl) ((HC.out.drew.alloc _).cell 3 rfl)).mono ?_
            rintro x w' ⟨hx, rfl⟩
            rw [HW.out] at hx
            subst hx
            refine hK.out _ _ ?_
            clear hK K
            refine wpAny_quiet_rest (k := 3) _ (by kernel_rfl) (by kernel_rfl) rfl (by kernel_rfl) ?_
            simp only [List.drop_succ_cons, List.drop_zero]
            generalize hW2 : W1.drew.alloc _ = W2
            replace HR := hid (show Rep B W2 bm G from hW2 ▸ HR.out.drew.alloc _)
            replace HE := hid (show Blk W2 be 31 (evC e) from hW2 ▸ HE.out.drew.alloc _)
            replace HBW := hid (show Below be w W2 from hW2 ▸ (HBW.out.drew.alloc (Nat.le_trans (Nat.le_of_lt HE0.out.lt) (by simp)) _))
            replace HC := hid (show Blk W2 b 126 (clC c) from hW2 ▸ HC.out.drew.alloc _)
            clear hW2 HE0
            replace HT : Hid (Blk W2 bt 151 (tmC t)) := (HR.out.tm _ ((aget_mem HR.out.live.nodup).1 HG.out)).1
            have m_c : W2.cell? ⟨bm, 9, none⟩ = some (ptrV b) := hc ▸ HR.out.mach.cell 9 rfl
            have e_id : W2.cell? ⟨be, 4, none⟩ = some (.int .u64 e.id) := HE.out.cell 4 rfl
            have e_dl : W2.cell? ⟨be, 6, none⟩ = some (.int .u64 e.dl) := HE.out.cell 6 rfl
            have e_gen : W2.cell? ⟨be, 5, none⟩ = some (.int .u64 e.gen) := HE.out.cell 5 rfl
            have c_id : W2.cell? ⟨b, 4, none⟩ = some (.int .u64 c.bg.id) := HC.out.cell 4 rfl
            have c_dl : W2.cell? ⟨b, 6, none⟩ = some (.int .u64 c.bg.dl) := HC.out.cell 6 rfl
            have t_g : W2.cell? ⟨bt, 0, none⟩ = some (.int .u64 t.gen) := HT.out.cell 0 rfl
            repeat (go_big_quiet_step (fail))
            refine wpQuiet_nil ?_
            intro _ hw'
            obtain ⟨nq, hw''⟩ := hw'
            subst hw''
            go_wp2
            go_ret
            exact Ends.no rfl (below_drewN (HBW.out.mono hB) _) HP.out
        · have hd' : (e.dl != c.bg.dl) = true := by simp [hd]
          have HP := hid (show resetM G.ma i c e = none by unfold resetM; rw [hN]; simp [hw, hi1, hd])
          clear hN
          have HE0 := hid HE.out
          refine wp_region_any (by kernel_rfl) ?_
          show wpAny _ _ _ _ 49 _ _ W1.drew
          refine wpAny_take (i := 0) (v := ptrV bm) rfl (by kernel_rfl) (by kernel_rfl) (by kernel_rfl) (fun _ _ _ h => h) (Or.inl ⟨by rfl, fun w => by go_simp⟩) ?_
          refine wpAny_step (k := 1) (by kernel_rfl) rfl (fun K hK => ?_)
          go_simp
          refine hK.out _ _ ?_
          clear hK K
          refine wpAny_step (k := 2) (by kernel_rfl) rfl (fun K hK => ?_)
          go_simp
          refine (what_any (c := c) [3] _ _ (Reads.built_at _ [.int .i64 3] 3 1 _ (by simp)) (by simp) (hc ▸ (HR.out.drew.alloc _).mach.cell 9 rfl) ((HC.out.drew.alloc _).cell 3 rfl)).mono ?_
          rintro x w' ⟨hx, rfl⟩
          rw [HW.out] at hx
          subst hx
          refine hK.out _ _ ?_
          clear hK K
          refine wpAny_quiet_rest (k := 3) _ (by kernel_rfl) (by kernel_rfl) rfl (by kernel_rfl) ?_
          simp only [List.drop_succ_cons, List.drop_zero]
          generalize hW2 : W1.drew.alloc _ = W2
          replace HR := hid (show Rep B W2 bm G from hW2 ▸ HR.out.drew.alloc _)
          replace HE := hid (show Blk W2 be 31 (evC e) from hW2 ▸ HE.out.drew.alloc _)
          replace HBW := hid (show Below be w W2 from hW2 ▸ (HBW.out.drew.alloc (Nat.le_trans (Nat.le_of_lt HE0.out.lt) (by simp)) _))
          replace HC := hid (show Blk W2 b 126 (clC c) from hW2 ▸ HC.out.drew.alloc _)
          clear hW2 HE0
          replace HT : Hid (Blk W2 bt 151 (tmC t)) := (HR.out.tm _ ((aget_mem HR.out.live.nodup).1 HG.out)).1
          have m_c : W2.cell? ⟨bm, 9, none⟩ = some (ptrV b) := hc ▸ HR.out.mach.cell 9 rfl
          have e_id : W2.cell? ⟨be, 4, none⟩ = some (.int .u64 e.id) := HE.out.cell 4 rfl
          have e_dl : W2.cell? ⟨be, 6, none⟩ = some (.int .u64 e.dl) := HE.out.cell 6 rfl
          have e_gen : W2.cell? ⟨be, 5, none⟩ = some (.int .u64 e.gen) := HE.out.cell 5 rfl
          have c_id : W2.cell? ⟨b, 4, none⟩ = some (.int .u64 c.bg.id) := HC.out.cell 4 rfl
          have c_dl : W2.cell? ⟨b, 6, none⟩ = some (.int .u64 c.bg.dl) := HC.out.cell 6 rfl
          have t_g : W2.cell? ⟨bt, 0, none⟩ = some (.int .u64 t.gen) := HT.out.cell 0 rfl
          repeat (go_big_quiet_step (fail))
          refine wpQuiet_nil ?_
          intro _ hw'
          obtain ⟨nq, hw''⟩ := hw'
          subst hw''
          go_wp2
          go_ret
          exact Ends.no rfl (below_drewN (HBW.out.mono hB) _) HP.out
      · have hi1' : (e.id != c.bg.id) = true := by simp [hi1]
        have HP := hid (show resetM G.ma i c e = none by unfold resetM; rw [hN]; simp [hw, hi1])
        clear hN
        have HE0 := hid HE.out
        refine wp_region_any (by kernel_rfl) ?_
        show wpAny _ _ _ _ 49 _ _ W1.drew
        refine wpAny_take (i := 0) (v := ptrV bm) rfl (by kernel_rfl) (by kernel_rfl) (by kernel_rfl) (fun _ _ _ h => h) (Or.inl ⟨by rfl, fun w => by go_simp⟩) ?_
        refine wpAny_step (k := 1) (by kernel_rfl) rfl (fun K hK => ?_)
        go_simp
        refine hK.out _ _ ?_
        clear hK K
        refine wpAny_step (k := 2) (by kernel_rfl) rfl (fun K hK => ?_)
        go_simp
        refine (what_any (c := c) [3] _ _ (Reads.built_at _ [.int .i64 3] 3 1 _ (by simp)) (by simp) (hc ▸ (HR.out.drew.alloc _).mach.cell 9 rfl) ((HC.out.drew.alloc _).cell 3 rfl)).mono ?_
        rintro x w' ⟨hx, rfl⟩
        rw [HW.out] at hx
        subst hx
        refine hK.out _ _ ?_
        clear hK K
        refine wpAny_quiet_rest (k := 3) _ (by kernel_rfl) (by kernel_rfl) rfl (by kernel_rfl) ?_
        simp only [List.drop_succ_cons, List.drop_zero]
        generalize hW2 : W1.drew.alloc _ = W2
        replace HR := hid (show Rep B W2 bm G from hW2 ▸ HR.out.drew.alloc _)
        replace HE := hid (show Blk W2 be 31 (evC e) from hW2 ▸ HE.out.drew.alloc _)
        replace HBW := hid (show Below be w W2 from hW2 ▸ (HBW.out.drew.alloc (Nat.le_trans (Nat.le_of_lt HE0.out.lt) (by simp)) _))
        replace HC := hid (show Blk W2 b 126 (clC c) from hW2 ▸ HC.out.drew.alloc _)
        clear hW2 HE0
        replace HT : Hid (Blk W2 bt 151 (tmC t)) := (HR.out.tm _ ((aget_mem HR.out.live.nodup).1 HG.out)).1
        have m_c : W2.cell? ⟨bm, 9, none⟩ = some (ptrV b) := hc ▸ HR.out.mach.cell 9 rfl
        have e_id : W2.cell? ⟨be, 4, none⟩ = some (.int .u64 e.id) := HE.out.cell 4 rfl
        have e_dl : W2.cell? ⟨be, 6, none⟩ = some (.int .u64 e.dl) := HE.out.cell 6 rfl
        have e_gen : W2.cell? ⟨be, 5, none⟩ = some (.int .u64 e.gen) := HE.out.cell 5 rfl
        have c_id : W2.cell? ⟨b, 4, none⟩ = some (.int .u64 c.bg.id) := HC.out.cell 4 rfl
        have c_dl : W2.cell? ⟨b, 6, none⟩ = some (.int .u64 c.bg.dl) := HC.out.cell 6 rfl
        have t_g : W2.cell? ⟨bt, 0, none⟩ = some (.int .u64 t.gen) := HT.out.cell 0 rfl
        repeat (go_big_quiet_step (fail))
        refine wpQuiet_nil ?_
        intro _ hw'
        obtain ⟨nq, hw''⟩ := hw'
        subst hw''
        go_wp2
        go_ret
        exact Ends.no rfl (below_drewN (HBW.out.mono hB) _) HP.out
    · have HW := hid (show decide (c.bg.what ∈ [3]) = false by simp [hw])
      have HP := hid (show resetM G.ma i c e = none by unfold resetM; rw [hN]; simp [hw])
      clear hN
      have HE0 := hid HE.out
      refine wp_region_any (by kernel_rfl) ?_
      show wpAny _ _ _ _ 49 _ _ W1.drew
      refine wpAny_take (i := 0) (v := ptrV bm) rfl (by kernel_rfl) (by kernel_rfl) (by kernel_rfl) (fun _ _ _ h => h) (Or.inl ⟨by rfl, fun w => by go_simp⟩) ?_
      refine wpAny_step (k := 1) (by kernel_rfl) rfl (fun K hK => ?_)
      go_simp
      refine hK.out _ _ ?_
      clear hK K
      refine wpAny_step (k := 2) (by kernel_rfl) rfl (fun K hK => ?_)
      go_simp
      refine (what_any (c := c) [3] _ _ (Reads.built_at _ [.int .i64 3] 3 1 _ (by simp)) (by simp) (hc ▸ (HR.out.drew.alloc _).mach.cell 9 rfl) ((HC.out.drew.alloc _).cell 3 rfl)).mono ?_
      rintro x w' ⟨hx, rfl⟩
      rw [HW.out] at hx
      subst hx
      refine hK.out _ _ ?_
      clear hK K
      refine wpAny_quiet_rest (k := 3) _ (by kernel_rfl) (by kernel_rfl) rfl (by kernel_rfl) ?_
      simp only [List.drop_succ_cons, List.drop_zero]
      generalize hW2 : W1.drew.alloc _ = W2
      replace HR := hid (show Rep B W2 bm G from hW2 ▸ HR.out.drew.alloc _)
      replace HE := hid (show Blk W2 be 31 (evC e) from hW2 ▸ HE.out.drew.alloc _)
      replace HBW := hid (show Below be w W2 from hW2 ▸ (HBW.out.drew.alloc (Nat.le_trans (Nat.le_of_lt HE0.out.lt) (by simp)) _))
      replace HC := hid (show Blk W2 b 126 (clC c) from hW2 ▸ HC.out.drew.alloc _)
      clear hW2 HE0
      replace HT : Hid (Blk W2 bt 151 (tmC t)) := (HR.out.tm _ ((aget_mem HR.out.live.nodup).1 HG.out)).1
      have m_c : W2.cell? ⟨bm, 9, none⟩ = some (ptrV b) := hc ▸ HR.out.mach.cell 9 rfl
      have e_id : W2.cell? ⟨be, 4, none⟩ = some (.int .u64 e.id) := HE.out.cell 4 rfl
      have e_dl : W2.cell? ⟨be, 6, none⟩ = some (.int .u64 e.dl) := HE.out.cell 6 rfl
      have e_gen : W2.cell? ⟨be, 5, none⟩ = some (.int .u64 e.gen) := HE.out.cell 5 rfl
      have c_id : W2.cell? ⟨b, 4, none⟩ = some (.int .u64 c.bg.id) := HC.out.cell 4 rfl
      have c_dl : W2.cell? ⟨b, 6, none⟩ = some (.int .u64 c.bg.dl) := HC.out.cell 6 rfl
      have t_g : W2.cell? ⟨bt, 0, none⟩ = some (.int .u64 t.gen) := HT.out.cell 0 rfl
      repeat (go_big_quiet_step (fail))
      refine wpQuiet_nil ?_
      intro _ hw'
      obtain ⟨nq, hw''⟩ := hw'
      subst hw''
      go_wp2
      go_ret
      exact Ends.no rfl (below_drewN (HBW.out.mono hB) _) HP.out
end Go.Proofs.Ytpnkkdpggofanaa

namespace Go.Proofs.Ytpnkkdpggofanaa
open Go.RowKit

set_option maxRecDepth 4000 in
set_option maxHeartbeats 8000000 in
theorem cancel_any (B : Nat) (w : World) {bm b i : Nat} {c : Cl} {G : Gm} (h : Rep B w bm G) (hB : B ≤ w.heap.size) (hi : G.cs[i]? = some (b, c)) (hc : G.cp = ptrV b) (e : Ev) (_he : e.wf) :
    Calls Try.prog 83 #[ptrV bm, evV e] w fun x w' => Ends B bm w (cancelM G.ma i c e) x w' := by
  go_enter Try.func83, Try.ntmps83
  go_wp2
  generalize hW : w.alloc _ = W
  obtain ⟨hR, hE, hBW, hsz⟩ := h.boxed e hW
  clear hW h
  generalize hBE : w.heap.size = be at *
  have HR := hid hR
  have HE := hid hE
  have HBW := hid hBW
  have HC : Hid (Blk W b 126 (clC c)) := (HR.out.cl _ (List.mem_of_getElem? hi)).1
  clear hR hE hBW
  cases hg : aget G.lv e.id with
  | none =>
    have hlp : liveP G e.id = .pointer none := by simp [liveP, hg]
    have HG := hid hg
    have m_live : W.cell? ⟨bm, 8, none⟩ = some (.map (some G.bl)) := HR.out.mach.cell 8 rfl
    have e_id : W.cell? ⟨be, 4, none⟩ = some (.int .u64 e.id) := HE.out.cell 4 rfl
    have hl := fun n => (HR.out.drewN n).look e.id
    rw [hlp] at hl
    clear hg hlp
    go_quiet (fail)
    go_wp2
    clear m_live e_id hl
    generalize hW1 : W.drewN _ = W1
    replace HR := hid (show Rep B W1 bm G from hW1 ▸ HR.out.drewN _)
    replace HE := hid (show Blk W1 be 31 (evC e) from hW1 ▸ HE.out)
    replace HBW := hid (show Below be w W1 from hW1 ▸ below_drewN HBW.out _)
    replace HC := hid (show Blk W1 b 126 (clC c) from hW1 ▸ HC.out)
    clear hW1
    have HP := hid (show cancelM G.ma i c e = none by unfold cancelM; rw [lv_none HG.out])
    by_cases hw : c.bg.what = 4
    · have HW := hid (show decide (c.bg.what ∈ [4]) = true by simp [hw])
      have HE0 := hid HE.out
      refine wp_region_any (by kernel_rfl) ?_
      show wpAny _ _ _ _ 21 _ _ W1.drew
      refine wpAny_take (i := 0) (v := ptrV bm) rfl (by kernel_rfl) (by kernel_rfl) (by kernel_rfl) (fun _ _ _ h => h) (Or.inl ⟨by rfl, fun w => by go_simp⟩) ?_
      refine wpAny_step (k := 1) (by kernel_rfl) rfl (fun K hK => ?_)
      go_simp
      refine hK.out _ _ ?_
      clear hK K
      refine wpAny_step (k := 2) (by kernel_rfl) rfl (fun K hK => ?_)
      go_simp
      refine (what_any (c := c) [4] _ _ (Reads.built_at _ [.int .i64 4] 3 1 _ (by simp)) (by simp) (hc ▸ (HR.out.drew.alloc _).mach.cell 9 rfl) ((HC.out.drew.alloc _).cell 3 rfl)).mono ?_
      rintro x w' ⟨hx, rfl⟩
      rw [HW.out] at hx
      subst hx
      refine hK.out _ _ ?_
      clear hK K
      refine wpAny_quiet_rest (k := 3) _ (by kernel_rfl) (by kernel_rfl) rfl (by kernel_rfl) ?_
      simp only [List.drop_succ_cons, List.drop_zero]
      generalize hW2 : W1.drew.alloc _ = W2
      replace HR := hid (show Rep B W2 bm G from hW2 ▸ HR.out.drew.alloc _)
      replace HE := hid (show Blk W2 be 31 (evC e) from hW2 ▸ HE.out.drew.alloc _)
      replace HBW := hid (show Below be w W2 from hW2 ▸ (HBW.out.drew.alloc (Nat.le_trans (Nat.le_of_lt HE0.out.lt) (by simp)) _))
      replace HC := hid (show Blk W2 b 126 (clC c) from hW2 ▸ HC.out.drew.alloc _)
      clear hW2 HE0
      repeat (go_big_quiet_step (fail))
      refine wpQuiet_nil ?_
      intro _ hw'
      obtain ⟨nq, hw''⟩ := hw'
      subst hw''
      go_wp2
      go_ret
      exact Ends.no rfl (below_drewN (HBW.out.mono hB) _) HP.out
    · have HW := hid (show decide (c.bg.what ∈ [4]) = false by simp [hw])
      have HE0 := hid HE.out
      refine wp_region_any (by kernel_rfl) ?_
      show wpAny _ _ _ _ 21 _ _ W1.drew
      refine wpAny_take (i := 0) (v := ptrV bm) rfl (by kernel_rfl) (by kernel_rfl) (by kernel_rfl) (fun _ _ _ h => h) (Or.inl ⟨by rfl, fun w => by go_simp⟩) ?_
      refine wpAny_step (k := 1) (by kernel_rfl) rfl (fun K hK => ?_)
      go_simp
      refine hK.out _ _ ?_
      clear hK K
      refine wpAny_step (k := 2) (by kernel_rfl) rfl (fun K hK => ?_)
      go_simp
      refine (what_any (c := c) [4] _ _ (Reads.built_at _ [.int .i64 4] 3 1 _ (by simp)) (by simp) (hc ▸ (HR.out.drew.alloc _).mach.cell 9 rfl) ((HC.out.drew.alloc _).cell 3 rfl)).mono ?_
      rintro x w' ⟨hx, rfl⟩
      rw [HW.out] at hx
      subst hx
      refine hK.out _ _ ?_
      clear hK K
      refine wpAny_quiet_rest (k := 3) _ (by kernel_rfl) (by kernel_rfl) rfl (by kernel_rfl) ?_
      simp only [List.drop_succ_cons, List.drop_zero]
      generalize hW2 : W1.drew.alloc _ = W2
      replace HR := hid (show Rep B W2 bm G from hW2 ▸ HR.out.drew.alloc _)
      replace HE := hid (show Blk W2 be 31 (evC e) from hW2 ▸ HE.out.drew.alloc _)
      replace HBW := hid (show Below be w W2 from hW2 ▸ (HBW.out.drew.alloc (Nat.le_trans (Nat.le_of_lt HE0.out.lt) (by simp)) _))
      replace HC := hid (show Blk W2 b 126 (clC c) from hW2 ▸ HC.out.drew.alloc _)
      clear hW2 HE0
      repeat (go_big_quiet_step (fail))
      refine wpQuiet_nil ?_
      intro _ hw'
      obtain ⟨nq, hw''⟩ := hw'
      subst hw''
      go_wp2
      go_ret
      exact Ends.no rfl (below_drewN (HBW.out.mono hB) _) HP.out
  | some p =>
    obtain ⟨bt, t⟩ := p
    have hlp : liveP G e.id = ptrV bt := by simp [liveP, hg]
    have HG := hid hg
    have m_live : W.cell? ⟨bm, 8, none⟩ = some (.map (some G.bl)) := HR.out.mach.cell 8 rfl
    have e_id : W.cell? ⟨be, 4, none⟩ = some (.int .u64 e.id) := HE.out.cell 4 rfl
    have hl := fun n => (HR.out.drewN n).look e.id
    rw [hlp] at hl
    clear hg hlp
    go_quiet (fail)
    go_wp2
    clear m_live e_id hl
    generalize hW1 : W.drewN _ = W1
    replace HR := hid (show Rep B W1 bm G from hW1 ▸ HR.out.drewN _)
    replace HE := hid (show Blk W1 be 31 (evC e) from hW1 ▸ HE.out)
    replace HBW := hid (show Below be w W1 from hW1 ▸ below_drewN HBW.out _)
    replace HC := hid (show Blk W1 b 126 (clC c) from hW1 ▸ HC.out)
    clear hW1
    have HT : Hid (Blk W1 bt 151 (tmC t)) := (HR.out.tm _ ((aget_mem HR.out.live.nodup).1 HG.out)).1
    have he1 := hid (HR.out.tm _ ((aget_mem HR.out.live.nodup).1 HG.out)).2.2
    have hN := lv_some HG.out
    by_cases hw : c.bg.what = 4
    · have HW := hid (show decide (c.bg.what ∈ [4]) = true by simp [hw])
      by_cases hi1 : e.id = c.bg.id
      · have hi1' : (e.id != c.bg.id) = false := by simp [hi1]
        have HE0 := hid HE.out
        refine wp_region_any (by kernel_rfl) ?_
        show wpAny _ _ _ _ 21 _ _ W1.drew
        refine wpAny_take (i := 0) (v := ptrV bm) rfl (by kernel_rfl) (by kernel_rfl) (by kernel_rfl) (fun _ _ _ h => h) (Or.inl ⟨by rfl, fun w => by go_simp⟩) ?_
        refine wpAny_step (k := 1) (by kernel_rfl) rfl (fun K hK => ?_)
        go_simp
        refine hK.out _ _ ?_
        clear hK K
        refine wpAny_step (k := 2) (by kernel_rfl) rfl (fun K hK => ?_)
        go_simp
        refine (what_any (c := c) [4] _ _ (Reads.built_at _ [.int .i64 4] 3 1 _ (by simp)) (by simp) (hc ▸ (HR.out.drew.alloc _).mach.cell 9 rfl) ((HC.out.drew.alloc _).cell 3 rfl)).mono ?_
        rintro x w' ⟨hx, rfl⟩
        rw [HW.out] at hx
        subst hx
        refine hK.out _ _ ?_
        clear hK K
        refine wpAny_quiet_rest (k := 3) _ (by kernel_rfl) (by kernel_rfl) rfl (by kernel_rfl) ?_
        simp only [List.drop_succ_cons, List.drop_zero]
        generalize hW2 : W1.drew.alloc _ = W2
        replace HR := hid (show Rep B W2 bm G from hW2 ▸ HR.out.drew.alloc _)
        replace HE := hid (show Blk W2 be 31 (evC e) from hW2 ▸ HE.out.drew.alloc _)
        replace HBW := hid (show Below be w W2 from hW2 ▸ (HBW.out.drew.alloc (Nat.le_trans (Nat.le_of_lt HE0.out.lt) (by simp)) _))
        replace HC := hid (show Blk W2 b 126 (clC c) from hW2 ▸ HC.out.drew.alloc _)
        clear hW2 HE0
        replace HT : Hid (Blk W2 bt 151 (tmC t)) := (HR.out.tm _ ((aget_mem HR.out.live.nodup).1 HG.out)).1
        have m_c : W2.cell? ⟨bm, 9, none⟩ = some (ptrV b) := hc ▸ HR.out.mach.cell 9 rfl
        have e_id : W2.cell? ⟨be, 4, none⟩ = some (.int .u64 e.id) := HE.out.cell 4 rfl
        have c_id : W2.cell? ⟨b, 4, none⟩ = some (.int .u64 c.bg.id) := HC.out.cell 4 rfl
        repeat (go_big_quiet_step (fail))
        refine wpQuiet_nil ?_
        intro _ hw'
        obtain ⟨nq, hw''⟩ := hw'
        subst hw''
        clear m_c e_id c_id
        generalize hW1 : W2.drewN _ = W3
        replace HR := hid (show Rep B W3 bm G from hW1 ▸ HR.out.drewN _)
        replace HE := hid (show Blk W3 be 31 (evC e) from hW1 ▸ HE.out)
        replace HBW := hid (show Below be w W3 from hW1 ▸ below_drewN HBW.out _)
        replace HC := hid (show Blk W3 b 126 (clC c) from hW1 ▸ HC.out)
        clear hW1
        replace HT : Hid (Blk W3 bt 151 (tmC t)) := (HR.out.tm _ ((aget_mem HR.out.live.nodup).1 HG.out)).1
        have m_live : W3.cell? ⟨bm, 8, none⟩ = some (.map (some G.bl)) := HR.out.mach.cell 8 rfl
        have e_id : W3.cell? ⟨be, 4, none⟩ = some (.int .u64 e.id) := HE.out.cell 4 rfl
        have e_gen : W3.cell? ⟨be, 5, none⟩ = some (.int .u64 e.gen) := HE.out.cell 5 rfl
        have t_g : W3.cell? ⟨bt, 0, none⟩ = some (.int .u64 t.gen) := HT.out.cell 0 rfl
        have t_b : W3.cell? ⟨bt, 5, none⟩ = some (.bool t.btw) := HT.out.cell 5 rfl
        have hBw : B ≤ w.heap.size := Nat.le_trans hB (Nat.le_of_eq hBE.symm)
        cases hb : t.btw
        · rw [hb] at t_b
          by_cases hgn : e.gen = t.gen
          · have hgn' : (e.gen != t.gen) = false := by simp [hgn]
            have HP := hid (show cancelM G.ma i c e = some (fin ({ G with lv := adel G.lv e.id } : Gm).ma i e.id e.gen 0) by rw [delLive_ma]; unfold cancelM; rw [hN]; simp [hw, hi1, hb, hgn])
            clear hN hgn hw hi1
            go_wp2_with (fail)
            have HBB := hid (show Below B w W3 from HBW.out.mono hB)
            go_still_tail 6, (by kernel_rfl)
            refine (show wpList _ _ _ _ _ W3.drew from ?_)
            generalize hW3 : W3.drew = WD
            have HR3 := hid (show Rep B WD bm _ from hW3 ▸ HR.out.drew)
            have HM := hid HR3.out.live
            have HB3 := hid (show Below B w WD from hW3 ▸ (HBB.out).drew)
            have HE3 := hid (show Blk WD be 31 (evC e) from hW3 ▸ HE.out.drew)
            clear hW3
            go_wp2_with (first | (refine wpList_delete _ rfl 97 29 _ _ rfl (keyLaw_int Try.underlying29) Try.underlying97 G.bl G.lv (bt, t) HM.out rfl e.id rfl ?_; intro w4 hm4 hg4 hs4; have hch4 := hid (Chg.of_grown (S := (· = G.bl)) hg4 (fun k hk => (Option.some.inj hk).symm)); have HR4 := hid (HR3.out.ldel hch4.out hm4); have HE4 := hid (HE3.out.chg hch4.out (HE3.out.ne_map HM.out)); have HB4 := hid (HB3.out.trans (hch4.out.below (Nat.le_trans hBw HB3.out.size) (fun k hk => hk ▸ HR3.out.base.2.2.2))); have e_id4 : w4.cell? ⟨be, 4, none⟩ = some (.int .u64 e.id) := HE4.out.cell 4 rfl; have e_gen4 : w4.cell? ⟨be, 5, none⟩ = some (.int .u64 e.gen) := HE4.out.cell 5 rfl; clear hm4 hg4 hs4 hch4) | (go_at_call 105; refine (finish_any B _ (G := { G with lv := adel G.lv e.id }) HR4.out hi hc (e.id) (e.gen) (0)).mono ?_; rintro x w5 ⟨rfl, hr5, hc5⟩; have HR5 := hid hr5; have HB5 := hid (HB4.out.trans (hc5.below (Nat.le_trans hBw HB4.out.size) (fun k hk => hk ▸ (HR4.out.cl _ (List.mem_of_getElem? hi)).2.1))); clear hr5 hc5))
            go_ret
            exact Ends.yes rfl HB5.out (by rw [HP.out, ← fin_ma (G := { G with lv := adel G.lv e.id }) hi]) HR5.out
          · have hgn' : (e.gen != t.gen) = true := by simp [hgn]
            have HP := hid (show cancelM G.ma i c e = none by unfold cancelM; rw [hN]; simp [hw, hi1, hb, hgn])
            clear hN
            go_wp2_with (fail)
            go_ret
            exact Ends.no rfl (HBW.out.mono hB) HP.out
        · rw [hb] at t_b
          by_cases hf : fitsB t.gen 1 = true
          · by_cases hgn : e.gen = t.gen + 1
            · have hgn' : (e.gen != t.gen + 1) = false := by simp [hgn]
              have HP := hid (show cancelM G.ma i c e = some (fin ({ G with lv := adel G.lv e.id } : Gm).ma i e.id e.gen 0) by rw [delLive_ma]; unfold cancelM; rw [hN]; simp [hw, hi1, hb, hf, hgn])
              clear hN hgn hw hi1
              go_wp2_with (go_at_call 42; refine (add_fits (t.gen) (1) _ he1.out.gen u64_one hf).mono ?_; rintro x w' ⟨rfl, rfl⟩)
              have HBB := hid (show Below B w W3 from HBW.out.mono hB)
              go_still_tail 6, (by kernel_rfl)
              refine (show wpList _ _ _ _ _ W3.drew from ?_)
              generalize hW3 : W3.drew = WD
              have HR3 := hid (show Rep B WD bm _ from hW3 ▸ HR.out.drew)
              have HM := hid HR3.out.live
              have HB3 := hid (show Below B w WD from hW3 ▸ (HBB.out).drew)
              have HE3 := hid (show Blk WD be 31 (evC e) from hW3 ▸ HE.out.drew)
              clear hW3
              go_wp2_with (first | (refine wpList_delete _ rfl 97 29 _ _ rfl (keyLaw_int Try.underlying29) Try.underlying97 G.bl G.lv (bt, t) HM.out rfl e.id rfl ?_; intro w4 hm4 hg4 hs4; have hch4 := hid (Chg.of_grown (S := (· = G.bl)) hg4 (fun k hk => (Option.some.inj hk).symm)); have HR4 := hid (HR3.out.ldel hch4.out hm4); have HE4 := hid (HE3.out.chg hch4.out (HE3.out.ne_map HM.out)); have HB4 := hid (HB3.out.trans (hch4.out.below (Nat.le_trans hBw HB3.out.size) (fun k hk => hk ▸ HR3.out.base.2.2.2))); have e_id4 : w4.cell? ⟨be, 4, none⟩ = some (.int .u64 e.id) := HE4.out.cell 4 rfl; have e_gen4 : w4.cell? ⟨be, 5, none⟩ = some (.int .u64 e.gen) := HE4.out.cell 5 rfl; clear hm4 hg4 hs4 hch4) | (go_at_call 105; refine (finish_any B _ (G := { G with lv := adel G.lv e.id }) HR4.out hi hc (e.id) (e.gen) (0)).mono ?_; rintro x w5 ⟨rfl, hr5, hc5⟩; have HR5 := hid hr5; have HB5 := hid (HB4.out.trans (hc5.below (Nat.le_trans hBw HB4.out.size) (fun k hk => hk ▸ (HR4.out.cl _ (List.mem_of_getElem? hi)).2.1))); clear hr5 hc5))
              go_ret
              exact Ends.yes rfl HB5.out (by rw [HP.out, ← fin_ma (G := { G with lv := adel G.lv e.id }) hi]) HR5.out
            · have hgn' : (e.gen != t.gen + 1) = true := by simp [hgn]
              have HP := hid (show cancelM G.ma i c e = none by unfold cancelM; rw [hN]; simp [hw, hi1, hb, hf, hgn])
              clear hN
              go_wp2_with (go_at_call 42; refine (add_fits (t.gen) (1) _ he1.out.gen u64_one hf).mono ?_; rintro x w' ⟨rfl, rfl⟩)
              go_ret
              exact Ends.no rfl (HBW.out.mono hB) HP.out
          · replace hf : fitsB t.gen 1 = false := by simpa using hf
            have HP := hid (show cancelM G.ma i c e = none by unfold cancelM; rw [hN]; simp [hw, hi1, hb, hf])
            clear hN
            go_wp2_with (go_at_call 42; refine (add_not (t.gen) (1) _ he1.out.gen u64_one hf).mono ?_; rintro x w' ⟨rfl, rfl⟩)
            go_ret
            exact Ends.no rfl (HBW.out.mono hB) HP.out
      · have hi1' : (e.id != c.bg.id) = true := by simp [hi1]
        have HP := hid (show cancelM G.ma i c e = none by unfold cancelM; rw [hN]; simp [hw, hi1])
        clear hN
        have HE0 := hid HE.out
        refine wp_region_any (by kernel_rfl) ?_
        show wpAny _ _ _ _ 21 _ _ W1.drew
        refine wpAny_take (i := 0) (v := ptrV bm) rfl (by kernel_rfl) (by kernel_rfl) (by kernel_rfl) (fun _ _ _ h => h) (Or.inl ⟨by rfl, fun w => by go_simp⟩) ?_
        refine wpAny_step (k := 1) (by kernel_rfl) rfl (fun K hK => ?_)
        go_simp
        refine hK.out _ _ ?_
        clear hK K
        refine wpAny_step (k := 2) (by kernel_rfl) rfl (fun K hK => ?_)
        go_simp
        refine (what_any (c := c) [4] _ _ (Reads.built_at _ [.int .i64 4] 3 1 _ (by simp)) (by simp) (hc ▸ (HR.out.drew.alloc _).mach.cell 9 rfl) ((HC.out.drew.alloc _).cell 3 rfl)).mono ?_
        rintro x w' ⟨hx, rfl⟩
        rw [HW.out] at hx
        subst hx
        refine hK.out _ _ ?_
        clear hK K
        refine wpAny_quiet_rest (k := 3) _ (by kernel_rfl) (by kernel_rfl) rfl (by kernel_rfl) ?_
        simp only [List.drop_succ_cons, List.drop_zero]
        generalize hW2 : W1.drew.alloc _ = W2
        replace HR := hid (show Rep B W2 bm G from hW2 ▸ HR.out.drew.alloc _)
        replace HE := hid (show Blk W2 be 31 (evC e) from hW2 ▸ HE.out.drew.alloc _)
        replace HBW := hid (show Below be w W2 from hW2 ▸ (HBW.out.drew.alloc (Nat.le_trans (Nat.le_of_lt HE0.out.lt) (by simp)) _))
        replace HC := hid (show Blk W2 b 126 (clC c) from hW2 ▸ HC.out.drew.alloc _)
        clear hW2 HE0
        replace HT : Hid (Blk W2 bt 151 (tmC t)) := (HR.out.tm _ ((aget_mem HR.out.live.nodup).1 HG.out)).1
        have m_c : W2.cell? ⟨bm, 9, none⟩ = some (ptrV b) := hc ▸ HR.out.mach.cell 9 rfl
        have e_id : W2.cell? ⟨be, 4, none⟩ = some (.int .u64 e.id) := HE.out.cell 4 rfl
        have c_id : W2.cell? ⟨b, 4, none⟩ = some (.int .u64 c.bg.id) := HC.out.cell 4 rfl
        repeat (go_big_quiet_step (fail))
        refine wpQuiet_nil ?_
        intro _ hw'
        obtain ⟨nq, hw''⟩ := hw'
        subst hw''
        go_wp2
        go_ret
        exact Ends.no rfl (below_drewN (HBW.out.mono hB) _) HP.out
    · have HW := hid (show decide (c.bg.what ∈ [4]) = false by simp [hw])
      have HP := hid (show cancelM G.ma i c e = none by unfold cancelM; rw [hN]; simp [hw])
      clear hN
      have HE0 := hid HE.out
      refine wp_region_any (by kernel_rfl) ?_
      show wpAny _ _ _ _ 21 _ _ W1.drew
      refine wpAny_take (i := 0) (v := ptrV bm) rfl (by kernel_rfl) (by kernel_rfl) (by kernel_rfl) (fun _ _ _ h => h) (Or.inl ⟨by rfl, fun w => by go_simp⟩) ?_
      refine wpAny_step (k := 1) (by kernel_rfl) rfl (fun K hK => ?_)
      go_simp
      refine hK.out _ _ ?_
      clear hK K
      refine wpAny_step (k := 2) (by kernel_rfl) rfl (fun K hK => ?_)
      go_simp
      refine (what_any (c := c) [4] _ _ (Reads.built_at _ [.int .i64 4] 3 1 _ (by simp)) (by simp) (hc ▸ (HR.out.drew.alloc _).mach.cell 9 rfl) ((HC.out.drew.alloc _).cell 3 rfl)).mono ?_
      rintro x w' ⟨hx, rfl⟩
      rw [HW.out] at hx
      subst hx
      refine hK.out _ _ ?_
      clear hK K
      refine wpAny_quiet_rest (k := 3) _ (by kernel_rfl) (by kernel_rfl) rfl (by kernel_rfl) ?_
      simp only [List.drop_succ_cons, List.drop_zero]
      generalize hW2 : W1.drew.alloc _ = W2
      replace HR := hid (show Rep B W2 bm G from hW2 ▸ HR.out.drew.alloc _)
      replace HE := hid (show Blk W2 be 31 (evC e) from hW2 ▸ HE.out.drew.alloc _)
      replace HBW := hid (show Below be w W2 from hW2 ▸ (HBW.out.drew.alloc (Nat.le_trans (Nat.le_of_lt HE0.out.lt) (by simp)) _))
      replace HC := hid (show Blk W2 b 126 (clC c) from hW2 ▸ HC.out.drew.alloc _)
      clear hW2 HE0
      replace HT : Hid (Blk W2 bt 151 (tmC t)) := (HR.out.tm _ ((aget_mem HR.out.live.nodup).1 HG.out)).1
      have m_c : W2.cell? ⟨bm, 9, none⟩ = some (ptrV b) := hc ▸ HR.out.mach.cell 9 rfl
      have e_id : W2.cell? ⟨be, 4, none⟩ = some (.int .u64 e.id) := HE.out.cell 4 rfl
      have c_id : W2.cell? ⟨b, 4, none⟩ = some (.int .u64 c.bg.id) := HC.out.cell 4 rfl
      repeat (go_big_quiet_step (fail))
      refine wpQuiet_nil ?_
      intro _ hw'
      obtain ⟨nq, hw''⟩ := hw'
      subst hw''
      go_wp2
      go_ret
      exact Ends.no rfl (below_drewN (HBW.out.mono hB) _) HP.out
end Go.Proofs.Ytpnkkdpggofanaa

namespace Go.Proofs.Ytpnkkdpggofanaa
open Go.RowKit

set_option maxRecDepth 4000 in
set_option maxHeartbeats 8000000 in
theorem stop_any (B : Nat) (w : World) {bm b i : Nat} {c : Cl} {G : Gm} (h : Rep B w bm G) (hB : B ≤ w.heap.size) (hi : G.cs[i]? = some (b, c)) (hc : G.cp = ptrV b) (e : Ev) (_he : e.wf) :
    Calls Try.prog 84 #[ptrV bm, evV e] w fun x w' => Ends B bm w (stopM G.ma i c e) x w' := by
  go_enter Try.func84, Try.ntmps84
  go_wp2
  generalize hW : w.alloc _ = W
  obtain ⟨hR, hE, hBW, hsz⟩ := h.boxed e hW
  clear hW h
  generalize hBE : w.heap.size = be at *
  have HR := hid hR
  have HE := hid hE
  have HBW := hid hBW
  have HC : Hid (Blk W b 126 (clC c)) := (HR.out.cl _ (List.mem_of_getElem? hi)).1
  clear hR hE hBW
  clear hsz
  cases hg : aget G.lv e.id with
  | none =>
    have HP := hid (show stopM G.ma i c e = none by unfold stopM; rw [lv_none hg])
    have HS := hid (stopsM_none hg)
    clear hg
    by_cases hw : c.bg.what = 5
    · have HW := hid (show decide (c.bg.what ∈ [5]) = true by simp [hw])
      by_cases hi1 : e.id = c.bg.id
      · have hi1' : (e.id != c.bg.id) = false := by simp [hi1]
        clear hw hi1
        have HE0 := hid HE.out
        refine wp_region_any (by kernel_rfl) ?_
        show wpAny _ _ _ _ 39 _ _ W.drew
        refine wpAny_take (i := 0) (v := ptrV bm) rfl (by kernel_rfl) (by kernel_rfl) (by kernel_rfl) (fun _ _ _ h => h) (Or.inl ⟨by rfl, fun w => by go_simp⟩) ?_
        refine wpAny_step (k := 1) (by kernel_rfl) rfl (fun K hK => ?_)
        go_simp
        refine hK.out _ _ ?_
        clear hK K
        refine wpAny_step (k := 2) (by kernel_rfl) rfl (fun K hK => ?_)
        go_simp
        refine (what_any (c := c) [5] _ _ (Reads.built_at _ [.int .i64 5] 3 1 _ (by simp)) (by simp) (hc ▸ (HR.out.drew.alloc _).mach.cell 9 rfl) ((HC.out.drew.alloc _).cell 3 rfl)).mono ?_
        rintro x w' ⟨hx, rfl⟩
        rw [HW.out] at hx
        subst hx
        refine hK.out _ _ ?_
        clear hK K
        refine wpAny_quiet_rest (k := 3) _ (by kernel_rfl) (by kernel_rfl) rfl (by kernel_rfl) ?_
        simp only [List.drop_succ_cons, List.drop_zero]
        generalize hW2 : W.drew.alloc _ = W2
        replace HR := hid (show Rep B W2 bm G from hW2 ▸ HR.out.drew.alloc _)
        replace HE := hid (show Blk W2 be 31 (evC e) from hW2 ▸ HE.out.drew.alloc _)
        replace HBW := hid (show Below be w W2 from hW2 ▸ (HBW.out.drew.alloc (Nat.le_trans (Nat.le_of_lt HE0.out.lt) (by simp)) _))
        replace HC := hid (show Blk W2 b 126 (clC c) from hW2 ▸ HC.out.drew.alloc _)
        clear hW2 HE0
        have m_c : W2.cell? ⟨bm, 9, none⟩ = some (ptrV b) := hc ▸ HR.out.mach.cell 9 rfl
        have e_id : W2.cell? ⟨be, 4, none⟩ = some (.int .u64 e.id) := HE.out.cell 4 rfl
        have c_id : W2.cell? ⟨b, 4, none⟩ = some (.int .u64 c.bg.id) := HC.out.cell 4 rfl
        repeat (go_big_quiet_step ((go_at_call 106; exact quiet_of_drew (HS.out ▸ stops_any B _ (HR.out.drewN _) e.id))))
        refine wpQuiet_nil ?_
        intro _ hw'
        obtain ⟨nq, hw''⟩ := hw'
        subst hw''
        go_wp2
        go_ret
        exact Ends.no rfl (below_drewN (HBW.out.mono hB) _) HP.out
      · have hi1' : (e.id != c.bg.id) = true := by simp [hi1]
        clear hw hi1
        have HE0 := hid HE.out
        refine wp_region_any (by kernel_rfl) ?_
        show wpAny _ _ _ _ 39 _ _ W.drew
        refine wpAny_take (i := 0) (v := ptrV bm) rfl (by kernel_rfl) (by kernel_rfl) (by kernel_rfl) (fun _ _ _ h => h) (Or.inl ⟨by rfl, fun w => by go_simp⟩) ?_
        refine wpAny_step (k := 1) (by kernel_rfl) rfl (fun K hK => ?_)
        go_simp
        refine hK.out _ _ ?_
        clear hK K
        refine wpAny_step (k := 2) (by kernel_rfl) rfl (fun K hK => ?_)
        go_simp
        refine (what_any (c := c) [5] _ _ (Reads.built_at _ [.int .i64 5] 3 1 _ (by simp)) (by simp) (hc ▸ (HR.out.drew.alloc _).mach.cell 9 rfl) ((HC.out.drew.alloc _).cell 3 rfl)).mono ?_
        rintro x w' ⟨hx, rfl⟩
        rw [HW.out] at hx
        subst hx
        refine hK.out _ _ ?_
        clear hK K
        refine wpAny_quiet_rest (k := 3) _ (by kernel_rfl) (by kernel_rfl) rfl (by kernel_rfl) ?_
        simp only [List.drop_succ_cons, List.drop_zero]
        generalize hW2 : W.drew.alloc _ = W2
        replace HR := hid (show Rep B W2 bm G from hW2 ▸ HR.out.drew.alloc _)
        replace HE := hid (show Blk W2 be 31 (evC e) from hW2 ▸ HE.out.drew.alloc _)
        replace HBW := hid (show Below be w W2 from hW2 ▸ (HBW.out.drew.alloc (Nat.le_trans (Nat.le_of_lt HE0.out.lt) (by simp)) _))
        replace HC := hid (show Blk W2 b 126 (clC c) from hW2 ▸ HC.out.drew.alloc _)
        clear hW2 HE0
        have m_c : W2.cell? ⟨bm, 9, none⟩ = some (ptrV b) := hc ▸ HR.out.mach.cell 9 rfl
        have e_id : W2.cell? ⟨be, 4, none⟩ = some (.int .u64 e.id) := HE.out.cell 4 rfl
        have c_id : W2.cell? ⟨b, 4, none⟩ = some (.int .u64 c.bg.id) := HC.out.cell 4 rfl
        repeat (go_big_quiet_step (fail))
        refine wpQuiet_nil ?_
        intro _ hw'
        obtain ⟨nq, hw''⟩ := hw'
        subst hw''
        go_wp2
        go_ret
        exact Ends.no rfl (below_drewN (HBW.out.mono hB) _) HP.out
    · have HW := hid (show decide (c.bg.what ∈ [5]) = false by simp [hw])
      clear hw
      have HE0 := hid HE.out
      refine wp_region_any (by kernel_rfl) ?_
      show wpAny _ _ _ _ 39 _ _ W.drew
      refine wpAny_take (i := 0) (v := ptrV bm) rfl (by kernel_rfl) (by kernel_rfl) (by kernel_rfl) (fun _ _ _ h => h) (Or.inl ⟨by rfl, fun w => by go_simp⟩) ?_
      refine wpAny_step (k := 1) (by kernel_rfl) rfl (fun K hK => ?_)
      go_simp
      refine hK.out _ _ ?_
      clear hK K
      refine wpAny_step (k := 2) (by kernel_rfl) rfl (fun K hK => ?_)
      go_simp
      refine (what_any (c := c) [5] _ _ (Reads.built_at _ [.int .i64 5] 3 1 _ (by simp)) (by simp) (hc ▸ (HR.out.drew.alloc _).mach.cell 9 rfl) ((HC.out.drew.alloc _).cell 3 rfl)).mono ?_
      rintro x w' ⟨hx, rfl⟩
      rw [HW.out] at hx
      subst hx
      refine hK.out _ _ ?_
      clear hK K
      refine wpAny_quiet_rest (k := 3) _ (by kernel_rfl) (by kernel_rfl) rfl (by kernel_rfl) ?_
      simp only [List.drop_succ_cons, List.drop_zero]
      generalize hW2 : W.drew.alloc _ = W2
      replace HR := hid (show Rep B W2 bm G from hW2 ▸ HR.out.drew.alloc _)
      replace HE := hid (show Blk W2 be 31 (evC e) from hW2 ▸ HE.out.drew.alloc _)
      replace HBW := hid (show Below be w W2 from hW2 ▸ (HBW.out.drew.alloc (Nat.le_trans (Nat.le_of_lt HE0.out.lt) (by simp)) _))
      replace HC := hid (show Blk W2 b 126 (clC c) from hW2 ▸ HC.out.drew.alloc _)
      clear hW2 HE0
      have m_c : W2.cell? ⟨bm, 9, none⟩ = some (ptrV b) := hc ▸ HR.out.mach.cell 9 rfl
      have e_id : W2.cell? ⟨be, 4, none⟩ = some (.int .u64 e.id) := HE.out.cell 4 rfl
      have c_id : W2.cell? ⟨b, 4, none⟩ = some (.int .u64 c.bg.id) := HC.out.cell 4 rfl
      repeat (go_big_quiet_step (fail))
      refine wpQuiet_nil ?_
      intro _ hw'
      obtain ⟨nq, hw''⟩ := hw'
      subst hw''
      go_wp2
      go_ret
      exact Ends.no rfl (below_drewN (HBW.out.mono hB) _) HP.out
  | some p =>
    obtain ⟨bt, t⟩ := p
    have HG := hid hg
    have HT : Hid (Blk W bt 151 (tmC t)) := (HR.out.tm _ ((aget_mem HR.out.live.nodup).1 HG.out)).1
    have he1 := hid (HR.out.tm _ ((aget_mem HR.out.live.nodup).1 HG.out)).2.2
    have hN := lv_some HG.out
    have hlp : liveP G e.id = ptrV bt := by simp [liveP, hg]
    have hHS := stopsM_some hg
    clear hg
    by_cases hw : c.bg.what = 5
    · have HW := hid (show decide (c.bg.what ∈ [5]) = true by simp [hw])
      by_cases hi1 : e.id = c.bg.id
      · have hi1' : (e.id != c.bg.id) = false := by simp [hi1]
        by_cases hs : (decide (t.per > 0) && !t.last) = true
        · have HS := hid (hHS.trans hs)
          by_cases hgn : e.gen = t.gen
          · have hgn' : (e.gen != t.gen) = false := by simp [hgn]
            have hag : aget G.lv e.id ≠ none := by rw [HG.out]; simp
            have RAW := hid (And.intro hw (And.intro hi1 hgn))
            clear hw hi1 hgn
            have HE0 := hid HE.out
            refine wp_region_any (by kernel_rfl) ?_
            show wpAny _ _ _ _ 39 _ _ W.drew
            refine wpAny_take (i := 0) (v := ptrV bm) rfl (by kernel_rfl) (by kernel_rfl) (by kernel_rfl) (fun _ _ _ h => h) (Or.inl ⟨by rfl, fun w => by go_simp⟩) ?_
            refine wpAny_step (k := 1) (by kernel_rfl) rfl (fun K hK => ?_)
            go_simp
            refine hK.out _ _ ?_
            clear hK K
            refine wpAny_step (k := 2) (by kernel_rfl) rfl (fun K hK => ?_)
            go_simp
            refine (what_any (c := c) [5] _ _ (Reads.built_at _ [.int .i64 5] 3 1 _ (by simp)) (by simp) (hc ▸ (HR.out.drew.alloc _).mach.cell 9 rfl) ((HC.out.drew.alloc _).cell 3 rfl)).mono ?_
            rintro x w' ⟨hx, rfl⟩
            rw [HW.out] at hx
            subst hx
            refine hK.out _ _ ?_
            clear hK K
            refine wpAny_quiet_rest (k := 3) _ (by kernel_rfl) (by kernel_rfl) rfl (by kernel_rfl) ?_
            simp only [List.drop_succ_cons, List.drop_zero]
            generalize hW2 : W.drew.alloc _ = W2
            replace HR := hid (show Rep B W2 bm G from hW2 ▸ HR.out.drew.alloc _)
            replace HE := hid (show Blk W2 be 31 (evC e) from hW2 ▸ HE.out.drew.alloc _)
            replace HBW := hid (show Below be w W2 from hW2 ▸ (HBW.out.drew.alloc (Nat.le_trans (Nat.le_of_lt HE0.out.lt) (by simp)) _))
            replace HC := hid (show Blk W2 b 126 (clC c) from hW2 ▸ HC.out.drew.alloc _)
            clear hW2 HE0
            replace HT : Hid (Blk W2 bt 151 (tmC t)) := (HR.out.tm _ ((aget_mem HR.out.live.nodup).1 HG.out)).1
            have hl := fun n => (HR.out.drewN n).look e.id
            rw [hlp] at hl
            clear hlp
            have m_c : W2.cell? ⟨bm, 9, none⟩ = some (ptrV b) := hc ▸ HR.out.mach.cell 9 rfl
            have m_live : W2.cell? ⟨bm, 8, none⟩ = some (.map (some G.bl)) := HR.out.mach.cell 8 rfl
            have e_id : W2.cell? ⟨be, 4, none⟩ = some (.int .u64 e.id) := HE.out.cell 4 rfl
            have e_gen : W2.cell? ⟨be, 5, none⟩ = some (.int .u64 e.gen) := HE.out.cell 5 rfl
            have c_id : W2.cell? ⟨b, 4, none⟩ = some (.int .u64 c.bg.id) := HC.out.cell 4 rfl
            have t_g : W2.cell? ⟨bt, 0, none⟩ = some (.int .u64 t.gen) := HT.out.cell 0 rfl
            repeat (go_big_quiet_step ((go_at_call 106; exact quiet_of_drew (HS.out ▸ stops_any B _ (HR.out.drewN _) e.id))))
            refine wpQuiet_nil ?_
            intro _ hw'
            obtain ⟨nq, hw''⟩ := hw'
            subst hw''
            go_wp2
            clear m_c m_live e_id e_gen c_id t_g hl
            generalize hW1 : W2.drewN _ = W3a
            replace HR := hid (show Rep B W3a bm G from hW1 ▸ HR.out.drewN _)
            replace HE := hid (show Blk W3a be 31 (evC e) from hW1 ▸ HE.out)
            replace HBW := hid (show Below be w W3a from hW1 ▸ below_drewN HBW.out _)
            replace HC := hid (show Blk W3a b 126 (clC c) from hW1 ▸ HC.out)
            clear hW1
            replace HT : Hid (Blk W3a bt 151 (tmC t)) := (HR.out.tm _ ((aget_mem HR.out.live.nodup).1 HG.out)).1
            have m_live : W3a.cell? ⟨bm, 8, none⟩ = some (.map (some G.bl)) := HR.out.mach.cell 8 rfl
            have e_id : W3a.cell? ⟨be, 4, none⟩ = some (.int .u64 e.id) := HE.out.cell 4 rfl
            have hl := fun n => (HR.out.drewN n).look e.id
            rw [show liveP G e.id = ptrV bt by simp [liveP, HG.out]] at hl
            go_quiet (fail)
            clear m_live e_id hl
            generalize hW1 : W3a.drewN _ = W3
            replace HR := hid (show Rep B W3 bm G from hW1 ▸ HR.out.drewN _)
            replace HE := hid (show Blk W3 be 31 (evC e) from hW1 ▸ HE.out)
            replace HBW := hid (show Below be w W3 from hW1 ▸ below_drewN HBW.out _)
            replace HC := hid (show Blk W3 b 126 (clC c) from hW1 ▸ HC.out)
            clear hW1
            replace HT : Hid (Blk W3 bt 151 (tmC t)) := (HR.out.tm _ ((aget_mem HR.out.live.nodup).1 HG.out)).1
            have e_id : W3.cell? ⟨be, 4, none⟩ = some (.int .u64 e.id) := HE.out.cell 4 rfl
            have e_gen : W3.cell? ⟨be, 5, none⟩ = some (.int .u64 e.gen) := HE.out.cell 5 rfl
            have t_b : W3.cell? ⟨bt, 5, none⟩ = some (.bool t.btw) := HT.out.cell 5 rfl
            have t_l : W3.cell? ⟨bt, 3, none⟩ = some (.bool t.last) := HT.out.cell 3 rfl
            have f3 := HT.out.frozen 3
            have hBw : B ≤ w.heap.size := Nat.le_trans hB (Nat.le_of_eq hBE.symm)
            have hne : be ≠ bt := fun h => HE.out.ne HT.out (by decide) h
            have hne' := hne.symm
            cases hb : t.btw
            · have HP := hid (show stopM G.ma i c e = some (fin ({ G with lv := aput G.lv e.id (bt, { t with last := true }) } : Gm).ma i e.id e.gen 0) by rw [setLive_ma]; unfold stopM; rw [hN]; simp only [hs]; simp [RAW.out.1, RAW.out.2.1, RAW.out.2.2, hb])
              clear hN hHS
              rw [hb] at t_b
              go_wp2_with (go_at_call 105; generalize hW4 : (W3.setCell ⟨bt, 3, none⟩ (.bool true)) = W4; have hch := hid (show Chg (· = bt) W3 W4 from hW4 ▸ ((Chg.refl (· = bt) W3).sets rfl 3 (.bool true))); have HB := hid (below_chg (HBW.out.mono hB) hBw hch.out (fun k hk => hk ▸ (HR.out.tm _ ((aget_mem HR.out.live.nodup).1 HG.out)).2.1)); replace HE := hid (HE.out.chg hch.out (fun h => HE.out.ne HT.out (by decide) h)); replace HR := hid (HR.out.tset HG.out hch.out (t' := { t with last := true }) (show Blk W4 bt _ (tmC _) from hW4 ▸ (HT.out.set 3 (.bool true))) ⟨he1.out.gen, he1.out.dl, he1.out.per⟩); clear hch hW4 HBW HC HT; refine (finish_any B _ (G := { G with lv := aput G.lv e.id (bt, { t with last := true }) }) HR.out hi hc (e.id) (e.gen) (0)).mono ?_; rintro x w5 ⟨rfl, hr5, hc5⟩; have HR5 := hid hr5; have HB5 := hid (HB.out.trans (hc5.below (Nat.le_trans hBw HB.out.size) (fun k hk => hk ▸ (HR.out.cl _ (List.mem_of_getElem? hi)).2.1))); clear hr5 hc5)
              go_ret
              exact Ends.yes rfl HB5.out (by rw [HP.out, ← fin_ma (G := { G with lv := aput G.lv e.id (bt, { t with last := true }) }) hi]) HR5.out
            · have HP := hid (show stopM G.ma i c e = some (fin ({ G with lv := adel (aput G.lv e.id (bt, { t with last := true })) e.id } : Gm).ma i e.id e.gen 0) by rw [show ({ G with lv := adel (aput G.lv e.id (bt, { t with last := true })) e.id } : Gm) = { G with lv := adel G.lv e.id } by rw [adel_aput _ _ _ hag], delLive_ma]; unfold stopM; rw [hN]; simp only [hs]; simp [RAW.out.1, RAW.out.2.1, RAW.out.2.2, hb])
              clear hN hHS
              rw [hb] at t_b
              go_wp2
              generalize hW4 : (W3.setCell ⟨bt, 3, none⟩ (.bool true)) = W4
              have hch := hid (show Chg (· = bt) W3 W4 from hW4 ▸ ((Chg.refl (· = bt) W3).sets rfl 3 (.bool true)))
              have HB := hid (below_chg (HBW.out.mono hB) hBw hch.out (fun k hk => hk ▸ (HR.out.tm _ ((aget_mem HR.out.live.nodup).1 HG.out)).2.1))
              replace HE := hid (HE.out.chg hch.out (fun h => HE.out.ne HT.out (by decide) h))
              replace HR := hid (HR.out.tset HG.out hch.out (t' := { t with last := true }) (show Blk W4 bt _ (tmC _) from hW4 ▸ (HT.out.set 3 (.bool true))) ⟨he1.out.gen, he1.out.dl, he1.out.per⟩)
              clear hch hW4 HBW HC HT
              have HBB := HB
              have m_live : W4.cell? ⟨bm, 8, none⟩ = some (.map (some G.bl)) := HR.out.mach.cell 8 rfl
              clear e_id e_gen
              have e_id : W4.cell? ⟨be, 4, none⟩ = some (.int .u64 e.id) := HE.out.cell 4 rfl
              have e_gen : W4.cell? ⟨be, 5, none⟩ = some (.int .u64 e.gen) := HE.out.cell 5 rfl
              go_still_tail 6, (by kernel_rfl)
              refine (show wpList _ _ _ _ _ W4.drew from ?_)
              generalize hW3 : W4.drew = WD
              have HR3 := hid (show Rep B WD bm _ from hW3 ▸ HR.out.drew)
              have HM := hid HR3.out.live
              have HB3 := hid (show Below B w WD from hW3 ▸ (HBB.out).drew)
              have HE3 := hid (show Blk WD be 31 (evC e) from hW3 ▸ HE.out.drew)
              clear hW3
              go_wp2_with (first | (refine wpList_delete _ rfl 97 29 _ _ rfl (keyLaw_int Try.underlying29) Try.underlying97 G.bl (aput G.lv e.id (bt, { t with last := true })) (bt, { t with last := true }) HM.out rfl e.id rfl ?_; intro w4 hm4 hg4 hs4; have hch4 := hid (Chg.of_grown (S := (· = G.bl)) hg4 (fun k hk => (Option.some.inj hk).symm)); have HR4 := hid (HR3.out.ldel hch4.out hm4); have HE4 := hid (HE3.out.chg hch4.out (HE3.out.ne_map HM.out)); have HB4 := hid (HB3.out.trans (hch4.out.below (Nat.le_trans hBw HB3.out.size) (fun k hk => hk ▸ HR3.out.base.2.2.2))); have e_id4 : w4.cell? ⟨be, 4, none⟩ = some (.int .u64 e.id) := HE4.out.cell 4 rfl; have e_gen4 : w4.cell? ⟨be, 5, none⟩ = some (.int .u64 e.gen) := HE4.out.cell 5 rfl; clear hm4 hg4 hs4 hch4) | (go_at_call 105; refine (finish_any B _ (G := { G with lv := adel (aput G.lv e.id (bt, { t with last := true })) e.id }) HR4.out hi hc (e.id) (e.gen) (0)).mono ?_; rintro x w5 ⟨rfl, hr5, hc5⟩; have HR5 := hid hr5; have HB5 := hid (HB4.out.trans (hc5.below (Nat.le_trans hBw HB4.out.size) (fun k hk => hk ▸ (HR4.out.cl _ (List.mem_of_getElem? hi)).2.1))); clear hr5 hc5))
              go_ret
              exact Ends.yes rfl HB5.out (by rw [HP.out, ← fin_ma (G := { G with lv := adel (aput G.lv e.id (bt, { t with last := true })) e.id }) hi]) HR5.out
          · have hgn' : (e.gen != t.gen) = true := by simp [hgn]
            have HP := hid (show stopM G.ma i c e = none by unfold stopM; rw [hN]; simp only [hs]; simp [hw, hi1, hgn])
            clear hN hHS hw hi1 hs hgn
            have HE0 := hid HE.out
            refine wp_region_any (by kernel_rfl) ?_
            show wpAny _ _ _ _ 39 _ _ W.drew
            refine wpAny_take (i := 0) (v := ptrV bm) rfl (by kernel_rfl) (by kernel_rfl) (by kernel_rfl) (fun _ _ _ h => h) (Or.inl ⟨by rfl, fun w => by go_simp⟩) ?_
            refine wpAny_step (k := 1) (by kernel_rfl) rfl (fun K hK => ?_)
            go_simp
            refine hK.out _ _ ?_
            clear hK K
            refine wpAny_step (k := 2) (by kernel_rfl) rfl (fun K hK => ?_)
            go_simp
            refine (what_any (c := c) [5] _ _ (Reads.built_at _ [.int .i64 5] 3 1 _ (by simp)) (by simp) (hc ▸ (HR.out.drew.alloc _).mach.cell 9 rfl) ((HC.out.drew.alloc _).cell 3 rfl)).mono ?_
            rintro x w' ⟨hx, rfl⟩
            rw [HW.out] at hx
            subst hx
            refine hK.out _ _ ?_
            clear hK K
            refine wpAny_quiet_rest (k := 3) _ (by kernel_rfl) (by kernel_rfl) rfl (by kernel_rfl) ?_
            simp only [List.drop_succ_cons, List.drop_zero]
            generalize hW2 : W.drew.alloc _ = W2
            replace HR := hid (show Rep B W2 bm G from hW2 ▸ HR.out.drew.alloc _)
            replace HE := hid (show Blk W2 be 31 (evC e) from hW2 ▸ HE.out.drew.alloc _)
            replace HBW := hid (show Below be w W2 from hW2 ▸ (HBW.out.drew.alloc (Nat.le_trans (Nat.le_of_lt HE0.out.lt) (by simp)) _))
            replace HC := hid (show Blk W2 b 126 (clC c) from hW2 ▸ HC.out.drew.alloc _)
            clear hW2 HE0
            replace HT : Hid (Blk W2 bt 151 (tmC t)) := (HR.out.tm _ ((aget_mem HR.out.live.nodup).1 HG.out)).1
            have hl := fun n => (HR.out.drewN n).look e.id
            rw [hlp] at hl
            clear hlp
            have m_c : W2.cell? ⟨bm, 9, none⟩ = some (ptrV b) := hc ▸ HR.out.mach.cell 9 rfl
            have m_live : W2.cell? ⟨bm, 8, none⟩ = some (.map (some G.bl)) := HR.out.mach.cell 8 rfl
            have e_id : W2.cell? ⟨be, 4, none⟩ = some (.int .u64 e.id) := HE.out.cell 4 rfl
            have e_gen : W2.cell? ⟨be, 5, none⟩ = some (.int .u64 e.gen) := HE.out.cell 5 rfl
            have c_id : W2.cell? ⟨b, 4, none⟩ = some (.int .u64 c.bg.id) := HC.out.cell 4 rfl
            have t_g : W2.cell? ⟨bt, 0, none⟩ = some (.int .u64 t.gen) := HT.out.cell 0 rfl
            repeat (go_big_quiet_step ((go_at_call 106; exact quiet_of_drew (HS.out ▸ stops_any B _ (HR.out.drewN _) e.id))))
            refine wpQuiet_nil ?_
            intro _ hw'
            obtain ⟨nq, hw''⟩ := hw'
            subst hw''
            go_wp2
            go_ret
            exact Ends.no rfl (below_drewN (HBW.out.mono hB) _) HP.out
        · replace hs := Bool.eq_false_iff.2 hs
          have HS := hid (hHS.trans hs)
          have HP := hid (show stopM G.ma i c e = none by unfold stopM; rw [hN]; simp only [hs]; simp [hw, hi1])
          clear hN hHS hw hi1 hs
          have HE0 := hid HE.out
          refine wp_region_any (by kernel_rfl) ?_
          show wpAny _ _ _ _ 39 _ _ W.drew
          refine wpAny_take (i := 0) (v := ptrV bm) rfl (by kernel_rfl) (by kernel_rfl) (by kernel_rfl) (fun _ _ _ h => h) (Or.inl ⟨by rfl, fun w => by go_simp⟩) ?_
          refine wpAny_step (k := 1) (by kernel_rfl) rfl (fun K hK => ?_)
          go_simp
          refine hK.out _ _ ?_
          clear hK K
          refine wpAny_step (k := 2) (by kernel_rfl) rfl (fun K hK => ?_)
          go_simp
          refine (what_any (c := c) [5] _ _ (Reads.built_at _ [.int .i64 5] 3 1 _ (by simp)) (by simp) (hc ▸ (HR.out.drew.alloc _).mach.cell 9 rfl) ((HC.out.drew.alloc _).cell 3 rfl)).mono ?_
          rintro x w' ⟨hx, rfl⟩
          rw [HW.out] at hx
          subst hx
          refine hK.out _ _ ?_
          clear hK K
          refine wpAny_quiet_rest (k := 3) _ (by kernel_rfl) (by kernel_rfl) rfl (by kernel_rfl) ?_
          simp only [List.drop_succ_cons, List.drop_zero]
          generalize hW2 : W.drew.alloc _ = W2
          replace HR := hid (show Rep B W2 bm G from hW2 ▸ HR.out.drew.alloc _)
          replace HE := hid (show Blk W2 be 31 (evC e) from hW2 ▸ HE.out.drew.alloc _)
          replace HBW := hid (show Below be w W2 from hW2 ▸ (HBW.out.drew.alloc (Nat.le_trans (Nat.le_of_lt HE0.out.lt) (by simp)) _))
          replace HC := hid (show Blk W2 b 126 (clC c) from hW2 ▸ HC.out.drew.alloc _)
          clear hW2 HE0
          replace HT : Hid (Blk W2 bt 151 (tmC t)) := (HR.out.tm _ ((aget_mem HR.out.live.nodup).1 HG.out)).1
          have hl := fun n => (HR.out.drewN n).look e.id
          rw [hlp] at hl
          clear hlp
          have m_c : W2.cell? ⟨bm, 9, none⟩ = some (ptrV b) := hc ▸ HR.out.mach.cell 9 rfl
          have m_live : W2.cell? ⟨bm, 8, none⟩ = some (.map (some G.bl)) := HR.out.mach.cell 8 rfl
          have e_id : W2.cell? ⟨be, 4, none⟩ = some (.int .u64 e.id) := HE.out.cell 4 rfl
          have e_gen : W2.cell? ⟨be, 5, none⟩ = some (.int .u64 e.gen) := HE.out.cell 5 rfl
          have c_id : W2.cell? ⟨b, 4, none⟩ = some (.int .u64 c.bg.id) := HC.out.cell 4 rfl
          have t_g : W2.cell? ⟨bt, 0, none⟩ = some (.int .u64 t.gen) := HT.out.cell 0 rfl
          repeat (go_big_quiet_step ((go_at_call 106; exact quiet_of_drew (HS.out ▸ stops_any B _ (HR.out.drewN _) e.id))))
          refine wpQuiet_nil ?_
          intro _ hw'
          obtain ⟨nq, hw''⟩ := hw'
          subst hw''
          go_wp2
          go_ret
          exact Ends.no rfl (below_drewN (HBW.out.mono hB) _) HP.out
      · have hi1' : (e.id != c.bg.id) = true := by simp [hi1]
        have HP := hid (show stopM G.ma i c e = none by unfold stopM; rw [hN]; simp [hw, hi1])
        clear hN hHS hw hi1
        have HE0 := hid HE.out
        refine wp_region_any (by kernel_rfl) ?_
        show wpAny _ _ _ _ 39 _ _ W.drew
        refine wpAny_take (i := 0) (v := ptrV bm) rfl (by kernel_rfl) (by kernel_rfl) (by kernel_rfl) (fun _ _ _ h => h) (Or.inl ⟨by rfl, fun w => by go_simp⟩) ?_
        refine wpAny_step (k := 1) (by kernel_rfl) rfl (fun K hK => ?_)
        go_simp
        refine hK.out _ _ ?_
        clear hK K
        refine wpAny_step (k := 2) (by kernel_rfl) rfl (fun K hK => ?_)
        go_simp
        refine (what_any (c := c) [5] _ _ (Reads.built_at _ [.int .i64 5] 3 1 _ (by simp)) (by simp) (hc ▸ (HR.out.drew.alloc _).mach.cell 9 rfl) ((HC.out.drew.alloc _).cell 3 rfl)).mono ?_
        rintro x w' ⟨hx, rfl⟩
        rw [HW.out] at hx
        subst hx
        refine hK.out _ _ ?_
        clear hK K
        refine wpAny_quiet_rest (k := 3) _ (by kernel_rfl) (by kernel_rfl) rfl (by kernel_rfl) ?_
        simp only [List.drop_succ_cons, List.drop_zero]
        generalize hW2 : W.drew.alloc _ = W2
        replace HR := hid (show Rep B W2 bm G from hW2 ▸ HR.out.drew.alloc _)
        replace HE := hid (show Blk W2 be 31 (evC e) from hW2 ▸ HE.out.drew.alloc _)
        replace HBW := hid (show Below be w W2 from hW2 ▸ (HBW.out.drew.alloc (Nat.le_trans (Nat.le_of_lt HE0.out.lt) (by simp)) _))
        replace HC := hid (show Blk W2 b 126 (clC c) from hW2 ▸ HC.out.drew.alloc _)
        clear hW2 HE0
        replace HT : Hid (Blk W2 bt 151 (tmC t)) := (HR.out.tm _ ((aget_mem HR.out.live.nodup).1 HG.out)).1
        have hl := fun n => (HR.out.drewN n).look e.id
        rw [hlp] at hl
        clear hlp
        have m_c : W2.cell? ⟨bm, 9, none⟩ = some (ptrV b) := hc ▸ HR.out.mach.cell 9 rfl
        have m_live : W2.cell? ⟨bm, 8, none⟩ = some (.map (some G.bl)) := HR.out.mach.cell 8 rfl
        have e_id : W2.cell? ⟨be, 4, none⟩ = some (.int .u64 e.id) := HE.out.cell 4 rfl
        have e_gen : W2.cell? ⟨be, 5, none⟩ = some (.int .u64 e.gen) := HE.out.cell 5 rfl
        have c_id : W2.cell? ⟨b, 4, none⟩ = some (.int .u64 c.bg.id) := HC.out.cell 4 rfl
        have t_g : W2.cell? ⟨bt, 0, none⟩ = some (.int .u64 t.gen) := HT.out.cell 0 rfl
        repeat (go_big_quiet_step (fail))
        refine wpQuiet_nil ?_
        intro _ hw'
        obtain ⟨nq, hw''⟩ := hw'
        subst hw''
        go_wp2
        go_ret
        exact Ends.no rfl (below_drewN (HBW.out.mono hB) _) HP.out
    · have HW := hid (show decide (c.bg.what ∈ [5]) = false by simp [hw])
      have HP := hid (show stopM G.ma i c e = none by unfold stopM; rw [hN]; simp [hw])
      clear hN hHS hw
      have HE0 := hid HE.out
      refine wp_region_any (by kernel_rfl) ?_
      show wpAny _ _ _ _ 39 _ _ W.drew
      refine wpAny_take (i := 0) (v := ptrV bm) rfl (by kernel_rfl) (by kernel_rfl) (by kernel_rfl) (fun _ _ _ h => h) (Or.inl ⟨by rfl, fun w => by go_simp⟩) ?_
      refine wpAny_step (k := 1) (by kernel_rfl) rfl (fun K hK => ?_)
      go_simp
      refine hK.out _ _ ?_
      clear hK K
      refine wpAny_step (k := 2) (by kernel_rfl) rfl (fun K hK => ?_)
      go_simp
      refine (what_any (c := c) [5] _ _ (Reads.built_at _ [.int .i64 5] 3 1 _ (by simp)) (by simp) (hc ▸ (HR.out.drew.alloc _).mach.cell 9 rfl) ((HC.out.drew.alloc _).cell 3 rfl)).mono ?_
      rintro x w' ⟨hx, rfl⟩
      rw [HW.out] at hx
      subst hx
      refine hK.out _ _ ?_
      clear hK K
      refine wpAny_quiet_rest (k := 3) _ (by kernel_rfl) (by kernel_rfl) rfl (by kernel_rfl) ?_
      simp only [List.drop_succ_cons, List.drop_zero]
      generalize hW2 : W.drew.alloc _ = W2
      replace HR := hid (show Rep B W2 bm G from hW2 ▸ HR.out.drew.alloc _)
      replace HE := hid (show Blk W2 be 31 (evC e) from hW2 ▸ HE.out.drew.alloc _)
      replace HBW := hid (show Below be w W2 from hW2 ▸ (HBW.out.drew.alloc (Nat.le_trans (Nat.le_of_lt HE0.out.lt) (by simp)) _))
      replace HC := hid (show Blk W2 b 126 (clC c) from hW2 ▸ HC.out.drew.alloc _)
      clear hW2 HE0
      replace HT : Hid (Blk W2 bt 151 (tmC t)) := (HR.out.tm _ ((aget_mem HR.out.live.nodup).1 HG.out)).1
      have hl := fun n => (HR.out.drewN n).look e.id
      rw [hlp] at hl
      clear hlp
      have m_c : W2.cell? ⟨bm, 9, none⟩ = some (ptrV b) := hc ▸ HR.out.mach.cell 9 rfl
      have m_live : W2.cell? ⟨bm, 8, none⟩ = some (.map (some G.bl)) := HR.out.mach.cell 8 rfl
      have e_id : W2.cell? ⟨be, 4, none⟩ = some (.int .u64 e.id) := HE.out.cell 4 rfl
      have e_gen : W2.cell? ⟨be, 5, none⟩ = some (.int .u64 e.gen) := HE.out.cell 5 rfl
      have c_id : W2.cell? ⟨b, 4, none⟩ = some (.int .u64 c.bg.id) := HC.out.cell 4 rfl
      have t_g : W2.cell? ⟨bt, 0, none⟩ = some (.int .u64 t.gen) := HT.out.cell 0 rfl
      repeat (go_big_quiet_step (fail))
      refine wpQuiet_nil ?_
      intro _ hw'
      obtain ⟨nq, hw''⟩ := hw'
      subst hw''
      go_wp2
      go_ret
      exact Ends.no rfl (below_drewN (HBW.out.mono hB) _) HP.out
end Go.Proofs.Ytpnkkdpggofanaa

namespace Go.Proofs.Ytpnkkdpggofanaa
open Go.RowKit

set_option maxRecDepth 4000 in
set_option maxHeartbeats 8000000 in
theorem arm_any (B : Nat) (w : World) {bm b i : Nat} {c : Cl} {G : Gm} (h : Rep B w bm G) (hB : B ≤ w.heap.size) (hi : G.cs[i]? = some (b, c)) (hc : G.cp = ptrV b) (e : Ev) (_he : e.wf) :
    Calls Try.prog 76 #[ptrV bm, evV e] w fun x w' => Ends B bm w (armM G.ma c e) x w' := by
  go_enter Try.func76, Try.ntmps76
  go_wp2
  generalize hW : w.alloc _ = W
  obtain ⟨hR, hE, hBW, hsz⟩ := h.boxed e hW
  clear hW h
  generalize hBE : w.heap.size = be at *
  have HR := hid hR
  have HE := hid hE
  have HBW := hid hBW
  have HC : Hid (Blk W b 126 (clC c)) := (HR.out.cl _ (List.mem_of_getElem? hi)).1
  clear hR hE hBW
  have hNow := hid HR.out.now
  cases hg : aget G.lv e.id with
  | none =>
    have hlp : liveP G e.id = .pointer none := by simp [liveP, hg]
    have HG := hid hg
    have m_live : W.cell? ⟨bm, 8, none⟩ = some (.map (some G.bl)) := HR.out.mach.cell 8 rfl
    have e_id : W.cell? ⟨be, 4, none⟩ = some (.int .u64 e.id) := HE.out.cell 4 rfl
    have hl := fun n => (HR.out.drewN n).look e.id
    rw [hlp] at hl
    clear hg hlp
    go_quiet (fail)
    clear m_live e_id hl
    generalize hW1 : W.drewN _ = W1
    replace HR := hid (show Rep B W1 bm G from hW1 ▸ HR.out.drewN _)
    replace HE := hid (show Blk W1 be 31 (evC e) from hW1 ▸ HE.out)
    replace HBW := hid (show Below be w W1 from hW1 ▸ below_drewN HBW.out _)
    replace HC := hid (show Blk W1 b 126 (clC c) from hW1 ▸ HC.out)
    clear hW1
    have HE0 := hid HE.out
    have HP := hid (show armM G.ma c e = none by unfold armM; rw [lv_none HG.out])
    by_cases hw : c.bg.what = 7
    · have HW := hid (show decide (c.bg.what ∈ [7]) = true by simp [hw])
      clear hw
      go_wp2_with (go_at_call 102; have HEp := hid HE.out; refine (what_any (c := c) [7] _ _ (Reads.built_at _ [.int .i64 7] 3 1 _ (by first | omega | simp)) (by simp) (hc ▸ (HR.out.alloc _).mach.cell 9 rfl) ((HC.out.alloc _).cell 3 rfl)).mono ?_; rintro x w' ⟨hx, rfl⟩; rw [HW.out] at hx; subst hx; generalize hW2 : World.alloc _ _ = W2; replace HR := hid (show Rep B W2 bm G from hW2 ▸ HR.out.alloc _); replace HE := hid (show Blk W2 be 31 (evC e) from hW2 ▸ HE.out.alloc _); replace HBW := hid (show Below be w W2 from hW2 ▸ (HBW.out.alloc (Nat.le_of_lt HEp.out.lt) _)); replace HC := hid (show Blk W2 b 126 (clC c) from hW2 ▸ HC.out.alloc _); clear hW2; clear HEp)
      go_ret
      exact Ends.no rfl (HBW.out.mono hB) HP.out
    · have HW := hid (show decide (c.bg.what ∈ [7]) = false by simp [hw])
      clear hw
      go_wp2_with (go_at_call 102; have HEp := hid HE.out; refine (what_any (c := c) [7] _ _ (Reads.built_at _ [.int .i64 7] 3 1 _ (by first | omega | simp)) (by simp) (hc ▸ (HR.out.alloc _).mach.cell 9 rfl) ((HC.out.alloc _).cell 3 rfl)).mono ?_; rintro x w' ⟨hx, rfl⟩; rw [HW.out] at hx; subst hx; generalize hW2 : World.alloc _ _ = W2; replace HR := hid (show Rep B W2 bm G from hW2 ▸ HR.out.alloc _); replace HE := hid (show Blk W2 be 31 (evC e) from hW2 ▸ HE.out.alloc _); replace HBW := hid (show Below be w W2 from hW2 ▸ (HBW.out.alloc (Nat.le_of_lt HEp.out.lt) _)); replace HC := hid (show Blk W2 b 126 (clC c) from hW2 ▸ HC.out.alloc _); clear hW2; clear HEp)
      go_ret
      exact Ends.no rfl (HBW.out.mono hB) HP.out
  | some p =>
    obtain ⟨bt, t⟩ := p
    have hlp : liveP G e.id = ptrV bt := by simp [liveP, hg]
    have HG := hid hg
    have m_live : W.cell? ⟨bm, 8, none⟩ = some (.map (some G.bl)) := HR.out.mach.cell 8 rfl
    have e_id : W.cell? ⟨be, 4, none⟩ = some (.int .u64 e.id) := HE.out.cell 4 rfl
    have hl := fun n => (HR.out.drewN n).look e.id
    rw [hlp] at hl
    clear hg hlp
    go_quiet (fail)
    clear m_live e_id hl
    generalize hW1 : W.drewN _ = W1
    replace HR := hid (show Rep B W1 bm G from hW1 ▸ HR.out.drewN _)
    replace HE := hid (show Blk W1 be 31 (evC e) from hW1 ▸ HE.out)
    replace HBW := hid (show Below be w W1 from hW1 ▸ below_drewN HBW.out _)
    replace HC := hid (show Blk W1 b 126 (clC c) from hW1 ▸ HC.out)
    clear hW1
    have HE0 := hid HE.out
    have HT : Hid (Blk W1 bt 151 (tmC t)) := (HR.out.tm _ ((aget_mem HR.out.live.nodup).1 HG.out)).1
    have he1 := hid (HR.out.tm _ ((aget_mem HR.out.live.nodup).1 HG.out)).2.2
    have hN := hid (lv_some HG.out)
    by_cases hw : c.bg.what = 7
    · have HW := hid (show decide (c.bg.what ∈ [7]) = true by simp [hw])
      have RAW := hid hw
      clear hw
      obtain ⟨mx, hmx⟩ : ∃ mx, Hid (max t.dl G.now = mx) := ⟨_, hid rfl⟩
      go_wp2_with (go_at_call 102; have HEp := hid HE.out; refine (what_any (c := c) [7] _ _ (Reads.built_at _ [.int .i64 7] 3 1 _ (by first | omega | simp)) (by simp) (hc ▸ (HR.out.alloc _).mach.cell 9 rfl) ((HC.out.alloc _).cell 3 rfl)).mono ?_; rintro x w' ⟨hx, rfl⟩; rw [HW.out] at hx; subst hx; generalize hW2 : World.alloc _ _ = W2; replace HR := hid (show Rep B W2 bm G from hW2 ▸ HR.out.alloc _); replace HE := hid (show Blk W2 be 31 (evC e) from hW2 ▸ HE.out.alloc _); replace HBW := hid (show Below be w W2 from hW2 ▸ (HBW.out.alloc (Nat.le_of_lt HEp.out.lt) _)); replace HC := hid (show Blk W2 b 126 (clC c) from hW2 ▸ HC.out.alloc _); clear hW2; clear HEp; replace HT : Hid (Blk W2 bt 151 (tmC t)) := (HR.out.tm _ ((aget_mem HR.out.live.nodup).1 HG.out)).1; have m_now : W2.cell? ⟨bm, 1, none⟩ = some (.int .u64 G.now) := HR.out.mach.cell 1 rfl; have t_g : W2.cell? ⟨bt, 0, none⟩ = some (.int .u64 t.gen) := HT.out.cell 0 rfl; have t_d : W2.cell? ⟨bt, 1, none⟩ = some (.int .u64 t.dl) := HT.out.cell 1 rfl; have hl : (if t.dl < G.now then G.now else t.dl) = mx := by rw [← hmx.out, Int.max_def]; split <;> split <;> omega)
      go_quiet (fail)
      clear hl m_now t_g t_d
      generalize hW1 : W2.drewN _ = W3
      replace HR := hid (show Rep B W3 bm G from hW1 ▸ HR.out.drewN _)
      replace HE := hid (show Blk W3 be 31 (evC e) from hW1 ▸ HE.out)
      replace HBW := hid (show Below be w W3 from hW1 ▸ below_drewN HBW.out _)
      replace HC := hid (show Blk W3 b 126 (clC c) from hW1 ▸ HC.out)
      clear hW1
      replace HT : Hid (Blk W3 bt 151 (tmC t)) := (HR.out.tm _ ((aget_mem HR.out.live.nodup).1 HG.out)).1
      have e_gen : W3.cell? ⟨be, 5, none⟩ = some (.int .u64 e.gen) := HE.out.cell 5 rfl
      have e_dl : W3.cell? ⟨be, 6, none⟩ = some (.int .u64 e.dl) := HE.out.cell 6 rfl
      have t_g : W3.cell? ⟨bt, 0, none⟩ = some (.int .u64 t.gen) := HT.out.cell 0 rfl
      have t_d : W3.cell? ⟨bt, 1, none⟩ = some (.int .u64 t.dl) := HT.out.cell 1 rfl
      have t_p : W3.cell? ⟨bt, 2, none⟩ = some (.int .u64 t.per) := HT.out.cell 2 rfl
      have t_a : W3.cell? ⟨bt, 4, none⟩ = some (.bool t.armed) := HT.out.cell 4 rfl
      have t_b : W3.cell? ⟨bt, 5, none⟩ = some (.bool t.btw) := HT.out.cell 5 rfl
      have hBw : B ≤ w.heap.size := Nat.le_trans hB (Nat.le_of_eq hBE.symm)
      cases hb : t.btw
      · rw [hb] at t_b
        cases ha : t.armed
        · by_cases hgn : e.gen = t.gen
          · have hgn' : (e.gen != t.gen) = false := by simp [hgn]
            by_cases hd : e.dl = mx
            · have hd' : (e.dl != mx) = false := by simp [hd]
              rw [ha] at t_a
              have f0 := HT.out.frozen 0
              have f1 := HT.out.frozen 1
              have f4 := HT.out.frozen 4
              have f5 := HT.out.frozen 5
              have HP := hid (show armM G.ma c e = some (setLive G.ma e.id { t with dl := mx, armed := true, btw := false }) by unfold armM; rw [hN.out]; simp [RAW.out, hb, ha, hgn, hd, hmx.out, Gm.ma])
              clear hgn hd
              go_wp2
              go_ret
              have hch := (((((Chg.refl (· = bt) W3).sets rfl 0 (.int .u64 (t.gen))).sets rfl 1 (.int .u64 (mx))).sets rfl 4 (.bool true)).sets rfl 5 (.bool false))
              exact Ends.yes (G' := { G with lv := aput G.lv e.id (bt, { t with dl := mx, armed := true, btw := false }) }) rfl (below_chg (HBW.out.mono hB) hBw hch (fun k hk => hk ▸ (HR.out.tm _ ((aget_mem HR.out.live.nodup).1 HG.out)).2.1)) (by rw [HP.out, setLive_ma]) (HR.out.tset HG.out hch (show Blk _ bt _ (tmC _) from ((((HT.out.set 0 (.int .u64 (t.gen))).set 1 (.int .u64 (mx))).set 4 (.bool true)).set 5 (.bool false))) ⟨he1.out.gen, hmx.out ▸ he1.out.dl.max hNow.out, he1.out.per⟩)
            · have hd' : (e.dl != mx) = true := by simp [hd]
              rw [ha] at t_a
              have HP := hid (show armM G.ma c e = none by unfold armM; rw [hN.out]; simp [RAW.out, hb, ha, hgn, hd, Gm.ma, hmx.out])
              clear hgn hd
              go_wp2
              go_ret
              exact Ends.no rfl (HBW.out.mono hB) HP.out
          · have hgn' : (e.gen != t.gen) = true := by simp [hgn]
            rw [ha] at t_a
            have HP := hid (show armM G.ma c e = none by unfold armM; rw [hN.out]; simp [RAW.out, hb, ha, hgn, Gm.ma, hmx.out])
            clear hgn
            go_wp2
            go_ret
            exact Ends.no rfl (HBW.out.mono hB) HP.out
        · rw [ha] at t_a
          have HP := hid (show armM G.ma c e = none by unfold armM; rw [hN.out]; simp [RAW.out, hb, ha, Gm.ma, hmx.out])
          go_wp2
          go_ret
          exact Ends.no rfl (HBW.out.mono hB) HP.out
      · rw [hb] at t_b
        by_cases hf1 : fitsB t.dl t.per = true
        · by_cases hf2 : fitsB t.gen 1 = true
          · by_cases hgn : e.gen = t.gen + 1
            · have hgn' : (e.gen != t.gen + 1) = false := by simp [hgn]
              by_cases hd : e.dl = t.dl + t.per
              · have hd' : (e.dl != t.dl + t.per) = false := by simp [hd]
                have HP := hid (show armM G.ma c e = some (setLive G.ma e.id { t with gen := t.gen + 1, dl := t.dl + t.per, armed := true, btw := false }) by unfold armM; rw [hN.out]; simp [RAW.out, hb, hf1, hf2, hgn, hd, Gm.ma])
                clear hgn hd
                go_wp2
                go_quiet ((go_at_call 42; exact quiet_of_eq (add_fits t.dl t.per _ he1.out.dl he1.out.per hf1)))
                clear t_g t_d t_p t_a t_b e_gen e_dl
                generalize hW1 : W3.drewN _ = W5
                replace HR := hid (show Rep B W5 bm G from hW1 ▸ HR.out.drewN _)
                replace HE := hid (show Blk W5 be 31 (evC e) from hW1 ▸ HE.out)
                replace HBW := hid (show Below be w W5 from hW1 ▸ below_drewN HBW.out _)
                replace HC := hid (show Blk W5 b 126 (clC c) from hW1 ▸ HC.out)
                clear hW1
                replace HT : Hid (Blk W5 bt 151 (tmC t)) := (HR.out.tm _ ((aget_mem HR.out.live.nodup).1 HG.out)).1
                have e_gen : W5.cell? ⟨be, 5, none⟩ = some (.int .u64 e.gen) := HE.out.cell 5 rfl
                have e_dl : W5.cell? ⟨be, 6, none⟩ = some (.int .u64 e.dl) := HE.out.cell 6 rfl
                have t_g : W5.cell? ⟨bt, 0, none⟩ = some (.int .u64 t.gen) := HT.out.cell 0 rfl
                have t_d : W5.cell? ⟨bt, 1, none⟩ = some (.int .u64 t.dl) := HT.out.cell 1 rfl
                have t_a : W5.cell? ⟨bt, 4, none⟩ = some (.bool t.armed) := HT.out.cell 4 rfl
                have t_b : W5.cell? ⟨bt, 5, none⟩ = some (.bool t.btw) := HT.out.cell 5 rfl
                rw [hb] at t_b
                have f0 := HT.out.frozen 0
                have f1 := HT.out.frozen 1
                have f4 := HT.out.frozen 4
                have f5 := HT.out.frozen 5
                go_wp2_with (go_at_call 42; refine (add_fits (t.gen) (1) _ he1.out.gen u64_one hf2).mono ?_; rintro x w' ⟨rfl, rfl⟩)
                go_ret
                have hch := (((((Chg.refl (· = bt) W5).sets rfl 0 (.int .u64 (t.gen + 1))).sets rfl 1 (.int .u64 (t.dl + t.per))).sets rfl 4 (.bool true)).sets rfl 5 (.bool false))
                exact Ends.yes (G' := { G with lv := aput G.lv e.id (bt, { t with gen := t.gen + 1, dl := t.dl + t.per, armed := true, btw := false }) }) rfl (below_chg (HBW.out.mono hB) hBw hch (fun k hk => hk ▸ (HR.out.tm _ ((aget_mem HR.out.live.nodup).1 HG.out)).2.1)) (by rw [HP.out, setLive_ma]) (HR.out.tset HG.out hch (show Blk _ bt _ (tmC _) from ((((HT.out.set 0 (.int .u64 (t.gen + 1))).set 1 (.int .u64 (t.dl + t.per))).set 4 (.bool true)).set 5 (.bool false))) ⟨he1.out.gen.add u64_one hf2, he1.out.dl.add he1.out.per hf1, he1.out.per⟩)
              · have hd' : (e.dl != t.dl + t.per) = true := by simp [hd]
                have HP := hid (show armM G.ma c e = none by unfold armM; rw [hN.out]; simp [RAW.out, hb, hf1, hf2, hgn, hd])
                clear hgn hd
                go_wp2
                go_quiet ((go_at_call 42; exact quiet_of_eq (add_fits t.dl t.per _ he1.out.dl he1.out.per hf1)))
                clear t_g t_d t_p t_a t_b e_gen e_dl
                generalize hW1 : W3.drewN _ = W5
                replace HR := hid (show Rep B W5 bm G from hW1 ▸ HR.out.drewN _)
                replace HE := hid (show Blk W5 be 31 (evC e) from hW1 ▸ HE.out)
                replace HBW := hid (show Below be w W5 from hW1 ▸ below_drewN HBW.out _)
                replace HC := hid (show Blk W5 b 126 (clC c) from hW1 ▸ HC.out)
                clear hW1
                replace HT : Hid (Blk W5 bt 151 (tmC t)) := (HR.out.tm _ ((aget_mem HR.out.live.nodup).1 HG.out)).1
                have e_gen : W5.cell? ⟨be, 5, none⟩ = some (.int .u64 e.gen) := HE.out.cell 5 rfl
                have e_dl : W5.cell? ⟨be, 6, none⟩ = some (.int .u64 e.dl) := HE.out.cell 6 rfl
                have t_g : W5.cell? ⟨bt, 0, none⟩ = some (.int .u64 t.gen) := HT.out.cell 0 rfl
                have t_d : W5.cell? ⟨bt, 1, none⟩ = some (.int .u64 t.dl) := HT.out.cell 1 rfl
                have t_a : W5.cell? ⟨bt, 4, none⟩ = some (.bool t.armed) := HT.out.cell 4 rfl
                have t_b : W5.cell? ⟨bt, 5, none⟩ = some (.bool t.btw) := HT.out.cell 5 rfl
                rw [hb] at t_b
                go_wp2_with (go_at_call 42; refine (add_fits (t.gen) (1) _ he1.out.gen u64_one hf2).mono ?_; rintro x w' ⟨rfl, rfl⟩)
                go_ret
                exact Ends.no rfl (HBW.out.mono hB) HP.out
            · have hgn' : (e.gen != t.gen + 1) = true := by simp [hgn]
              have HP := hid (show armM G.ma c e = none by unfold armM; rw [hN.out]; simp [RAW.out, hb, hf1, hf2, hgn])
              clear hgn
              go_wp2
              go_quiet ((go_at_call 42; exact quiet_of_eq (add_fits t.dl t.per _ he1.out.dl he1.out.per hf1)))
              clear t_g t_d t_p t_a t_b e_gen e_dl
              generalize hW1 : W3.drewN _ = W5
              replace HR := hid (show Rep B W5 bm G from hW1 ▸ HR.out.drewN _)
              replace HE := hid (show Blk W5 be 31 (evC e) from hW1 ▸ HE.out)
              replace HBW := hid (show Below be w W5 from hW1 ▸ below_drewN HBW.out _)
              replace HC := hid (show Blk W5 b 126 (clC c) from hW1 ▸ HC.out)
              clear hW1
              replace HT : Hid (Blk W5 bt 151 (tmC t)) := (HR.out.tm _ ((aget_mem HR.out.live.nodup).1 HG.out)).1
              have e_gen : W5.cell? ⟨be, 5, none⟩ = some (.int .u64 e.gen) := HE.out.cell 5 rfl
              have e_dl : W5.cell? ⟨be, 6, none⟩ = some (.int .u64 e.dl) := HE.out.cell 6 rfl
              have t_g : W5.cell? ⟨bt, 0, none⟩ = some (.int .u64 t.gen) := HT.out.cell 0 rfl
              have t_d : W5.cell? ⟨bt, 1, none⟩ = some (.int .u64 t.dl) := HT.out.cell 1 rfl
              have t_a : W5.cell? ⟨bt, 4, none⟩ = some (.bool t.armed) := HT.out.cell 4 rfl
              have t_b : W5.cell? ⟨bt, 5, none⟩ = some (.bool t.btw) := HT.out.cell 5 rfl
              rw [hb] at t_b
              go_wp2_with (go_at_call 42; refine (add_fits (t.gen) (1) _ he1.out.gen u64_one hf2).mono ?_; rintro x w' ⟨rfl, rfl⟩)
              go_ret
              exact Ends.no rfl (HBW.out.mono hB) HP.out
          · replace hf2 : fitsB t.gen 1 = false := by simpa using hf2
            have HP := hid (show armM G.ma c e = none by unfold armM; rw [hN.out]; simp [RAW.out, hb, hf2])
            go_wp2
            go_quiet ((go_at_call 42; exact quiet_of_eq (add_fits t.dl t.per _ he1.out.dl he1.out.per hf1)))
            clear t_g t_d t_p t_a t_b e_gen e_dl
            generalize hW1 : W3.drewN _ = W5
            replace HR := hid (show Rep B W5 bm G from hW1 ▸ HR.out.drewN _)
            replace HE := hid (show Blk W5 be 31 (evC e) from hW1 ▸ HE.out)
            replace HBW := hid (show Below be w W5 from hW1 ▸ below_drewN HBW.out _)
            replace HC := hid (show Blk W5 b 126 (clC c) from hW1 ▸ HC.out)
            clear hW1
            replace HT : Hid (Blk W5 bt 151 (tmC t)) := (HR.out.tm _ ((aget_mem HR.out.live.nodup).1 HG.out)).1
            have e_gen : W5.cell? ⟨be, 5, none⟩ = some (.int .u64 e.gen) := HE.out.cell 5 rfl
            have e_dl : W5.cell? ⟨be, 6, none⟩ = some (.int .u64 e.dl) := HE.out.cell 6 rfl
            have t_g : W5.cell? ⟨bt, 0, none⟩ = some (.int .u64 t.gen) := HT.out.cell 0 rfl
            have t_d : W5.cell? ⟨bt, 1, none⟩ = some (.int .u64 t.dl) := HT.out.cell 1 rfl
            have t_a : W5.cell? ⟨bt, 4, none⟩ = some (.bool t.armed) := HT.out.cell 4 rfl
            have t_b : W5.cell? ⟨bt, 5, none⟩ = some (.bool t.btw) := HT.out.cell 5 rfl
            rw [hb] at t_b
            go_wp2_with (go_at_call 42; refine (add_not (t.gen) (1) _ he1.out.gen u64_one hf2).mono ?_; rintro x w' ⟨rfl, rfl⟩)
            go_ret
            exact Ends.no rfl (HBW.out.mono hB) HP.out
        · replace hf1 : fitsB t.dl t.per = false := by simpa using hf1
          by_cases hf2 : fitsB t.gen 1 = true
          · have HP := hid (show armM G.ma c e = none by unfold armM; rw [hN.out]; simp [RAW.out, hb, hf1])
            go_wp2
            go_quiet ((go_at_call 42; exact quiet_of_eq (add_not t.dl t.per _ he1.out.dl he1.out.per hf1)))
            clear t_g t_d t_p t_a t_b e_gen e_dl
            generalize hW1 : W3.drewN _ = W5
            replace HR := hid (show Rep B W5 bm G from hW1 ▸ HR.out.drewN _)
            replace HE := hid (show Blk W5 be 31 (evC e) from hW1 ▸ HE.out)
            replace HBW := hid (show Below be w W5 from hW1 ▸ below_drewN HBW.out _)
            replace HC := hid (show Blk W5 b 126 (clC c) from hW1 ▸ HC.out)
            clear hW1
            replace HT : Hid (Blk W5 bt 151 (tmC t)) := (HR.out.tm _ ((aget_mem HR.out.live.nodup).1 HG.out)).1
            have e_gen : W5.cell? ⟨be, 5, none⟩ = some (.int .u64 e.gen) := HE.out.cell 5 rfl
            have e_dl : W5.cell? ⟨be, 6, none⟩ = some (.int .u64 e.dl) := HE.out.cell 6 rfl
            have t_g : W5.cell? ⟨bt, 0, none⟩ = some (.int .u64 t.gen) := HT.out.cell 0 rfl
            have t_d : W5.cell? ⟨bt, 1, none⟩ = some (.int .u64 t.dl) := HT.out.cell 1 rfl
            have t_a : W5.cell? ⟨bt, 4, none⟩ = some (.bool t.armed) := HT.out.cell 4 rfl
            have t_b : W5.cell? ⟨bt, 5, none⟩ = some (.bool t.btw) := HT.out.cell 5 rfl
            rw [hb] at t_b
            go_wp2_with (go_at_call 42; refine (add_fits (t.gen) (1) _ he1.out.gen u64_one hf2).mono ?_; rintro x w' ⟨rfl, rfl⟩)
            go_ret
            exact Ends.no rfl (HBW.out.mono hB) HP.out
          · replace hf2 : fitsB t.gen 1 = false := by simpa using hf2
            have HP := hid (show armM G.ma c e = none by unfold armM; rw [hN.out]; simp [RAW.out, hb, hf1])
            go_wp2
            go_quiet ((go_at_call 42; exact quiet_of_eq (add_not t.dl t.per _ he1.out.dl he1.out.per hf1)))
            clear t_g t_d t_p t_a t_b e_gen e_dl
            generalize hW1 : W3.drewN _ = W5
            replace HR := hid (show Rep B W5 bm G from hW1 ▸ HR.out.drewN _)
            replace HE := hid (show Blk W5 be 31 (evC e) from hW1 ▸ HE.out)
            replace HBW := hid (show Below be w W5 from hW1 ▸ below_drewN HBW.out _)
            replace HC := hid (show Blk W5 b 126 (clC c) from hW1 ▸ HC.out)
            clear hW1
            replace HT : Hid (Blk W5 bt 151 (tmC t)) := (HR.out.tm _ ((aget_mem HR.out.live.nodup).1 HG.out)).1
            have e_gen : W5.cell? ⟨be, 5, none⟩ = some (.int .u64 e.gen) := HE.out.cell 5 rfl
            have e_dl : W5.cell? ⟨be, 6, none⟩ = some (.int .u64 e.dl) := HE.out.cell 6 rfl
            have t_g : W5.cell? ⟨bt, 0, none⟩ = some (.int .u64 t.gen) := HT.out.cell 0 rfl
            have t_d : W5.cell? ⟨bt, 1, none⟩ = some (.int .u64 t.dl) := HT.out.cell 1 rfl
            have t_a : W5.cell? ⟨bt, 4, none⟩ = some (.bool t.armed) := HT.out.cell 4 rfl
            have t_b : W5.cell? ⟨bt, 5, none⟩ = some (.bool t.btw) := HT.out.cell 5 rfl
            rw [hb] at t_b
            go_wp2_with (go_at_call 42; refine (add_not (t.gen) (1) _ he1.out.gen u64_one hf2).mono ?_; rintro x w' ⟨rfl, rfl⟩)
            go_ret
            exact Ends.no rfl (HBW.out.mono hB) HP.out
    · have HW := hid (show decide (c.bg.what ∈ [7]) = false by simp [hw])
      have HP := hid (show armM G.ma c e = none by unfold armM; rw [hN.out]; simp [hw])
      clear hw
      go_wp2_with (go_at_call 102; have HEp := hid HE.out; refine (what_any (c := c) [7] _ _ (Reads.built_at _ [.int .i64 7] 3 1 _ (by first | omega | simp)) (by simp) (hc ▸ (HR.out.alloc _).mach.cell 9 rfl) ((HC.out.alloc _).cell 3 rfl)).mono ?_; rintro x w' ⟨hx, rfl⟩; rw [HW.out] at hx; subst hx; generalize hW2 : World.alloc _ _ = W2; replace HR := hid (show Rep B W2 bm G from hW2 ▸ HR.out.alloc _); replace HE := hid (show Blk W2 be 31 (evC e) from hW2 ▸ HE.out.alloc _); replace HBW := hid (show Below be w W2 from hW2 ▸ (HBW.out.alloc (Nat.le_of_lt HEp.out.lt) _)); replace HC := hid (show Blk W2 b 126 (clC c) from hW2 ▸ HC.out.alloc _); clear hW2; clear HEp)
      go_ret
      exact Ends.no rfl (HBW.out.mono hB) HP.out
end Go.Proofs.Ytpnkkdpggofanaa
