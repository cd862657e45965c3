/- spec's rules by their walks: each does what the plain machine does. spec's rules by their walks: each does what the plain machine does. spec's rules by their walks: each does what the plain machine does. spec's rules by their walks: each does what the plain machine does. -/
import Derived.Test.YtpnkkdpggofanaaSpecC
import Derived.Test.YtpnkkdpggofanaaSpecB
import Derived.Test.YtpnkkdpggofanaaOrder
namespace Go.Proofs.Ytpnkkdpggofanaa
open Go.RowKit

set_option maxRecDepth 4000 in
set_option maxHeartbeats 8000000 in
theorem refuse_any (B : Nat) (w : World) {bm b i : Nat} {c : Cl} {G : Gm} (h : Rep B w bm G) (hB : B ≤ w.heap.size) (hi : G.cs[i]? = some (b, c)) (hc : G.cp = ptrV b) (e : Ev) (_he : e.wf) :
    Calls Try.prog 85 #[ptrV bm, evV e] w fun x w' => Ends B bm w (refuseM G.ma i c e) x w' := by
  have m_c0 : ∀ o, (w.alloc o).cell? ⟨bm, 9, none⟩ = some (ptrV b) := fun o => hc ▸ (h.alloc o).mach.cell 9 rfl
  have c_id0 : ∀ o, (w.alloc o).cell? ⟨b, 4, none⟩ = some (.int .u64 c.bg.id) := fun o => ((h.alloc o).cl _ (List.mem_of_getElem? hi)).1.cell 4 rfl
  have m_cl0 : ∀ o, (w.alloc o).cell? ⟨bm, 2, none⟩ = some (.bool G.closed) := fun o => (h.alloc o).mach.cell 2 rfl
  have hN := hid h.now
  go_enter Try.func85, Try.ntmps85
  have HH := hid h
  clear h
  by_cases n1 : e.err = 1
  · have h1 := n1
    have b1 : (e.err == 1) = true := by simp [n1]
    clear n1
    by_cases hw : c.bg.what = 2
    · have HW := hid (show decide (c.bg.what ∈ [2]) = true by simp [hw])
      cases hp : perOk c
      · have HPer := hid hp
        have HP := hid (show refuseM G.ma i c e = some (fin G.ma i 0 0 e.err) by unfold refuseM refB; simp [h1, hw, hp])
        clear hw h1
        go_wp2_with (first | (go_at_call 102; clear m_c0 c_id0 m_cl0; generalize hW : World.alloc w _ = W; obtain ⟨hR, hE, hBW, hsz⟩ := HH.out.boxed e hW; clear hW HH; generalize hBE : w.heap.size = be at *; have HR := hid hR; have HE := hid hE; have HBW := hid hBW; have HC : Hid (Blk W b 126 (clC c)) := (HR.out.cl _ (List.mem_of_getElem? hi)).1; clear hR hE hBW; have HE0 := hid HE.out; have HEp := hid HE.out; refine (what_any (c := c) [2] _ _ (Reads.built_at _ [.int .i64 2] 3 1 _ (by first | omega | simp)) (by simp) (hc ▸ (HR.out.alloc _).mach.cell 9 rfl) ((HC.out.alloc _).cell 3 rfl)).mono ?_; rintro x w' ⟨hx, rfl⟩; rw [HW.out] at hx; subst hx; generalize hW2 : World.alloc _ _ = W2; replace HR := hid (show Rep B W2 bm G from hW2 ▸ HR.out.alloc _); replace HE := hid (show Blk W2 be 31 (evC e) from hW2 ▸ HE.out.alloc _); replace HBW := hid (show Below be w W2 from hW2 ▸ (HBW.out.alloc (Nat.le_of_lt HEp.out.lt) _)); replace HC := hid (show Blk W2 b 126 (clC c) from hW2 ▸ HC.out.alloc _); clear hW2; clear HEp; have m_c : W2.cell? ⟨bm, 9, none⟩ = some (ptrV b) := hc ▸ HR.out.mach.cell 9 rfl; have e_err : W2.cell? ⟨be, 9, none⟩ = some (.int .i64 e.err) := HE.out.cell 9 rfl; have c_dl : W2.cell? ⟨b, 6, none⟩ = some (.int .u64 c.bg.dl) := HC.out.cell 6 rfl; have c_per : W2.cell? ⟨b, 7, none⟩ = some (.int .u64 c.bg.per) := HC.out.cell 7 rfl) | (go_at_call 104; refine (period_any (c := c) _ (HR.out.cl _ (List.mem_of_getElem? hi)).2.2.bg (hc ▸ HR.out.mach.cell 9 rfl) (HC.out.cell 6 rfl) (HC.out.cell 7 rfl)).mono ?_; rintro x w' ⟨hx, n, rfl⟩; rw [HPer.out] at hx; subst hx; generalize hW2 : World.drewN _ _ = W2; replace HR := hid (show Rep B W2 bm G from hW2 ▸ HR.out.drewN _); replace HE := hid (show Blk W2 be 31 (evC e) from hW2 ▸ HE.out); replace HBW := hid (show Below be w W2 from hW2 ▸ below_drewN HBW.out _); replace HC := hid (show Blk W2 b 126 (clC c) from hW2 ▸ HC.out); clear hW2; have m_c : W2.cell? ⟨bm, 9, none⟩ = some (ptrV b) := hc ▸ HR.out.mach.cell 9 rfl; have e_err : W2.cell? ⟨be, 9, none⟩ = some (.int .i64 e.err) := HE.out.cell 9 rfl; have c_dl : W2.cell? ⟨b, 6, none⟩ = some (.int .u64 c.bg.dl) := HC.out.cell 6 rfl; have c_per : W2.cell? ⟨b, 7, none⟩ = some (.int .u64 c.bg.per) := HC.out.cell 7 rfl) | (go_at_call 105; have HB := hid (HBW.out.mono hB); have hBw : B ≤ w.heap.size := Nat.le_trans hB (Nat.le_of_eq hBE.symm); refine (finish_any B _ (G := G) HR.out hi hc (0) (0) (e.err)).mono ?_; rintro x w5 ⟨rfl, hr5, hc5⟩; have HR5 := hid hr5; have HB5 := hid (HB.out.trans (hc5.below (Nat.le_trans hBw HB.out.size) (fun k hk => hk ▸ (HR.out.cl _ (List.mem_of_getElem? hi)).2.1))); clear hr5 hc5))
        go_ret
        exact Ends.yes rfl HB5.out (by rw [HP.out, ← fin_ma (G := G) hi]) HR5.out
      · have HPer := hid hp
        have HW2 := hid (show decide (c.bg.what ∈ [3, 4, 5]) = false by simp [hw])
        have HP := hid (show refuseM G.ma i c e = none by unfold refuseM refB; simp [h1, hw, hp])
        clear hw h1
        go_wp2_with (first | (go_at_call 102; clear m_c0 c_id0 m_cl0; generalize hW : World.alloc w _ = W; obtain ⟨hR, hE, hBW, hsz⟩ := HH.out.boxed e hW; clear hW HH; generalize hBE : w.heap.size = be at *; have HR := hid hR; have HE := hid hE; have HBW := hid hBW; have HC : Hid (Blk W b 126 (clC c)) := (HR.out.cl _ (List.mem_of_getElem? hi)).1; clear hR hE hBW; have HE0 := hid HE.out; have HEp := hid HE.out; refine (what_any (c := c) [2] _ _ (Reads.built_at _ [.int .i64 2] 3 1 _ (by first | omega | simp)) (by simp) (hc ▸ (HR.out.alloc _).mach.cell 9 rfl) ((HC.out.alloc _).cell 3 rfl)).mono ?_; rintro x w' ⟨hx, rfl⟩; rw [HW.out] at hx; subst hx; generalize hW2 : World.alloc _ _ = W2; replace HR := hid (show Rep B W2 bm G from hW2 ▸ HR.out.alloc _); replace HE := hid (show Blk W2 be 31 (evC e) from hW2 ▸ HE.out.alloc _); replace HBW := hid (show Below be w W2 from hW2 ▸ (HBW.out.alloc (Nat.le_of_lt HEp.out.lt) _)); replace HC := hid (show Blk W2 b 126 (clC c) from hW2 ▸ HC.out.alloc _); clear hW2; clear HEp; have m_c : W2.cell? ⟨bm, 9, none⟩ = some (ptrV b) := hc ▸ HR.out.mach.cell 9 rfl; have e_err : W2.cell? ⟨be, 9, none⟩ = some (.int .i64 e.err) := HE.out.cell 9 rfl; have c_dl : W2.cell? ⟨b, 6, none⟩ = some (.int .u64 c.bg.dl) := HC.out.cell 6 rfl; have c_per : W2.cell? ⟨b, 7, none⟩ = some (.int .u64 c.bg.per) := HC.out.cell 7 rfl) | (go_at_call 104; refine (period_any (c := c) _ (HR.out.cl _ (List.mem_of_getElem? hi)).2.2.bg (hc ▸ HR.out.mach.cell 9 rfl) (HC.out.cell 6 rfl) (HC.out.cell 7 rfl)).mono ?_; rintro x w' ⟨hx, n, rfl⟩; rw [HPer.out] at hx; subst hx; generalize hW2 : World.drewN _ _ = W2; replace HR := hid (show Rep B W2 bm G from hW2 ▸ HR.out.drewN _); replace HE := hid (show Blk W2 be 31 (evC e) from hW2 ▸ HE.out); replace HBW := hid (show Below be w W2 from hW2 ▸ below_drewN HBW.out _); replace HC := hid (show Blk W2 b 126 (clC c) from hW2 ▸ HC.out); clear hW2; have m_c : W2.cell? ⟨bm, 9, none⟩ = some (ptrV b) := hc ▸ HR.out.mach.cell 9 rfl; have e_err : W2.cell? ⟨be, 9, none⟩ = some (.int .i64 e.err) := HE.out.cell 9 rfl; have c_dl : W2.cell? ⟨b, 6, none⟩ = some (.int .u64 c.bg.dl) := HC.out.cell 6 rfl; have c_per : W2.cell? ⟨b, 7, none⟩ = some (.int .u64 c.bg.per) := HC.out.cell 7 rfl) | (go_at_call 102; have HEp := hid HE.out; refine (what_any (c := c) [3, 4, 5] _ _ (Reads.built_at _ [.int .i64 3, .int .i64 4, .int .i64 5] 3 3 _ (by first | omega | simp)) (by simp) (hc ▸ (HR.out.alloc _).mach.cell 9 rfl) ((HC.out.alloc _).cell 3 rfl)).mono ?_; rintro x w' ⟨hx, rfl⟩; rw [HW2.out] at hx; subst hx; generalize hW2 : World.alloc _ _ = W2; replace HR := hid (show Rep B W2 bm G from hW2 ▸ HR.out.alloc _); replace HE := hid (show Blk W2 be 31 (evC e) from hW2 ▸ HE.out.alloc _); replace HBW := hid (show Below be w W2 from hW2 ▸ (HBW.out.alloc (Nat.le_of_lt HEp.out.lt) _)); replace HC := hid (show Blk W2 b 126 (clC c) from hW2 ▸ HC.out.alloc _); clear hW2; clear HEp; have m_c : W2.cell? ⟨bm, 9, none⟩ = some (ptrV b) := hc ▸ HR.out.mach.cell 9 rfl; have m_added : W2.cell? ⟨bm, 7, none⟩ = some (.map (some G.ba)) := HR.out.mach.cell 7 rfl; have e_err : W2.cell? ⟨be, 9, none⟩ = some (.int .i64 e.err) := HE.out.cell 9 rfl; have c_id : W2.cell? ⟨b, 4, none⟩ = some (.int .u64 c.bg.id) := HC.out.cell 4 rfl))
        go_ret
        exact Ends.no rfl (HBW.out.mono hB) HP.out
    · have HW := hid (show decide (c.bg.what ∈ [2]) = false by simp [hw])
      by_cases hw3 : c.bg.what = 3 ∨ c.bg.what = 4 ∨ c.bg.what = 5
      · have HW2 := hid (show decide (c.bg.what ∈ [3, 4, 5]) = true by simp [hw3])
        cases ha : hasK G.added c.bg.id
        · have HP := hid (show refuseM G.ma i c e = some (fin G.ma i 0 0 e.err) by unfold refuseM refB; rcases hw3 with h | h | h <;> simp [h1, h, ha, ma_added])
          clear hw hw3 h1
          go_wp2_with (first | (go_at_call 102; clear m_c0 c_id0 m_cl0; generalize hW : World.alloc w _ = W; obtain ⟨hR, hE, hBW, hsz⟩ := HH.out.boxed e hW; clear hW HH; generalize hBE : w.heap.size = be at *; have HR := hid hR; have HE := hid hE; have HBW := hid hBW; have HC : Hid (Blk W b 126 (clC c)) := (HR.out.cl _ (List.mem_of_getElem? hi)).1; clear hR hE hBW; have HE0 := hid HE.out; have HEp := hid HE.out; refine (what_any (c := c) [2] _ _ (Reads.built_at _ [.int .i64 2] 3 1 _ (by first | omega | simp)) (by simp) (hc ▸ (HR.out.alloc _).mach.cell 9 rfl) ((HC.out.alloc _).cell 3 rfl)).mono ?_; rintro x w' ⟨hx, rfl⟩; rw [HW.out] at hx; subst hx; generalize hW2 : World.alloc _ _ = W2; replace HR := hid (show Rep B W2 bm G from hW2 ▸ HR.out.alloc _); replace HE := hid (show Blk W2 be 31 (evC e) from hW2 ▸ HE.out.alloc _); replace HBW := hid (show Below be w W2 from hW2 ▸ (HBW.out.alloc (Nat.le_of_lt HEp.out.lt) _)); replace HC := hid (show Blk W2 b 126 (clC c) from hW2 ▸ HC.out.alloc _); clear hW2; clear HEp; have m_c : W2.cell? ⟨bm, 9, none⟩ = some (ptrV b) := hc ▸ HR.out.mach.cell 9 rfl; have e_err : W2.cell? ⟨be, 9, none⟩ = some (.int .i64 e.err) := HE.out.cell 9 rfl; have c_dl : W2.cell? ⟨b, 6, none⟩ = some (.int .u64 c.bg.dl) := HC.out.cell 6 rfl; have c_per : W2.cell? ⟨b, 7, none⟩ = some (.int .u64 c.bg.per) := HC.out.cell 7 rfl) | (go_at_call 102; have HEp := hid HE.out; refine (what_any (c := c) [3, 4, 5] _ _ (Reads.built_at _ [.int .i64 3, .int .i64 4, .int .i64 5] 3 3 _ (by first | omega | simp)) (by simp) (hc ▸ (HR.out.alloc _).mach.cell 9 rfl) ((HC.out.alloc _).cell 3 rfl)).mono ?_; rintro x w' ⟨hx, rfl⟩; rw [HW2.out] at hx; subst hx; generalize hW2 : World.alloc _ _ = W2; replace HR := hid (show Rep B W2 bm G from hW2 ▸ HR.out.alloc _); replace HE := hid (show Blk W2 be 31 (evC e) from hW2 ▸ HE.out.alloc _); replace HBW := hid (show Below be w W2 from hW2 ▸ (HBW.out.alloc (Nat.le_of_lt HEp.out.lt) _)); replace HC := hid (show Blk W2 b 126 (clC c) from hW2 ▸ HC.out.alloc _); clear hW2; clear HEp; have m_c : W2.cell? ⟨bm, 9, none⟩ = some (ptrV b) := hc ▸ HR.out.mach.cell 9 rfl; have m_added : W2.cell? ⟨bm, 7, none⟩ = some (.map (some G.ba)) := HR.out.mach.cell 7 rfl; have e_err : W2.cell? ⟨be, 9, none⟩ = some (.int .i64 e.err) := HE.out.cell 9 rfl; have c_id : W2.cell? ⟨b, 4, none⟩ = some (.int .u64 c.bg.id) := HC.out.cell 4 rfl; have hl := HR.out.lookA c.bg.id; rw [ha] at hl) | (go_at_call 105; have HB := hid (HBW.out.mono hB); have hBw : B ≤ w.heap.size := Nat.le_trans hB (Nat.le_of_eq hBE.symm); refine (finish_any B _ (G := G) HR.out hi hc (0) (0) (e.err)).mono ?_; rintro x w5 ⟨rfl, hr5, hc5⟩; have HR5 := hid hr5; have HB5 := hid (HB.out.trans (hc5.below (Nat.le_trans hBw HB.out.size) (fun k hk => hk ▸ (HR.out.cl _ (List.mem_of_getElem? hi)).2.1))); clear hr5 hc5))
          go_ret
          exact Ends.yes rfl HB5.out (by rw [HP.out, ← fin_ma (G := G) hi]) HR5.out
        · have HP := hid (show refuseM G.ma i c e = none by unfold refuseM refB; rcases hw3 with h | h | h <;> simp [h1, h, ha, ma_added])
          clear hw hw3 h1
          go_wp2_with (first | (go_at_call 102; clear m_c0 c_id0 m_cl0; generalize hW : World.alloc w _ = W; obtain ⟨hR, hE, hBW, hsz⟩ := HH.out.boxed e hW; clear hW HH; generalize hBE : w.heap.size = be at *; have HR := hid hR; have HE := hid hE; have HBW := hid hBW; have HC : Hid (Blk W b 126 (clC c)) := (HR.out.cl _ (List.mem_of_getElem? hi)).1; clear hR hE hBW; have HE0 := hid HE.out; have HEp := hid HE.out; refine (what_any (c := c) [2] _ _ (Reads.built_at _ [.int .i64 2] 3 1 _ (by first | omega | simp)) (by simp) (hc ▸ (HR.out.alloc _).mach.cell 9 rfl) ((HC.out.alloc _).cell 3 rfl)).mono ?_; rintro x w' ⟨hx, rfl⟩; rw [HW.out] at hx; subst hx; generalize hW2 : World.alloc _ _ = W2; replace HR := hid (show Rep B W2 bm G from hW2 ▸ HR.out.alloc _); replace HE := hid (show Blk W2 be 31 (evC e) from hW2 ▸ HE.out.alloc _); replace HBW := hid (show Below be w W2 from hW2 ▸ (HBW.out.alloc (Nat.le_of_lt HEp.out.lt) _)); replace HC := hid (show Blk W2 b 126 (clC c) from hW2 ▸ HC.out.alloc _); clear hW2; clear HEp; have m_c : W2.cell? ⟨bm, 9, none⟩ = some (ptrV b) := hc ▸ HR.out.mach.cell 9 rfl; have e_err : W2.cell? ⟨be, 9, none⟩ = some (.int .i64 e.err) := HE.out.cell 9 rfl; have c_dl : W2.cell? ⟨b, 6, none⟩ = some (.int .u64 c.bg.dl) := HC.out.cell 6 rfl; have c_per : W2.cell? ⟨b, 7, none⟩ = some (.int .u64 c.bg.per) := HC.out.cell 7 rfl) | (go_at_call 102; have HEp := hid HE.out; refine (what_any (c := c) [3, 4, 5] _ _ (Reads.built_at _ [.int .i64 3, .int .i64 4, .int .i64 5] 3 3 _ (by first | omega | simp)) (by simp) (hc ▸ (HR.out.alloc _).mach.cell 9 rfl) ((HC.out.alloc _).cell 3 rfl)).mono ?_; rintro x w' ⟨hx, rfl⟩; rw [HW2.out] at hx; subst hx; generalize hW2 : World.alloc _ _ = W2; replace HR := hid (show Rep B W2 bm G from hW2 ▸ HR.out.alloc _); replace HE := hid (show Blk W2 be 31 (evC e) from hW2 ▸ HE.out.alloc _); replace HBW := hid (show Below be w W2 from hW2 ▸ (HBW.out.alloc (Nat.le_of_lt HEp.out.lt) _)); replace HC := hid (show Blk W2 b 126 (clC c) from hW2 ▸ HC.out.alloc _); clear hW2; clear HEp; have m_c : W2.cell? ⟨bm, 9, none⟩ = some (ptrV b) := hc ▸ HR.out.mach.cell 9 rfl; have m_added : W2.cell? ⟨bm, 7, none⟩ = some (.map (some G.ba)) := HR.out.mach.cell 7 rfl; have e_err : W2.cell? ⟨be, 9, none⟩ = some (.int .i64 e.err) := HE.out.cell 9 rfl; have c_id : W2.cell? ⟨b, 4, none⟩ = some (.int .u64 c.bg.id) := HC.out.cell 4 rfl; have hl := HR.out.lookA c.bg.id; rw [ha] at hl))
          go_ret
          exact Ends.no rfl (HBW.out.mono hB) HP.out
      · have HW2 := hid (show decide (c.bg.what ∈ [3, 4, 5]) = false by simp at hw3 ⊢; exact hw3)
        have HP := hid (show refuseM G.ma i c e = none by unfold refuseM refB; simp only [not_or] at hw3; have hw3' := hw3; simp [h1, hw, hw3'.1, hw3'.2.1, hw3'.2.2])
        clear hw hw3 h1
        go_wp2_with (first | (go_at_call 102; clear m_c0 c_id0 m_cl0; generalize hW : World.alloc w _ = W; obtain ⟨hR, hE, hBW, hsz⟩ := HH.out.boxed e hW; clear hW HH; generalize hBE : w.heap.size = be at *; have HR := hid hR; have HE := hid hE; have HBW := hid hBW; have HC : Hid (Blk W b 126 (clC c)) := (HR.out.cl _ (List.mem_of_getElem? hi)).1; clear hR hE hBW; have HE0 := hid HE.out; have HEp := hid HE.out; refine (what_any (c := c) [2] _ _ (Reads.built_at _ [.int .i64 2] 3 1 _ (by first | omega | simp)) (by simp) (hc ▸ (HR.out.alloc _).mach.cell 9 rfl) ((HC.out.alloc _).cell 3 rfl)).mono ?_; rintro x w' ⟨hx, rfl⟩; rw [HW.out] at hx; subst hx; generalize hW2 : World.alloc _ _ = W2; replace HR := hid (show Rep B W2 bm G from hW2 ▸ HR.out.alloc _); replace HE := hid (show Blk W2 be 31 (evC e) from hW2 ▸ HE.out.alloc _); replace HBW := hid (show Below be w W2 from hW2 ▸ (HBW.out.alloc (Nat.le_of_lt HEp.out.lt) _)); replace HC := hid (show Blk W2 b 126 (clC c) from hW2 ▸ HC.out.alloc _); clear hW2; clear HEp; have m_c : W2.cell? ⟨bm, 9, none⟩ = some (ptrV b) := hc ▸ HR.out.mach.cell 9 rfl; have e_err : W2.cell? ⟨be, 9, none⟩ = some (.int .i64 e.err) := HE.out.cell 9 rfl; have c_dl : W2.cell? ⟨b, 6, none⟩ = some (.int .u64 c.bg.dl) := HC.out.cell 6 rfl; have c_per : W2.cell? ⟨b, 7, none⟩ = some (.int .u64 c.bg.per) := HC.out.cell 7 rfl) | (go_at_call 102; have HEp := hid HE.out; refine (what_any (c := c) [3, 4, 5] _ _ (Reads.built_at _ [.int .i64 3, .int .i64 4, .int .i64 5] 3 3 _ (by first | omega | simp)) (by simp) (hc ▸ (HR.out.alloc _).mach.cell 9 rfl) ((HC.out.alloc _).cell 3 rfl)).mono ?_; rintro x w' ⟨hx, rfl⟩; rw [HW2.out] at hx; subst hx; generalize hW2 : World.alloc _ _ = W2; replace HR := hid (show Rep B W2 bm G from hW2 ▸ HR.out.alloc _); replace HE := hid (show Blk W2 be 31 (evC e) from hW2 ▸ HE.out.alloc _); replace HBW := hid (show Below be w W2 from hW2 ▸ (HBW.out.alloc (Nat.le_of_lt HEp.out.lt) _)); replace HC := hid (show Blk W2 b 126 (clC c) from hW2 ▸ HC.out.alloc _); clear hW2; clear HEp; have m_c : W2.cell? ⟨bm, 9, none⟩ = some (ptrV b) := hc ▸ HR.out.mach.cell 9 rfl; have m_added : W2.cell? ⟨bm, 7, none⟩ = some (.map (some G.ba)) := HR.out.mach.cell 7 rfl; have e_err : W2.cell? ⟨be, 9, none⟩ = some (.int .i64 e.err) := HE.out.cell 9 rfl; have c_id : W2.cell? ⟨b, 4, none⟩ = some (.int .u64 c.bg.id) := HC.out.cell 4 rfl))
        go_ret
        exact Ends.no rfl (HBW.out.mono hB) HP.out
  · have b1 : (e.err == 1) = false := by simp [n1]
    by_cases n2 : e.err = 2
    · have h1 := n2
      have b2 : (e.err == 2) = true := by simp [n2]
      clear n2
      by_cases hw : c.bg.what = 1 ∨ c.bg.what = 2 ∨ c.bg.what = 3
      · have HW := hid (show decide (c.bg.what ∈ [1, 2, 3]) = true by simp [hw])
        have HP := hid (show refuseM G.ma i c e = some (fin G.ma i 0 0 e.err) by unfold refuseM refB; rcases hw with h | h | h <;> simp [h1, h])
        clear hw h1
        go_wp2_with (first | (go_at_call 102; clear m_c0 c_id0 m_cl0; generalize hW : World.alloc w _ = W; obtain ⟨hR, hE, hBW, hsz⟩ := HH.out.boxed e hW; clear hW HH; generalize hBE : w.heap.size = be at *; have HR := hid hR; have HE := hid hE; have HBW := hid hBW; have HC : Hid (Blk W b 126 (clC c)) := (HR.out.cl _ (List.mem_of_getElem? hi)).1; clear hR hE hBW; have HE0 := hid HE.out; have HEp := hid HE.out; refine (what_any (c := c) [1, 2, 3] _ _ (Reads.built_at _ [.int .i64 1, .int .i64 2, .int .i64 3] 3 3 _ (by first | omega | simp)) (by simp) (hc ▸ (HR.out.alloc _).mach.cell 9 rfl) ((HC.out.alloc _).cell 3 rfl)).mono ?_; rintro x w' ⟨hx, rfl⟩; rw [HW.out] at hx; subst hx; generalize hW2 : World.alloc _ _ = W2; replace HR := hid (show Rep B W2 bm G from hW2 ▸ HR.out.alloc _); replace HE := hid (show Blk W2 be 31 (evC e) from hW2 ▸ HE.out.alloc _); replace HBW := hid (show Below be w W2 from hW2 ▸ (HBW.out.alloc (Nat.le_of_lt HEp.out.lt) _)); replace HC := hid (show Blk W2 b 126 (clC c) from hW2 ▸ HC.out.alloc _); clear hW2; clear HEp; have e_err : W2.cell? ⟨be, 9, none⟩ = some (.int .i64 e.err) := HE.out.cell 9 rfl) | (go_at_call 105; have HB := hid (HBW.out.mono hB); have hBw : B ≤ w.heap.size := Nat.le_trans hB (Nat.le_of_eq hBE.symm); refine (finish_any B _ (G := G) HR.out hi hc (0) (0) (e.err)).mono ?_; rintro x w5 ⟨rfl, hr5, hc5⟩; have HR5 := hid hr5; have HB5 := hid (HB.out.trans (hc5.below (Nat.le_trans hBw HB.out.size) (fun k hk => hk ▸ (HR.out.cl _ (List.mem_of_getElem? hi)).2.1))); clear hr5 hc5))
        go_ret
        exact Ends.yes rfl HB5.out (by rw [HP.out, ← fin_ma (G := G) hi]) HR5.out
      · have HW := hid (show decide (c.bg.what ∈ [1, 2, 3]) = false by simp at hw ⊢; exact hw)
        have HP := hid (show refuseM G.ma i c e = none by unfold refuseM refB; simp only [not_or] at hw; simp [h1, hw.1, hw.2.1, hw.2.2])
        clear hw h1
        go_wp2_with (first | (go_at_call 102; clear m_c0 c_id0 m_cl0; generalize hW : World.alloc w _ = W; obtain ⟨hR, hE, hBW, hsz⟩ := HH.out.boxed e hW; clear hW HH; generalize hBE : w.heap.size = be at *; have HR := hid hR; have HE := hid hE; have HBW := hid hBW; have HC : Hid (Blk W b 126 (clC c)) := (HR.out.cl _ (List.mem_of_getElem? hi)).1; clear hR hE hBW; have HE0 := hid HE.out; have HEp := hid HE.out; refine (what_any (c := c) [1, 2, 3] _ _ (Reads.built_at _ [.int .i64 1, .int .i64 2, .int .i64 3] 3 3 _ (by first | omega | simp)) (by simp) (hc ▸ (HR.out.alloc _).mach.cell 9 rfl) ((HC.out.alloc _).cell 3 rfl)).mono ?_; rintro x w' ⟨hx, rfl⟩; rw [HW.out] at hx; subst hx; generalize hW2 : World.alloc _ _ = W2; replace HR := hid (show Rep B W2 bm G from hW2 ▸ HR.out.alloc _); replace HE := hid (show Blk W2 be 31 (evC e) from hW2 ▸ HE.out.alloc _); replace HBW := hid (show Below be w W2 from hW2 ▸ (HBW.out.alloc (Nat.le_of_lt HEp.out.lt) _)); replace HC := hid (show Blk W2 b 126 (clC c) from hW2 ▸ HC.out.alloc _); clear hW2; clear HEp; have e_err : W2.cell? ⟨be, 9, none⟩ = some (.int .i64 e.err) := HE.out.cell 9 rfl))
        go_ret
        exact Ends.no rfl (HBW.out.mono hB) HP.out
    · have b2 : (e.err == 2) = false := by simp [n2]
      by_cases n3 : e.err = 3
      · have h1 := n3
        have b3 : (e.err == 3) = true := by simp [n3]
        clear n3
        cases hcl : G.closed
        · rw [hcl] at m_cl0
          have HP := hid (show refuseM G.ma i c e = none by unfold refuseM refB; simp [h1, hcl, ma_closed])
          clear h1
          go_wp2
          go_ret
          exact Ends.no rfl ((HH.out.boxed e rfl).2.2.1.mono hB) HP.out
        · rw [hcl] at m_cl0
          have HP := hid (show refuseM G.ma i c e = some (fin G.ma i 0 0 e.err) by unfold refuseM refB; simp [h1, hcl, ma_closed])
          clear h1
          go_wp2_with (first | (go_at_call 105; clear m_c0 c_id0 m_cl0; generalize hW : World.alloc w _ = W; obtain ⟨hR, hE, hBW, hsz⟩ := HH.out.boxed e hW; clear hW HH; generalize hBE : w.heap.size = be at *; have HR := hid hR; have HE := hid hE; have HBW := hid hBW; have HC : Hid (Blk W b 126 (clC c)) := (HR.out.cl _ (List.mem_of_getElem? hi)).1; clear hR hE hBW; have HE0 := hid HE.out; have HB := hid (HBW.out.mono hB); have hBw : B ≤ w.heap.size := Nat.le_trans hB (Nat.le_of_eq hBE.symm); refine (finish_any B _ (G := G) HR.out hi hc (0) (0) (e.err)).mono ?_; rintro x w5 ⟨rfl, hr5, hc5⟩; have HR5 := hid hr5; have HB5 := hid (HB.out.trans (hc5.below (Nat.le_trans hBw HB.out.size) (fun k hk => hk ▸ (HR.out.cl _ (List.mem_of_getElem? hi)).2.1))); clear hr5 hc5))
          go_ret
          exact Ends.yes rfl HB5.out (by rw [HP.out, ← fin_ma (G := G) hi]) HR5.out
      · have b3 : (e.err == 3) = false := by simp [n3]
        by_cases n9 : e.err = 9
        · have h1 := n9
          have b9 : (e.err == 9) = true := by simp [n9]
          clear n9
          by_cases hw : c.bg.what = 7
          · have HW := hid (show decide (c.bg.what ∈ [7]) = true by simp [hw])
            cases hf : fitsB G.now 1
            · have HF := hid hf
              have HP := hid (show refuseM G.ma i c e = some (fin G.ma i 0 0 e.err) by unfold refuseM refB; simp [h1, hw, hf, ma_now])
              clear hw h1
              go_wp2_with (first | (go_at_call 102; clear m_c0 c_id0 m_cl0; generalize hW : World.alloc w _ = W; obtain ⟨hR, hE, hBW, hsz⟩ := HH.out.boxed e hW; clear hW HH; generalize hBE : w.heap.size = be at *; have HR := hid hR; have HE := hid hE; have HBW := hid hBW; have HC : Hid (Blk W b 126 (clC c)) := (HR.out.cl _ (List.mem_of_getElem? hi)).1; clear hR hE hBW; have HE0 := hid HE.out; have HEp := hid HE.out; refine (what_any (c := c) [7] _ _ (Reads.built_at _ [.int .i64 7] 3 1 _ (by first | omega | simp)) (by simp) (hc ▸ (HR.out.alloc _).mach.cell 9 rfl) ((HC.out.alloc _).cell 3 rfl)).mono ?_; rintro x w' ⟨hx, rfl⟩; rw [HW.out] at hx; subst hx; generalize hW2 : World.alloc _ _ = W2; replace HR := hid (show Rep B W2 bm G from hW2 ▸ HR.out.alloc _); replace HE := hid (show Blk W2 be 31 (evC e) from hW2 ▸ HE.out.alloc _); replace HBW := hid (show Below be w W2 from hW2 ▸ (HBW.out.alloc (Nat.le_of_lt HEp.out.lt) _)); replace HC := hid (show Blk W2 b 126 (clC c) from hW2 ▸ HC.out.alloc _); clear hW2; clear HEp; have m_now : W2.cell? ⟨bm, 1, none⟩ = some (.int .u64 G.now) := HR.out.mach.cell 1 rfl; have e_err : W2.cell? ⟨be, 9, none⟩ = some (.int .i64 e.err) := HE.out.cell 9 rfl) | (go_at_call 103; refine (fits_any (G.now) (1) _ hN.out u64_one).mono ?_; rintro x w' ⟨hx, rfl⟩; rw [HF.out] at hx; subst hx) | (go_at_call 105; have HB := hid (HBW.out.mono hB); have hBw : B ≤ w.heap.size := Nat.le_trans hB (Nat.le_of_eq hBE.symm); refine (finish_any B _ (G := G) HR.out hi hc (0) (0) (e.err)).mono ?_; rintro x w5 ⟨rfl, hr5, hc5⟩; have HR5 := hid hr5; have HB5 := hid (HB.out.trans (hc5.below (Nat.le_trans hBw HB.out.size) (fun k hk => hk ▸ (HR.out.cl _ (List.mem_of_getElem? hi)).2.1))); clear hr5 hc5))
              go_ret
              exact Ends.yes rfl HB5.out (by rw [HP.out, ← fin_ma (G := G) hi]) HR5.out
            · have HF := hid hf
              have HP := hid (show refuseM G.ma i c e = none by unfold refuseM refB; simp [h1, hw, hf, ma_now])
              clear hw h1
              go_wp2_with (first | (go_at_call 102; clear m_c0 c_id0 m_cl0; generalize hW : World.alloc w _ = W; obtain ⟨hR, hE, hBW, hsz⟩ := HH.out.boxed e hW; clear hW HH; generalize hBE : w.heap.size = be at *; have HR := hid hR; have HE := hid hE; have HBW := hid hBW; have HC : Hid (Blk W b 126 (clC c)) := (HR.out.cl _ (List.mem_of_getElem? hi)).1; clear hR hE hBW; have HE0 := hid HE.out; have HEp := hid HE.out; refine (what_any (c := c) [7] _ _ (Reads.built_at _ [.int .i64 7] 3 1 _ (by first | omega | simp)) (by simp) (hc ▸ (HR.out.alloc _).mach.cell 9 rfl) ((HC.out.alloc _).cell 3 rfl)).mono ?_; rintro x w' ⟨hx, rfl⟩; rw [HW.out] at hx; subst hx; generalize hW2 : World.alloc _ _ = W2; replace HR := hid (show Rep B W2 bm G from hW2 ▸ HR.out.alloc _); replace HE := hid (show Blk W2 be 31 (evC e) from hW2 ▸ HE.out.alloc _); replace HBW := hid (show Below be w W2 from hW2 ▸ (HBW.out.alloc (Nat.le_of_lt HEp.out.lt) _)); replace HC := hid (show Blk W2 b 126 (clC c) from hW2 ▸ HC.out.alloc _); clear hW2; clear HEp; have m_now : W2.cell? ⟨bm, 1, none⟩ = some (.int .u64 G.now) := HR.out.mach.cell 1 rfl; have e_err : W2.cell? ⟨be, 9, none⟩ = some (.int .i64 e.err) := HE.out.cell 9 rfl) | (go_at_call 103; refine (fits_any (G.now) (1) _ hN.out u64_one).mono ?_; rintro x w' ⟨hx, rfl⟩; rw [HF.out] at hx; subst hx))
              go_ret
              exact Ends.no rfl (HBW.out.mono hB) HP.out
          · have HW := hid (show decide (c.bg.what ∈ [7]) = false by simp [hw])
            have HP := hid (show refuseM G.ma i c e = none by unfold refuseM refB; simp [h1, hw])
            clear hw h1
            go_wp2_with (first | (go_at_call 102; clear m_c0 c_id0 m_cl0; generalize hW : World.alloc w _ = W; obtain ⟨hR, hE, hBW, hsz⟩ := HH.out.boxed e hW; clear hW HH; generalize hBE : w.heap.size = be at *; have HR := hid hR; have HE := hid hE; have HBW := hid hBW; have HC : Hid (Blk W b 126 (clC c)) := (HR.out.cl _ (List.mem_of_getElem? hi)).1; clear hR hE hBW; have HE0 := hid HE.out; have HEp := hid HE.out; refine (what_any (c := c) [7] _ _ (Reads.built_at _ [.int .i64 7] 3 1 _ (by first | omega | simp)) (by simp) (hc ▸ (HR.out.alloc _).mach.cell 9 rfl) ((HC.out.alloc _).cell 3 rfl)).mono ?_; rintro x w' ⟨hx, rfl⟩; rw [HW.out] at hx; subst hx; generalize hW2 : World.alloc _ _ = W2; replace HR := hid (show Rep B W2 bm G from hW2 ▸ HR.out.alloc _); replace HE := hid (show Blk W2 be 31 (evC e) from hW2 ▸ HE.out.alloc _); replace HBW := hid (show Below be w W2 from hW2 ▸ (HBW.out.alloc (Nat.le_of_lt HEp.out.lt) _)); replace HC := hid (show Blk W2 b 126 (clC c) from hW2 ▸ HC.out.alloc _); clear hW2; clear HEp; have m_now : W2.cell? ⟨bm, 1, none⟩ = some (.int .u64 G.now) := HR.out.mach.cell 1 rfl; have e_err : W2.cell? ⟨be, 9, none⟩ = some (.int .i64 e.err) := HE.out.cell 9 rfl))
            go_ret
            exact Ends.no rfl (HBW.out.mono hB) HP.out
        · have b9 : (e.err == 9) = false := by simp [n9]
          by_cases n0 : e.err = 0
          · have h1 := n0
            have b0 : (e.err == 0) = true := by simp [n0]
            clear n0
            by_cases hw : c.bg.what = 3 ∨ c.bg.what = 4
            · have HW := hid (show decide (c.bg.what ∈ [3, 4]) = true by simp [hw])
              cases hg : aget G.lv c.bg.id with
              | none =>
                have hlp := liveP_none hg
                have HP := hid (show refuseM G.ma i c e = some (fin G.ma i 0 0 e.err) by unfold refuseM refB; rcases hw with h | h <;> simp [h1, h, lv_none hg])
                clear hw h1
                go_wp2_with (first | (go_at_call 102; clear m_c0 c_id0 m_cl0; generalize hW : World.alloc w _ = W; obtain ⟨hR, hE, hBW, hsz⟩ := HH.out.boxed e hW; clear hW HH; generalize hBE : w.heap.size = be at *; have HR := hid hR; have HE := hid hE; have HBW := hid hBW; have HC : Hid (Blk W b 126 (clC c)) := (HR.out.cl _ (List.mem_of_getElem? hi)).1; clear hR hE hBW; have HE0 := hid HE.out; have HEp := hid HE.out; refine (what_any (c := c) [3, 4] _ _ (Reads.built_at _ [.int .i64 3, .int .i64 4] 3 2 _ (by first | omega | simp)) (by simp) (hc ▸ (HR.out.alloc _).mach.cell 9 rfl) ((HC.out.alloc _).cell 3 rfl)).mono ?_; rintro x w' ⟨hx, rfl⟩; rw [HW.out] at hx; subst hx; generalize hW2 : World.alloc _ _ = W2; replace HR := hid (show Rep B W2 bm G from hW2 ▸ HR.out.alloc _); replace HE := hid (show Blk W2 be 31 (evC e) from hW2 ▸ HE.out.alloc _); replace HBW := hid (show Below be w W2 from hW2 ▸ (HBW.out.alloc (Nat.le_of_lt HEp.out.lt) _)); replace HC := hid (show Blk W2 b 126 (clC c) from hW2 ▸ HC.out.alloc _); clear hW2; clear HEp; have m_c : W2.cell? ⟨bm, 9, none⟩ = some (ptrV b) := hc ▸ HR.out.mach.cell 9 rfl; have m_live : W2.cell? ⟨bm, 8, none⟩ = some (.map (some G.bl)) := HR.out.mach.cell 8 rfl; have e_err : W2.cell? ⟨be, 9, none⟩ = some (.int .i64 e.err) := HE.out.cell 9 rfl; have hl := HR.out.look c.bg.id; rw [hlp] at hl) | (go_at_call 105; have HB := hid (HBW.out.mono hB); have hBw : B ≤ w.heap.size := Nat.le_trans hB (Nat.le_of_eq hBE.symm); refine (finish_any B _ (G := G) HR.out hi hc (0) (0) (e.err)).mono ?_; rintro x w5 ⟨rfl, hr5, hc5⟩; have HR5 := hid hr5; have HB5 := hid (HB.out.trans (hc5.below (Nat.le_trans hBw HB.out.size) (fun k hk => hk ▸ (HR.out.cl _ (List.mem_of_getElem? hi)).2.1))); clear hr5 hc5))
                go_ret
                exact Ends.yes rfl HB5.out (by rw [HP.out, ← fin_ma (G := G) hi]) HR5.out
              | some p =>
                obtain ⟨bt, t⟩ := p
                have hlp := liveP_some hg
                have HW2 := hid (show decide (c.bg.what ∈ [5]) = false by rcases hw with h | h <;> simp [h])
                have HP := hid (show refuseM G.ma i c e = none by unfold refuseM refB; rcases hw with h | h <;> simp [h1, h, lv_some hg])
                clear hw h1
                go_wp2_with (first | (go_at_call 102; clear m_c0 c_id0 m_cl0; generalize hW : World.alloc w _ = W; obtain ⟨hR, hE, hBW, hsz⟩ := HH.out.boxed e hW; clear hW HH; generalize hBE : w.heap.size = be at *; have HR := hid hR; have HE := hid hE; have HBW := hid hBW; have HC : Hid (Blk W b 126 (clC c)) := (HR.out.cl _ (List.mem_of_getElem? hi)).1; clear hR hE hBW; have HE0 := hid HE.out; have HEp := hid HE.out; refine (what_any (c := c) [3, 4] _ _ (Reads.built_at _ [.int .i64 3, .int .i64 4] 3 2 _ (by first | omega | simp)) (by simp) (hc ▸ (HR.out.alloc _).mach.cell 9 rfl) ((HC.out.alloc _).cell 3 rfl)).mono ?_; rintro x w' ⟨hx, rfl⟩; rw [HW.out] at hx; subst hx; generalize hW2 : World.alloc _ _ = W2; replace HR := hid (show Rep B W2 bm G from hW2 ▸ HR.out.alloc _); replace HE := hid (show Blk W2 be 31 (evC e) from hW2 ▸ HE.out.alloc _); replace HBW := hid (show Below be w W2 from hW2 ▸ (HBW.out.alloc (Nat.le_of_lt HEp.out.lt) _)); replace HC := hid (show Blk W2 b 126 (clC c) from hW2 ▸ HC.out.alloc _); clear hW2; clear HEp; have m_c : W2.cell? ⟨bm, 9, none⟩ = some (ptrV b) := hc ▸ HR.out.mach.cell 9 rfl; have m_live : W2.cell? ⟨bm, 8, none⟩ = some (.map (some G.bl)) := HR.out.mach.cell 8 rfl; have e_err : W2.cell? ⟨be, 9, none⟩ = some (.int .i64 e.err) := HE.out.cell 9 rfl; have hl := HR.out.look c.bg.id; rw [hlp] at hl) | (go_at_call 102; have HEp := hid HE.out; refine (what_any (c := c) [5] _ _ (Reads.built_at _ [.int .i64 5] 3 1 _ (by first | omega | simp)) (by simp) (hc ▸ (HR.out.alloc _).mach.cell 9 rfl) ((HC.out.alloc _).cell 3 rfl)).mono ?_; rintro x w' ⟨hx, rfl⟩; rw [HW2.out] at hx; subst hx; generalize hW2 : World.alloc _ _ = W2; replace HR := hid (show Rep B W2 bm G from hW2 ▸ HR.out.alloc _); replace HE := hid (show Blk W2 be 31 (evC e) from hW2 ▸ HE.out.alloc _); replace HBW := hid (show Below be w W2 from hW2 ▸ (HBW.out.alloc (Nat.le_of_lt HEp.out.lt) _)); replace HC := hid (show Blk W2 b 126 (clC c) from hW2 ▸ HC.out.alloc _); clear hW2; clear HEp; have m_c : W2.cell? ⟨bm, 9, none⟩ = some (ptrV b) := hc ▸ HR.out.mach.cell 9 rfl; have m_live : W2.cell? ⟨bm, 8, none⟩ = some (.map (some G.bl)) := HR.out.mach.cell 8 rfl; have e_err : W2.cell? ⟨be, 9, none⟩ = some (.int .i64 e.err) := HE.out.cell 9 rfl))
                go_ret
                exact Ends.no rfl (HBW.out.mono hB) HP.out
            · have HW := hid (show decide (c.bg.what ∈ [3, 4]) = false by simp at hw ⊢; exact hw)
              by_cases hw5 : c.bg.what = 5
              · have HW2 := hid (show decide (c.bg.what ∈ [5]) = true by simp [hw5])
                cases hs : stopsM G.ma c.bg.id
                · have HS := hid hs
                  have HP := hid (show refuseM G.ma i c e = some (fin G.ma i 0 0 e.err) by unfold refuseM refB; simp [h1, hw5, hs])
                  clear hw hw5 h1
                  go_wp2_with (first | (go_at_call 102; clear m_c0 c_id0 m_cl0; generalize hW : World.alloc w _ = W; obtain ⟨hR, hE, hBW, hsz⟩ := HH.out.boxed e hW; clear hW HH; generalize hBE : w.heap.size = be at *; have HR := hid hR; have HE := hid hE; have HBW := hid hBW; have HC : Hid (Blk W b 126 (clC c)) := (HR.out.cl _ (List.mem_of_getElem? hi)).1; clear hR hE hBW; have HE0 := hid HE.out; have HEp := hid HE.out; refine (what_any (c := c) [3, 4] _ _ (Reads.built_at _ [.int .i64 3, .int .i64 4] 3 2 _ (by first | omega | simp)) (by simp) (hc ▸ (HR.out.alloc _).mach.cell 9 rfl) ((HC.out.alloc _).cell 3 rfl)).mono ?_; rintro x w' ⟨hx, rfl⟩; rw [HW.out] at hx; subst hx; generalize hW2 : World.alloc _ _ = W2; replace HR := hid (show Rep B W2 bm G from hW2 ▸ HR.out.alloc _); replace HE := hid (show Blk W2 be 31 (evC e) from hW2 ▸ HE.out.alloc _); replace HBW := hid (show Below be w W2 from hW2 ▸ (HBW.out.alloc (Nat.le_of_lt HEp.out.lt) _)); replace HC := hid (show Blk W2 b 126 (clC c) from hW2 ▸ HC.out.alloc _); clear hW2; clear HEp; have m_c : W2.cell? ⟨bm, 9, none⟩ = some (ptrV b) := hc ▸ HR.out.mach.cell 9 rfl; have m_live : W2.cell? ⟨bm, 8, none⟩ = some (.map (some G.bl)) := HR.out.mach.cell 8 rfl; have e_err : W2.cell? ⟨be, 9, none⟩ = some (.int .i64 e.err) := HE.out.cell 9 rfl) | (go_at_call 102; have HEp := hid HE.out; refine (what_any (c := c) [5] _ _ (Reads.built_at _ [.int .i64 5] 3 1 _ (by first | omega | simp)) (by simp) (hc ▸ (HR.out.alloc _).mach.cell 9 rfl) ((HC.out.alloc _).cell 3 rfl)).mono ?_; rintro x w' ⟨hx, rfl⟩; rw [HW2.out] at hx; subst hx; generalize hW2 : World.alloc _ _ = W2; replace HR := hid (show Rep B W2 bm G from hW2 ▸ HR.out.alloc _); replace HE := hid (show Blk W2 be 31 (evC e) from hW2 ▸ HE.out.alloc _); replace HBW := hid (show Below be w W2 from hW2 ▸ (HBW.out.alloc (Nat.le_of_lt HEp.out.lt) _)); replace HC := hid (show Blk W2 b 126 (clC c) from hW2 ▸ HC.out.alloc _); clear hW2; clear HEp; have m_c : W2.cell? ⟨bm, 9, none⟩ = some (ptrV b) := hc ▸ HR.out.mach.cell 9 rfl; have m_live : W2.cell? ⟨bm, 8, none⟩ = some (.map (some G.bl)) := HR.out.mach.cell 8 rfl; have e_err : W2.cell? ⟨be, 9, none⟩ = some (.int .i64 e.err) := HE.out.cell 9 rfl) | (go_at_call 106; refine (stops_any B _ HR.out c.bg.id).mono ?_; rintro x w' ⟨hx, n, rfl⟩; rw [HS.out] at hx; subst hx; generalize hW2 : World.drewN _ _ = W2; replace HR := hid (show Rep B W2 bm G from hW2 ▸ HR.out.drewN _); replace HE := hid (show Blk W2 be 31 (evC e) from hW2 ▸ HE.out); replace HBW := hid (show Below be w W2 from hW2 ▸ below_drewN HBW.out _); replace HC := hid (show Blk W2 b 126 (clC c) from hW2 ▸ HC.out); clear hW2; have e_err : W2.cell? ⟨be, 9, none⟩ = some (.int .i64 e.err) := HE.out.cell 9 rfl) | (go_at_call 105; have HB := hid (HBW.out.mono hB); have hBw : B ≤ w.heap.size := Nat.le_trans hB (Nat.le_of_eq hBE.symm); refine (finish_any B _ (G := G) HR.out hi hc (0) (0) (e.err)).mono ?_; rintro x w5 ⟨rfl, hr5, hc5⟩; have HR5 := hid hr5; have HB5 := hid (HB.out.trans (hc5.below (Nat.le_trans hBw HB.out.size) (fun k hk => hk ▸ (HR.out.cl _ (List.mem_of_getElem? hi)).2.1))); clear hr5 hc5))
                  go_ret
                  exact Ends.yes rfl HB5.out (by rw [HP.out, ← fin_ma (G := G) hi]) HR5.out
                · have HS := hid hs
                  have HP := hid (show refuseM G.ma i c e = none by unfold refuseM refB; simp [h1, hw5, hs])
                  clear hw hw5 h1
                  go_wp2_with (first | (go_at_call 102; clear m_c0 c_id0 m_cl0; generalize hW : World.alloc w _ = W; obtain ⟨hR, hE, hBW, hsz⟩ := HH.out.boxed e hW; clear hW HH; generalize hBE : w.heap.size = be at *; have HR := hid hR; have HE := hid hE; have HBW := hid hBW; have HC : Hid (Blk W b 126 (clC c)) := (HR.out.cl _ (List.mem_of_getElem? hi)).1; clear hR hE hBW; have HE0 := hid HE.out; have HEp := hid HE.out; refine (what_any (c := c) [3, 4] _ _ (Reads.built_at _ [.int .i64 3, .int .i64 4] 3 2 _ (by first | omega | simp)) (by simp) (hc ▸ (HR.out.alloc _).mach.cell 9 rfl) ((HC.out.alloc _).cell 3 rfl)).mono ?_; rintro x w' ⟨hx, rfl⟩; rw [HW.out] at hx; subst hx; generalize hW2 : World.alloc _ _ = W2; replace HR := hid (show Rep B W2 bm G from hW2 ▸ HR.out.alloc _); replace HE := hid (show Blk W2 be 31 (evC e) from hW2 ▸ HE.out.alloc _); replace HBW := hid (show Below be w W2 from hW2 ▸ (HBW.out.alloc (Nat.le_of_lt HEp.out.lt) _)); replace HC := hid (show Blk W2 b 126 (clC c) from hW2 ▸ HC.out.alloc _); clear hW2; clear HEp; have m_c : W2.cell? ⟨bm, 9, none⟩ = some (ptrV b) := hc ▸ HR.out.mach.cell 9 rfl; have m_live : W2.cell? ⟨bm, 8, none⟩ = some (.map (some G.bl)) := HR.out.mach.cell 8 rfl; have e_err : W2.cell? ⟨be, 9, none⟩ = some (.int .i64 e.err) := HE.out.cell 9 rfl) | (go_at_call 102; have HEp := hid HE.out; refine (what_any (c := c) [5] _ _ (Reads.built_at _ [.int .i64 5] 3 1 _ (by first | omega | simp)) (by simp) (hc ▸ (HR.out.alloc _).mach.cell 9 rfl) ((HC.out.alloc _).cell 3 rfl)).mono ?_; rintro x w' ⟨hx, rfl⟩; rw [HW2.out] at hx; subst hx; generalize hW2 : World.alloc _ _ = W2; replace HR := hid (show Rep B W2 bm G from hW2 ▸ HR.out.alloc _); replace HE := hid (show Blk W2 be 31 (evC e) from hW2 ▸ HE.out.alloc _); replace HBW := hid (show Below be w W2 from hW2 ▸ (HBW.out.alloc (Nat.le_of_lt HEp.out.lt) _)); replace HC := hid (show Blk W2 b 126 (clC c) from hW2 ▸ HC.out.alloc _); clear hW2; clear HEp; have m_c : W2.cell? ⟨bm, 9, none⟩ = some (ptrV b) := hc ▸ HR.out.mach.cell 9 rfl; have m_live : W2.cell? ⟨bm, 8, none⟩ = some (.map (some G.bl)) := HR.out.mach.cell 8 rfl; have e_err : W2.cell? ⟨be, 9, none⟩ = some (.int .i64 e.err) := HE.out.cell 9 rfl) | (go_at_call 106; refine (stops_any B _ HR.out c.bg.id).mono ?_; rintro x w' ⟨hx, n, rfl⟩; rw [HS.out] at hx; subst hx; generalize hW2 : World.drewN _ _ = W2; replace HR := hid (show Rep B W2 bm G from hW2 ▸ HR.out.drewN _); replace HE := hid (show Blk W2 be 31 (evC e) from hW2 ▸ HE.out); replace HBW := hid (show Below be w W2 from hW2 ▸ below_drewN HBW.out _); replace HC := hid (show Blk W2 b 126 (clC c) from hW2 ▸ HC.out); clear hW2; have e_err : W2.cell? ⟨be, 9, none⟩ = some (.int .i64 e.err) := HE.out.cell 9 rfl))
                  go_ret
                  exact Ends.no rfl (HBW.out.mono hB) HP.out
              · have HW2 := hid (show decide (c.bg.what ∈ [5]) = false by simp [hw5])
                have HP := hid (show refuseM G.ma i c e = none by unfold refuseM refB; simp only [not_or] at hw; simp [h1, hw5, hw.1, hw.2])
                clear hw hw5 h1
                go_wp2_with (first | (go_at_call 102; clear m_c0 c_id0 m_cl0; generalize hW : World.alloc w _ = W; obtain ⟨hR, hE, hBW, hsz⟩ := HH.out.boxed e hW; clear hW HH; generalize hBE : w.heap.size = be at *; have HR := hid hR; have HE := hid hE; have HBW := hid hBW; have HC : Hid (Blk W b 126 (clC c)) := (HR.out.cl _ (List.mem_of_getElem? hi)).1; clear hR hE hBW; have HE0 := hid HE.out; have HEp := hid HE.out; refine (what_any (c := c) [3, 4] _ _ (Reads.built_at _ [.int .i64 3, .int .i64 4] 3 2 _ (by first | omega | simp)) (by simp) (hc ▸ (HR.out.alloc _).mach.cell 9 rfl) ((HC.out.alloc _).cell 3 rfl)).mono ?_; rintro x w' ⟨hx, rfl⟩; rw [HW.out] at hx; subst hx; generalize hW2 : World.alloc _ _ = W2; replace HR := hid (show Rep B W2 bm G from hW2 ▸ HR.out.alloc _); replace HE := hid (show Blk W2 be 31 (evC e) from hW2 ▸ HE.out.alloc _); replace HBW := hid (show Below be w W2 from hW2 ▸ (HBW.out.alloc (Nat.le_of_lt HEp.out.lt) _)); replace HC := hid (show Blk W2 b 126 (clC c) from hW2 ▸ HC.out.alloc _); clear hW2; clear HEp; have m_c : W2.cell? ⟨bm, 9, none⟩ = some (ptrV b) := hc ▸ HR.out.mach.cell 9 rfl; have m_live : W2.cell? ⟨bm, 8, none⟩ = some (.map (some G.bl)) := HR.out.mach.cell 8 rfl; have e_err : W2.cell? ⟨be, 9, none⟩ = some (.int .i64 e.err) := HE.out.cell 9 rfl) | (go_at_call 102; have HEp := hid HE.out; refine (what_any (c := c) [5] _ _ (Reads.built_at _ [.int .i64 5] 3 1 _ (by first | omega | simp)) (by simp) (hc ▸ (HR.out.alloc _).mach.cell 9 rfl) ((HC.out.alloc _).cell 3 rfl)).mono ?_; rintro x w' ⟨hx, rfl⟩; rw [HW2.out] at hx; subst hx; generalize hW2 : World.alloc _ _ = W2; replace HR := hid (show Rep B W2 bm G from hW2 ▸ HR.out.alloc _); replace HE := hid (show Blk W2 be 31 (evC e) from hW2 ▸ HE.out.alloc _); replace HBW := hid (show Below be w W2 from hW2 ▸ (HBW.out.alloc (Nat.le_of_lt HEp.out.lt) _)); replace HC := hid (show Blk W2 b 126 (clC c) from hW2 ▸ HC.out.alloc _); clear hW2; clear HEp; have m_c : W2.cell? ⟨bm, 9, none⟩ = some (ptrV b) := hc ▸ HR.out.mach.cell 9 rfl; have m_live : W2.cell? ⟨bm, 8, none⟩ = some (.map (some G.bl)) := HR.out.mach.cell 8 rfl; have e_err : W2.cell? ⟨be, 9, none⟩ = some (.int .i64 e.err) := HE.out.cell 9 rfl))
                go_ret
                exact Ends.no rfl (HBW.out.mono hB) HP.out
          · have b0 : (e.err == 0) = false := by simp [n0]
            have HP := hid (show refuseM G.ma i c e = none by unfold refuseM refB; simp [n1, n2, n3, n9, n0])
            clear n1 n2 n3 n9 n0
            go_wp2
            go_ret
            exact Ends.no rfl ((HH.out.boxed e rfl).2.2.1.mono hB) HP.out
end Go.Proofs.Ytpnkkdpggofanaa

namespace Go.Proofs.Ytpnkkdpggofanaa
open Go.RowKit

set_option maxRecDepth 4000 in
set_option maxHeartbeats 8000000 in
theorem addRule_any (B : Nat) (w : World) {bm b i : Nat} {c : Cl} {G : Gm} (h : Rep B w bm G) (hB : B ≤ w.heap.size) (hi : G.cs[i]? = some (b, c)) (hc : G.cp = ptrV b) (e : Ev) (he : e.wf) :
    Calls Try.prog 80 #[ptrV bm, evV e] w fun x w' => Ends B bm w (addM G.ma i c e) x w' := by
  go_enter Try.func80, Try.ntmps80
  go_wp2
  generalize hW : w.alloc _ = W
  obtain ⟨hR, hE, hBW, hsz⟩ := h.boxed e hW
  clear hW h
  generalize hBE : w.heap.size = be at *
  have HR := hid hR
  have HE := hid hE
  have HBW := hid hBW
  have HC : Hid (Blk W b 126 (clC c)) := (HR.out.cl _ (List.mem_of_getElem? hi)).1
  clear hR hE hBW
  clear hsz
  by_cases hw : c.bg.what = 1 ∨ c.bg.what = 2
  · have HW := hid (show decide (c.bg.what ∈ [1, 2]) = true by simp [hw])
    cases he1 : G.ended
    · cases ha : hasK G.added e.id
      · by_cases hr : (G.lv.length : Int) < G.room
        · have hr' : decide (G.room ≤ (G.lv.length : Int)) = false := decide_eq_false (by omega)
          have RAW := hid (And.intro he1 (And.intro ha (And.intro hr hw)))
          clear hw hr
          have HE0 := hid HE.out
          refine wp_region_any (by kernel_rfl) ?_
          show wpAny _ _ _ _ 32 _ _ W.drew
          refine wpAny_take (i := 0) (v := ptrV bm) rfl (by kernel_rfl) (by kernel_rfl) (by kernel_rfl) (fun _ _ _ h => h) (Or.inl ⟨by rfl, fun w => by go_simp⟩) ?_
          refine wpAny_step (k := 1) (by kernel_rfl) rfl (fun K hK => ?_)
          go_simp
          refine hK.out _ _ ?_
          clear hK K
          refine wpAny_step (k := 2) (by kernel_rfl) rfl (fun K hK => ?_)
          go_simp
          refine (what_any (c := c) [1, 2] _ _ (Reads.built_at _ [.int .i64 1, .int .i64 2] 3 2 _ (by simp)) (by simp) (hc ▸ (HR.out.drew.alloc _).mach.cell 9 rfl) ((HC.out.drew.alloc _).cell 3 rfl)).mono ?_
          rintro x w' ⟨hx, rfl⟩
          rw [HW.out] at hx
          subst hx
          refine hK.out _ _ ?_
          clear hK K
          refine wpAny_quiet_rest (k := 3) _ (by kernel_rfl) (by kernel_rfl) rfl (by kernel_rfl) ?_
          simp only [List.drop_succ_cons, List.drop_zero]
          generalize hW2 : W.drew.alloc _ = W2
          replace HR := hid (show Rep B W2 bm G from hW2 ▸ HR.out.drew.alloc _)
          replace HE := hid (show Blk W2 be 31 (evC e) from hW2 ▸ HE.out.drew.alloc _)
          replace HBW := hid (show Below be w W2 from hW2 ▸ (HBW.out.drew.alloc (Nat.le_trans (Nat.le_of_lt HE0.out.lt) (by simp)) _))
          replace HC := hid (show Blk W2 b 126 (clC c) from hW2 ▸ HC.out.drew.alloc _)
          clear hW2 HE0
          have m_ended : W2.cell? ⟨bm, 3, none⟩ = some (.bool G.ended) := HR.out.mach.cell 3 rfl
          have m_added : W2.cell? ⟨bm, 7, none⟩ = some (.map (some G.ba)) := HR.out.mach.cell 7 rfl
          have m_live : W2.cell? ⟨bm, 8, none⟩ = some (.map (some G.bl)) := HR.out.mach.cell 8 rfl
          have m_room : W2.cell? ⟨bm, 0, none⟩ = some (.int .i64 G.room) := HR.out.mach.cell 0 rfl
          have e_id : W2.cell? ⟨be, 4, none⟩ = some (.int .u64 e.id) := HE.out.cell 4 rfl
          have hl := fun n => (HR.out.drewN n).lookA e.id
          have hlen := fun n => (HR.out.drewN n).len
          rw [he1] at m_ended
          simp only [ha] at hl
          clear he1 ha
          repeat (go_big_quiet_step (fail))
          refine wpQuiet_nil ?_
          intro _ hw'
          obtain ⟨nq, hw''⟩ := hw'
          subst hw''
          clear hl hlen hr' m_ended m_added m_live m_room e_id
          generalize hW1 : W2.drewN _ = W3
          replace HR := hid (show Rep B W3 bm G from hW1 ▸ HR.out.drewN _)
          replace HE := hid (show Blk W3 be 31 (evC e) from hW1 ▸ HE.out)
          replace HBW := hid (show Below be w W3 from hW1 ▸ below_drewN HBW.out _)
          replace HC := hid (show Blk W3 b 126 (clC c) from hW1 ▸ HC.out)
          clear hW1
          have hBw : B ≤ w.heap.size := Nat.le_trans hB (Nat.le_of_eq hBE.symm)
          by_cases h2 : c.bg.what = 2
          · have HW2 := hid (show decide (c.bg.what ∈ [2]) = true by simp [h2])
            cases hp : perOk c
            · have HPer := hid hp
              have HP := hid (show addM G.ma i c e = none by unfold addM; simp [RAW.out.1, RAW.out.2.1, ma_ended, ma_added, lv_len, ma_room, h2, hp])
              clear h2
              go_wp2_with (first | (go_at_call 102; have HEp := hid HE.out; refine (what_any (c := c) [2] _ _ (Reads.built_at _ [.int .i64 2] 3 1 _ (by first | omega | simp)) (by simp) (hc ▸ (HR.out.alloc _).mach.cell 9 rfl) ((HC.out.alloc _).cell 3 rfl)).mono ?_; rintro x w' ⟨hx, rfl⟩; rw [HW2.out] at hx; subst hx; generalize hW2 : World.alloc _ _ = W4; replace HR := hid (show Rep B W4 bm G from hW2 ▸ HR.out.alloc _); replace HE := hid (show Blk W4 be 31 (evC e) from hW2 ▸ HE.out.alloc _); replace HBW := hid (show Below be w W4 from hW2 ▸ (HBW.out.alloc (Nat.le_of_lt HEp.out.lt) _)); replace HC := hid (show Blk W4 b 126 (clC c) from hW2 ▸ HC.out.alloc _); clear hW2; clear HEp; have m_c : W4.cell? ⟨bm, 9, none⟩ = some (ptrV b) := hc ▸ HR.out.mach.cell 9 rfl; have e_dl : W4.cell? ⟨be, 6, none⟩ = some (.int .u64 e.dl) := HE.out.cell 6 rfl; have e_per : W4.cell? ⟨be, 7, none⟩ = some (.int .u64 e.per) := HE.out.cell 7 rfl; have c_dl : W4.cell? ⟨b, 6, none⟩ = some (.int .u64 c.bg.dl) := HC.out.cell 6 rfl; have c_per : W4.cell? ⟨b, 7, none⟩ = some (.int .u64 c.bg.per) := HC.out.cell 7 rfl) | (go_at_call 104; refine (period_any (c := c) _ (HR.out.cl _ (List.mem_of_getElem? hi)).2.2.bg (hc ▸ HR.out.mach.cell 9 rfl) (HC.out.cell 6 rfl) (HC.out.cell 7 rfl)).mono ?_; rintro x w' ⟨hx, n, rfl⟩; rw [HPer.out] at hx; subst hx; generalize hW2 : World.drewN _ _ = W4; replace HR := hid (show Rep B W4 bm G from hW2 ▸ HR.out.drewN _); replace HE := hid (show Blk W4 be 31 (evC e) from hW2 ▸ HE.out); replace HBW := hid (show Below be w W4 from hW2 ▸ below_drewN HBW.out _); replace HC := hid (show Blk W4 b 126 (clC c) from hW2 ▸ HC.out); clear hW2; have m_c : W4.cell? ⟨bm, 9, none⟩ = some (ptrV b) := hc ▸ HR.out.mach.cell 9 rfl; have e_dl : W4.cell? ⟨be, 6, none⟩ = some (.int .u64 e.dl) := HE.out.cell 6 rfl; have e_per : W4.cell? ⟨be, 7, none⟩ = some (.int .u64 e.per) := HE.out.cell 7 rfl; have c_dl : W4.cell? ⟨b, 6, none⟩ = some (.int .u64 c.bg.dl) := HC.out.cell 6 rfl; have c_per : W4.cell? ⟨b, 7, none⟩ = some (.int .u64 c.bg.per) := HC.out.cell 7 rfl))
              go_ret
              exact Ends.no rfl (HBW.out.mono hB) HP.out
            · have HPer := hid hp
              have RAW2 := hid h2
              clear h2
              by_cases hd : e.dl = c.bg.dl
              · have hd' : (e.dl != c.bg.dl) = false := by simp [hd]
                by_cases hpe : e.per = c.bg.per
                · have hpe' : (e.per != c.bg.per) = false := by simp [hpe]
                  have HP := hid (show ∀ nb, addM G.ma i c e = some (fin ({ G with added := aput G.added e.id true, lv := aput G.lv e.id (nb, ⟨e.gen, e.dl, e.per, false, false, false⟩) } : Gm).ma i e.id e.gen 0) by intro nb; rw [add_ma]; unfold addM; simp [RAW.out.1, RAW.out.2.1, RAW.out.2.2.1, ma_ended, ma_added, lv_len, ma_room, RAW2.out, hp, hd, hpe])
                  clear hd hpe
                  go_wp2_with (first | (go_at_call 102; have HEp := hid HE.out; refine (what_any (c := c) [2] _ _ (Reads.built_at _ [.int .i64 2] 3 1 _ (by first | omega | simp)) (by simp) (hc ▸ (HR.out.alloc _).mach.cell 9 rfl) ((HC.out.alloc _).cell 3 rfl)).mono ?_; rintro x w' ⟨hx, rfl⟩; rw [HW2.out] at hx; subst hx; generalize hW2 : World.alloc _ _ = W4; replace HR := hid (show Rep B W4 bm G from hW2 ▸ HR.out.alloc _); replace HE := hid (show Blk W4 be 31 (evC e) from hW2 ▸ HE.out.alloc _); replace HBW := hid (show Below be w W4 from hW2 ▸ (HBW.out.alloc (Nat.le_of_lt HEp.out.lt) _)); replace HC := hid (show Blk W4 b 126 (clC c) from hW2 ▸ HC.out.alloc _); clear hW2; clear HEp; have m_c : W4.cell? ⟨bm, 9, none⟩ = some (ptrV b) := hc ▸ HR.out.mach.cell 9 rfl; have e_dl : W4.cell? ⟨be, 6, none⟩ = some (.int .u64 e.dl) := HE.out.cell 6 rfl; have e_per : W4.cell? ⟨be, 7, none⟩ = some (.int .u64 e.per) := HE.out.cell 7 rfl; have c_dl : W4.cell? ⟨b, 6, none⟩ = some (.int .u64 c.bg.dl) := HC.out.cell 6 rfl; have c_per : W4.cell? ⟨b, 7, none⟩ = some (.int .u64 c.bg.per) := HC.out.cell 7 rfl) | (go_at_call 104; refine (period_any (c := c) _ (HR.out.cl _ (List.mem_of_getElem? hi)).2.2.bg (hc ▸ HR.out.mach.cell 9 rfl) (HC.out.cell 6 rfl) (HC.out.cell 7 rfl)).mono ?_; rintro x w' ⟨hx, n, rfl⟩; rw [HPer.out] at hx; subst hx; generalize hW2 : World.drewN _ _ = W4; replace HR := hid (show Rep B W4 bm G from hW2 ▸ HR.out.drewN _); replace HE := hid (show Blk W4 be 31 (evC e) from hW2 ▸ HE.out); replace HBW := hid (show Below be w W4 from hW2 ▸ below_drewN HBW.out _); replace HC := hid (show Blk W4 b 126 (clC c) from hW2 ▸ HC.out); clear hW2; have m_c : W4.cell? ⟨bm, 9, none⟩ = some (ptrV b) := hc ▸ HR.out.mach.cell 9 rfl; have e_dl : W4.cell? ⟨be, 6, none⟩ = some (.int .u64 e.dl) := HE.out.cell 6 rfl; have e_per : W4.cell? ⟨be, 7, none⟩ = some (.int .u64 e.per) := HE.out.cell 7 rfl; have c_dl : W4.cell? ⟨b, 6, none⟩ = some (.int .u64 c.bg.dl) := HC.out.cell 6 rfl; have c_per : W4.cell? ⟨b, 7, none⟩ = some (.int .u64 c.bg.per) := HC.out.cell 7 rfl))
                  go_quiet (fail)
                  generalize hW1 : W4.drewN _ = W5
                  replace HR := hid (show Rep B W5 bm G from hW1 ▸ HR.out.drewN _)
                  replace HE := hid (show Blk W5 be 31 (evC e) from hW1 ▸ HE.out)
                  replace HBW := hid (show Below be w W5 from hW1 ▸ below_drewN HBW.out _)
                  replace HC := hid (show Blk W5 b 126 (clC c) from hW1 ▸ HC.out)
                  clear hW1
                  have m_added : W5.cell? ⟨bm, 7, none⟩ = some (.map (some G.ba)) := HR.out.mach.cell 7 rfl
                  have e_id : W5.cell? ⟨be, 4, none⟩ = some (.int .u64 e.id) := HE.out.cell 4 rfl
                  go_wp2
                  go_still_tail 6, (by kernel_rfl)
                  refine (show wpList _ _ _ _ _ W5.drew from ?_)
                  generalize hW3 : W5.drew = WD
                  have HR3 := hid (show Rep B WD bm G from hW3 ▸ HR.out.drew)
                  have HM := hid HR3.out.added
                  have HB3 := hid (show Below B w WD from hW3 ▸ (HBW.out.mono hB).drew)
                  have HE3 := hid (show Blk WD be 31 (evC e) from hW3 ▸ HE.out.drew)
                  clear hW3
                  go_wp2_with (refine wpList_update _ rfl 100 _ _ _ rfl (keyLaw_int Try.underlying29) Try.underlying100 G.ba G.added HM.out rfl e.id rfl true rfl ?_; intro w4 hm4 hg4 hs4; have hch4 := hid (Chg.of_grown (S := (· = G.ba)) hg4 (fun k hk => (Option.some.inj hk).symm)); have HR4 := hid (HR3.out.aset hch4.out hm4); have HE4 := hid (HE3.out.chg hch4.out (HE3.out.ne_map HM.out)); have HB4 := hid (HB3.out.trans (hch4.out.below (Nat.le_trans hBw HB3.out.size) (fun k hk => hk ▸ HR3.out.base.2.2.1))); clear hm4 hg4 hs4 hch4)
                  have hBb := hid (HR4.out.cl _ (List.mem_of_getElem? hi)).2.1
                  clear HR HE HBW HC HR3 HE3 HB3 HM m_added e_id
                  have e_id : w4.cell? ⟨be, 4, none⟩ = some (.int .u64 e.id) := HE4.out.cell 4 rfl
                  have e_gen : w4.cell? ⟨be, 5, none⟩ = some (.int .u64 e.gen) := HE4.out.cell 5 rfl
                  have e_dl : w4.cell? ⟨be, 6, none⟩ = some (.int .u64 e.dl) := HE4.out.cell 6 rfl
                  have e_per : w4.cell? ⟨be, 7, none⟩ = some (.int .u64 e.per) := HE4.out.cell 7 rfl
                  have m_live : w4.cell? ⟨bm, 8, none⟩ = some (.map (some G.bl)) := HR4.out.mach.cell 8 rfl
                  have HX := hid ((HR4.out.alloc (.cells (tmC ⟨e.gen, e.dl, e.per, false, false, false⟩).toArray 151)).drew)
                  obtain ⟨w5, hr5, hm5, hg5, hs5⟩ := HX.out.live.run_update (keyLaw_int Try.underlying29) Try.underlying97 e.id (w4.heap.size, (⟨e.gen, e.dl, e.per, false, false, false⟩ : Tm))
                  replace hr5 : (Instr.mapUpdate 97 (.map (some G.bl)) (.int .u64 e.id) (ptrV w4.heap.size)).run Try.prog (w4.alloc (.cells #[.int .u64 e.gen, .int .u64 e.dl, .int .u64 e.per, .bool false, .bool false, .bool false] 151)).drew = .ok () w5 := hr5
                  have hch5 := hid (Chg.of_grown (S := (· = G.bl)) hg5 (fun k hk => (Option.some.inj hk).symm))
                  have HM5 := hid hm5
                  clear hm5 hg5 hs5
                  have hw4 := hid (Nat.le_trans hBw HB4.out.size)
                  have hblk := hid (show Blk (w4.alloc (.cells (tmC ⟨e.gen, e.dl, e.per, false, false, false⟩).toArray 151)).drew w4.heap.size 151 (tmC ⟨e.gen, e.dl, e.per, false, false, false⟩) from Blk.new w4 _ _)
                  have HR5 := hid (HX.out.lput (t := ⟨e.gen, e.dl, e.per, false, false, false⟩) (fun p hp h => absurd (h ▸ (HR4.out.tm p hp).1.lt) (Nat.lt_irrefl _)) hblk.out hw4.out ⟨he.gen, he.dl, he.per⟩ hch5.out HM5.out)
                  have HE5 := hid (((HE4.out.alloc (.cells (tmC ⟨e.gen, e.dl, e.per, false, false, false⟩).toArray 151)).drew).chg hch5.out (((HE4.out.alloc (.cells (tmC ⟨e.gen, e.dl, e.per, false, false, false⟩).toArray 151)).drew).ne_map HX.out.live))
                  have HB := hid (show Below B w w5 from ((HB4.out.alloc hw4.out _).drew).trans (hch5.out.below (Nat.le_trans hw4.out (by simp)) (fun k hk => hk ▸ HR4.out.base.2.2.2)))
                  have e_id5 : w5.cell? ⟨be, 4, none⟩ = some (.int .u64 e.id) := HE5.out.cell 4 rfl
                  have e_gen5 : w5.cell? ⟨be, 5, none⟩ = some (.int .u64 e.gen) := HE5.out.cell 5 rfl
                  have e_dl5 : w5.cell? ⟨be, 6, none⟩ = some (.int .u64 e.dl) := HE5.out.cell 6 rfl
                  have e_per5 : w5.cell? ⟨be, 7, none⟩ = some (.int .u64 e.per) := HE5.out.cell 7 rfl
                  have m_live5 : w5.cell? ⟨bm, 8, none⟩ = some (.map (some G.bl)) := HR5.out.mach.cell 8 rfl
                  clear hch5 HM5 hblk HX HR4 HB4 HE4 HE5
                  go_region_held3 (fun W => W.cell? ⟨be, 4, none⟩ = some (.int .u64 e.id) ∧ W.cell? ⟨be, 5, none⟩ = some (.int .u64 e.gen) ∧ W.cell? ⟨be, 6, none⟩ = some (.int .u64 e.dl) ∧ W.cell? ⟨be, 7, none⟩ = some (.int .u64 e.per) ∧ W.cell? ⟨bm, 8, none⟩ = some (.map (some G.bl))) (go_keep) (fail)
                  all_goals go_wp2_with (go_at_call 105; refine (finish_any B _ (G := { G with added := aput G.added e.id true, lv := aput G.lv e.id (w4.heap.size, ⟨e.gen, e.dl, e.per, false, false, false⟩) }) HR5.out hi hc (e.id) (e.gen) (0)).mono ?_; rintro x w6 ⟨rfl, hr5, hc5⟩; have HR6 := hid hr5; have HB5 := hid (HB.out.trans (hc5.below (Nat.le_trans hBw HB.out.size) (fun k hk => hk ▸ hBb.out))); clear hr5 hc5)
                  all_goals go_ret
                  all_goals exact Ends.yes rfl HB5.out (by rw [HP.out w4.heap.size, ← fin_ma (G := { G with added := aput G.added e.id true, lv := aput G.lv e.id (w4.heap.size, ⟨e.gen, e.dl, e.per, false, false, false⟩) }) hi]) HR6.out
                · have hpe' : (e.per != c.bg.per) = true := by simp [hpe]
                  have HP := hid (show addM G.ma i c e = none by unfold addM; simp [RAW.out.1, RAW.out.2.1, ma_ended, ma_added, lv_len, ma_room, RAW2.out, hp, hd, hpe])
                  clear hd hpe
                  go_wp2_with (first | (go_at_call 102; have HEp := hid HE.out; refine (what_any (c := c) [2] _ _ (Reads.built_at _ [.int .i64 2] 3 1 _ (by first | omega | simp)) (by simp) (hc ▸ (HR.out.alloc _).mach.cell 9 rfl) ((HC.out.alloc _).cell 3 rfl)).mono ?_; rintro x w' ⟨hx, rfl⟩; rw [HW2.out] at hx; subst hx; generalize hW2 : World.alloc _ _ = W4; replace HR := hid (show Rep B W4 bm G from hW2 ▸ HR.out.alloc _); replace HE := hid (show Blk W4 be 31 (evC e) from hW2 ▸ HE.out.alloc _); replace HBW := hid (show Below be w W4 from hW2 ▸ (HBW.out.alloc (Nat.le_of_lt HEp.out.lt) _)); replace HC := hid (show Blk W4 b 126 (clC c) from hW2 ▸ HC.out.alloc _); clear hW2; clear HEp; have m_c : W4.cell? ⟨bm, 9, none⟩ = some (ptrV b) := hc ▸ HR.out.mach.cell 9 rfl; have e_dl : W4.cell? ⟨be, 6, none⟩ = some (.int .u64 e.dl) := HE.out.cell 6 rfl; have e_per : W4.cell? ⟨be, 7, none⟩ = some (.int .u64 e.per) := HE.out.cell 7 rfl; have c_dl : W4.cell? ⟨b, 6, none⟩ = some (.int .u64 c.bg.dl) := HC.out.cell 6 rfl; have c_per : W4.cell? ⟨b, 7, none⟩ = some (.int .u64 c.bg.per) := HC.out.cell 7 rfl) | (go_at_call 104; refine (period_any (c := c) _ (HR.out.cl _ (List.mem_of_getElem? hi)).2.2.bg (hc ▸ HR.out.mach.cell 9 rfl) (HC.out.cell 6 rfl) (HC.out.cell 7 rfl)).mono ?_; rintro x w' ⟨hx, n, rfl⟩; rw [HPer.out] at hx; subst hx; generalize hW2 : World.drewN _ _ = W4; replace HR := hid (show Rep B W4 bm G from hW2 ▸ HR.out.drewN _); replace HE := hid (show Blk W4 be 31 (evC e) from hW2 ▸ HE.out); replace HBW := hid (show Below be w W4 from hW2 ▸ below_drewN HBW.out _); replace HC := hid (show Blk W4 b 126 (clC c) from hW2 ▸ HC.out); clear hW2; have m_c : W4.cell? ⟨bm, 9, none⟩ = some (ptrV b) := hc ▸ HR.out.mach.cell 9 rfl; have e_dl : W4.cell? ⟨be, 6, none⟩ = some (.int .u64 e.dl) := HE.out.cell 6 rfl; have e_per : W4.cell? ⟨be, 7, none⟩ = some (.int .u64 e.per) := HE.out.cell 7 rfl; have c_dl : W4.cell? ⟨b, 6, none⟩ = some (.int .u64 c.bg.dl) := HC.out.cell 6 rfl; have c_per : W4.cell? ⟨b, 7, none⟩ = some (.int .u64 c.bg.per) := HC.out.cell 7 rfl))
                  go_quiet (fail)
                  go_wp2
                  go_ret
                  exact Ends.no rfl (below_drewN (HBW.out.mono hB) _) HP.out
              · have hd' : (e.dl != c.bg.dl) = true := by simp [hd]
                have HP := hid (show addM G.ma i c e = none by unfold addM; simp [RAW.out.1, RAW.out.2.1, ma_ended, ma_added, lv_len, ma_room, RAW2.out, hp, hd])
                clear hd
                go_wp2_with (first | (go_at_call 102; have HEp := hid HE.out; refine (what_any (c := c) [2] _ _ (Reads.built_at _ [.int .i64 2] 3 1 _ (by first | omega | simp)) (by simp) (hc ▸ (HR.out.alloc _).mach.cell 9 rfl) ((HC.out.alloc _).cell 3 rfl)).mono ?_; rintro x w' ⟨hx, rfl⟩; rw [HW2.out] at hx; subst hx; generalize hW2 : World.alloc _ _ = W4; replace HR := hid (show Rep B W4 bm G from hW2 ▸ HR.out.alloc _); replace HE := hid (show Blk W4 be 31 (evC e) from hW2 ▸ HE.out.alloc _); replace HBW := hid (show Below be w W4 from hW2 ▸ (HBW.out.alloc (Nat.le_of_lt HEp.out.lt) _)); replace HC := hid (show Blk W4 b 126 (clC c) from hW2 ▸ HC.out.alloc _); clear hW2; clear HEp; have m_c : W4.cell? ⟨bm, 9, none⟩ = some (ptrV b) := hc ▸ HR.out.mach.cell 9 rfl; have e_dl : W4.cell? ⟨be, 6, none⟩ = some (.int .u64 e.dl) := HE.out.cell 6 rfl; have e_per : W4.cell? ⟨be, 7, none⟩ = some (.int .u64 e.per) := HE.out.cell 7 rfl; have c_dl : W4.cell? ⟨b, 6, none⟩ = some (.int .u64 c.bg.dl) := HC.out.cell 6 rfl; have c_per : W4.cell? ⟨b, 7, none⟩ = some (.int .u64 c.bg.per) := HC.out.cell 7 rfl) | (go_at_call 104; refine (period_any (c := c) _ (HR.out.cl _ (List.mem_of_getElem? hi)).2.2.bg (hc ▸ HR.out.mach.cell 9 rfl) (HC.out.cell 6 rfl) (HC.out.cell 7 rfl)).mono ?_; rintro x w' ⟨hx, n, rfl⟩; rw [HPer.out] at hx; subst hx; generalize hW2 : World.drewN _ _ = W4; replace HR := hid (show Rep B W4 bm G from hW2 ▸ HR.out.drewN _); replace HE := hid (show Blk W4 be 31 (evC e) from hW2 ▸ HE.out); replace HBW := hid (show Below be w W4 from hW2 ▸ below_drewN HBW.out _); replace HC := hid (show Blk W4 b 126 (clC c) from hW2 ▸ HC.out); clear hW2; have m_c : W4.cell? ⟨bm, 9, none⟩ = some (ptrV b) := hc ▸ HR.out.mach.cell 9 rfl; have e_dl : W4.cell? ⟨be, 6, none⟩ = some (.int .u64 e.dl) := HE.out.cell 6 rfl; have e_per : W4.cell? ⟨be, 7, none⟩ = some (.int .u64 e.per) := HE.out.cell 7 rfl; have c_dl : W4.cell? ⟨b, 6, none⟩ = some (.int .u64 c.bg.dl) := HC.out.cell 6 rfl; have c_per : W4.cell? ⟨b, 7, none⟩ = some (.int .u64 c.bg.per) := HC.out.cell 7 rfl))
                go_quiet (fail)
                go_wp2
                go_ret
                exact Ends.no rfl (below_drewN (HBW.out.mono hB) _) HP.out
          · have HW2 := hid (show decide (c.bg.what ∈ [2]) = false by simp [h2])
            have h3 : c.bg.what = 1 := RAW.out.2.2.2.resolve_right h2
            have RAW2 := hid h3
            clear h2 h3
            by_cases hd : e.dl = c.bg.dl
            · have hd' : (e.dl != c.bg.dl) = false := by simp [hd]
              by_cases hpe : e.per = 0
              · have hpe' : (e.per != 0) = false := by simp [hpe]
                have HP := hid (show ∀ nb, addM G.ma i c e = some (fin ({ G with added := aput G.added e.id true, lv := aput G.lv e.id (nb, ⟨e.gen, e.dl, e.per, false, false, false⟩) } : Gm).ma i e.id e.gen 0) by intro nb; rw [add_ma]; unfold addM; simp [RAW.out.1, RAW.out.2.1, RAW.out.2.2.1, ma_ended, ma_added, lv_len, ma_room, RAW2.out, hd, hpe])
                clear hd hpe
                go_wp2_with (first | (go_at_call 102; have HEp := hid HE.out; refine (what_any (c := c) [2] _ _ (Reads.built_at _ [.int .i64 2] 3 1 _ (by first | omega | simp)) (by simp) (hc ▸ (HR.out.alloc _).mach.cell 9 rfl) ((HC.out.alloc _).cell 3 rfl)).mono ?_; rintro x w' ⟨hx, rfl⟩; rw [HW2.out] at hx; subst hx; generalize hW2 : World.alloc _ _ = W4; replace HR := hid (show Rep B W4 bm G from hW2 ▸ HR.out.alloc _); replace HE := hid (show Blk W4 be 31 (evC e) from hW2 ▸ HE.out.alloc _); replace HBW := hid (show Below be w W4 from hW2 ▸ (HBW.out.alloc (Nat.le_of_lt HEp.out.lt) _)); replace HC := hid (show Blk W4 b 126 (clC c) from hW2 ▸ HC.out.alloc _); clear hW2; clear HEp; have m_c : W4.cell? ⟨bm, 9, none⟩ = some (ptrV b) := hc ▸ HR.out.mach.cell 9 rfl; have e_dl : W4.cell? ⟨be, 6, none⟩ = some (.int .u64 e.dl) := HE.out.cell 6 rfl; have e_per : W4.cell? ⟨be, 7, none⟩ = some (.int .u64 e.per) := HE.out.cell 7 rfl; have c_dl : W4.cell? ⟨b, 6, none⟩ = some (.int .u64 c.bg.dl) := HC.out.cell 6 rfl; have c_per : W4.cell? ⟨b, 7, none⟩ = some (.int .u64 c.bg.per) := HC.out.cell 7 rfl))
                go_quiet (fail)
                generalize hW1 : W4.drewN _ = W5
                replace HR := hid (show Rep B W5 bm G from hW1 ▸ HR.out.drewN _)
                replace HE := hid (show Blk W5 be 31 (evC e) from hW1 ▸ HE.out)
                replace HBW := hid (show Below be w W5 from hW1 ▸ below_drewN HBW.out _)
                replace HC := hid (show Blk W5 b 126 (clC c) from hW1 ▸ HC.out)
                clear hW1
                have m_added : W5.cell? ⟨bm, 7, none⟩ = some (.map (some G.ba)) := HR.out.mach.cell 7 rfl
                have e_id : W5.cell? ⟨be, 4, none⟩ = some (.int .u64 e.id) := HE.out.cell 4 rfl
                go_wp2
                go_still_tail 6, (by kernel_rfl)
                refine (show wpList _ _ _ _ _ W5.drew from ?_)
                generalize hW3 : W5.drew = WD
                have HR3 := hid (show Rep B WD bm G from hW3 ▸ HR.out.drew)
                have HM := hid HR3.out.added
                have HB3 := hid (show Below B w WD from hW3 ▸ (HBW.out.mono hB).drew)
                have HE3 := hid (show Blk WD be 31 (evC e) from hW3 ▸ HE.out.drew)
                clear hW3
                go_wp2_with (refine wpList_update _ rfl 100 _ _ _ rfl (keyLaw_int Try.underlying29) Try.underlying100 G.ba G.added HM.out rfl e.id rfl true rfl ?_; intro w4 hm4 hg4 hs4; have hch4 := hid (Chg.of_grown (S := (· = G.ba)) hg4 (fun k hk => (Option.some.inj hk).symm)); have HR4 := hid (HR3.out.aset hch4.out hm4); have HE4 := hid (HE3.out.chg hch4.out (HE3.out.ne_map HM.out)); have HB4 := hid (HB3.out.trans (hch4.out.below (Nat.le_trans hBw HB3.out.size) (fun k hk => hk ▸ HR3.out.base.2.2.1))); clear hm4 hg4 hs4 hch4)
                have hBb := hid (HR4.out.cl _ (List.mem_of_getElem? hi)).2.1
                clear HR HE HBW HC HR3 HE3 HB3 HM m_added e_id
                have e_id : w4.cell? ⟨be, 4, none⟩ = some (.int .u64 e.id) := HE4.out.cell 4 rfl
                have e_gen : w4.cell? ⟨be, 5, none⟩ = some (.int .u64 e.gen) := HE4.out.cell 5 rfl
                have e_dl : w4.cell? ⟨be, 6, none⟩ = some (.int .u64 e.dl) := HE4.out.cell 6 rfl
                have e_per : w4.cell? ⟨be, 7, none⟩ = some (.int .u64 e.per) := HE4.out.cell 7 rfl
                have m_live : w4.cell? ⟨bm, 8, none⟩ = some (.map (some G.bl)) := HR4.out.mach.cell 8 rfl
                have HX := hid ((HR4.out.alloc (.cells (tmC ⟨e.gen, e.dl, e.per, false, false, false⟩).toArray 151)).drew)
                obtain ⟨w5, hr5, hm5, hg5, hs5⟩ := HX.out.live.run_update (keyLaw_int Try.underlying29) Try.underlying97 e.id (w4.heap.size, (⟨e.gen, e.dl, e.per, false, false, false⟩ : Tm))
                replace hr5 : (Instr.mapUpdate 97 (.map (some G.bl)) (.int .u64 e.id) (ptrV w4.heap.size)).run Try.prog (w4.alloc (.cells #[.int .u64 e.gen, .int .u64 e.dl, .int .u64 e.per, .bool false, .bool false, .bool false] 151)).drew = .ok () w5 := hr5
                have hch5 := hid (Chg.of_grown (S := (· = G.bl)) hg5 (fun k hk => (Option.some.inj hk).symm))
                have HM5 := hid hm5
                clear hm5 hg5 hs5
                have hw4 := hid (Nat.le_trans hBw HB4.out.size)
                have hblk := hid (show Blk (w4.alloc (.cells (tmC ⟨e.gen, e.dl, e.per, false, false, false⟩).toArray 151)).drew w4.heap.size 151 (tmC ⟨e.gen, e.dl, e.per, false, false, false⟩) from Blk.new w4 _ _)
                have HR5 := hid (HX.out.lput (t := ⟨e.gen, e.dl, e.per, false, false, false⟩) (fun p hp h => absurd (h ▸ (HR4.out.tm p hp).1.lt) (Nat.lt_irrefl _)) hblk.out hw4.out ⟨he.gen, he.dl, he.per⟩ hch5.out HM5.out)
                have HE5 := hid (((HE4.out.alloc (.cells (tmC ⟨e.gen, e.dl, e.per, false, false, false⟩).toArray 151)).drew).chg hch5.out (((HE4.out.alloc (.cells (tmC ⟨e.gen, e.dl, e.per, false, false, false⟩).toArray 151)).drew).ne_map HX.out.live))
                have HB := hid (show Below B w w5 from ((HB4.out.alloc hw4.out _).drew).trans (hch5.out.below (Nat.le_trans hw4.out (by simp)) (fun k hk => hk ▸ HR4.out.base.2.2.2)))
                have e_id5 : w5.cell? ⟨be, 4, none⟩ = some (.int .u64 e.id) := HE5.out.cell 4 rfl
                have e_gen5 : w5.cell? ⟨be, 5, none⟩ = some (.int .u64 e.gen) := HE5.out.cell 5 rfl
                have e_dl5 : w5.cell? ⟨be, 6, none⟩ = some (.int .u64 e.dl) := HE5.out.cell 6 rfl
                have e_per5 : w5.cell? ⟨be, 7, none⟩ = some (.int .u64 e.per) := HE5.out.cell 7 rfl
                have m_live5 : w5.cell? ⟨bm, 8, none⟩ = some (.map (some G.bl)) := HR5.out.mach.cell 8 rfl
                clear hch5 HM5 hblk HX HR4 HB4 HE4 HE5
                go_region_held3 (fun W => W.cell? ⟨be, 4, none⟩ = some (.int .u64 e.id) ∧ W.cell? ⟨be, 5, none⟩ = some (.int .u64 e.gen) ∧ W.cell? ⟨be, 6, none⟩ = some (.int .u64 e.dl) ∧ W.cell? ⟨be, 7, none⟩ = some (.int .u64 e.per) ∧ W.cell? ⟨bm, 8, none⟩ = some (.map (some G.bl))) (go_keep) (fail)
                all_goals go_wp2_with (go_at_call 105; refine (finish_any B _ (G := { G with added := aput G.added e.id true, lv := aput G.lv e.id (w4.heap.size, ⟨e.gen, e.dl, e.per, false, false, false⟩) }) HR5.out hi hc (e.id) (e.gen) (0)).mono ?_; rintro x w6 ⟨rfl, hr5, hc5⟩; have HR6 := hid hr5; have HB5 := hid (HB.out.trans (hc5.below (Nat.le_trans hBw HB.out.size) (fun k hk => hk ▸ hBb.out))); clear hr5 hc5)
                all_goals go_ret
                all_goals exact Ends.yes rfl HB5.out (by rw [HP.out w4.heap.size, ← fin_ma (G := { G with added := aput G.added e.id true, lv := aput G.lv e.id (w4.heap.size, ⟨e.gen, e.dl, e.per, false, false, false⟩) }) hi]) HR6.out
              · have hpe' : (e.per != 0) = true := by simp [hpe]
                have HP := hid (show addM G.ma i c e = none by unfold addM; simp [RAW.out.1, RAW.out.2.1, ma_ended, ma_added, lv_len, ma_room, RAW2.out, hd, hpe])
                clear hd hpe
                go_wp2_with (first | (go_at_call 102; have HEp := hid HE.out; refine (what_any (c := c) [2] _ _ (Reads.built_at _ [.int .i64 2] 3 1 _ (by first | omega | simp)) (by simp) (hc ▸ (HR.out.alloc _).mach.cell 9 rfl) ((HC.out.alloc _).cell 3 rfl)).mono ?_; rintro x w' ⟨hx, rfl⟩; rw [HW2.out] at hx; subst hx; generalize hW2 : World.alloc _ _ = W4; replace HR := hid (show Rep B W4 bm G from hW2 ▸ HR.out.alloc _); replace HE := hid (show Blk W4 be 31 (evC e) from hW2 ▸ HE.out.alloc _); replace HBW := hid (show Below be w W4 from hW2 ▸ (HBW.out.alloc (Nat.le_of_lt HEp.out.lt) _)); replace HC := hid (show Blk W4 b 126 (clC c) from hW2 ▸ HC.out.alloc _); clear hW2; clear HEp; have m_c : W4.cell? ⟨bm, 9, none⟩ = some (ptrV b) := hc ▸ HR.out.mach.cell 9 rfl; have e_dl : W4.cell? ⟨be, 6, none⟩ = some (.int .u64 e.dl) := HE.out.cell 6 rfl; have e_per : W4.cell? ⟨be, 7, none⟩ = some (.int .u64 e.per) := HE.out.cell 7 rfl; have c_dl : W4.cell? ⟨b, 6, none⟩ = some (.int .u64 c.bg.dl) := HC.out.cell 6 rfl; have c_per : W4.cell? ⟨b, 7, none⟩ = some (.int .u64 c.bg.per) := HC.out.cell 7 rfl))
                go_quiet (fail)
                go_wp2
                go_ret
                exact Ends.no rfl (below_drewN (HBW.out.mono hB) _) HP.out
            · have hd' : (e.dl != c.bg.dl) = true := by simp [hd]
              have HP := hid (show addM G.ma i c e = none by unfold addM; simp [RAW.out.1, RAW.out.2.1, ma_ended, ma_added, lv_len, ma_room, RAW2.out, hd])
              clear hd
              go_wp2_with (first | (go_at_call 102; have HEp := hid HE.out; refine (what_any (c := c) [2] _ _ (Reads.built_at _ [.int .i64 2] 3 1 _ (by first | omega | simp)) (by simp) (hc ▸ (HR.out.alloc _).mach.cell 9 rfl) ((HC.out.alloc _).cell 3 rfl)).mono ?_; rintro x w' ⟨hx, rfl⟩; rw [HW2.out] at hx; subst hx; generalize hW2 : World.alloc _ _ = W4; replace HR := hid (show Rep B W4 bm G from hW2 ▸ HR.out.alloc _); replace HE := hid (show Blk W4 be 31 (evC e) from hW2 ▸ HE.out.alloc _); replace HBW := hid (show Below be w W4 from hW2 ▸ (HBW.out.alloc (Nat.le_of_lt HEp.out.lt) _)); replace HC := hid (show Blk W4 b 126 (clC c) from hW2 ▸ HC.out.alloc _); clear hW2; clear HEp; have m_c : W4.cell? ⟨bm, 9, none⟩ = some (ptrV b) := hc ▸ HR.out.mach.cell 9 rfl; have e_dl : W4.cell? ⟨be, 6, none⟩ = some (.int .u64 e.dl) := HE.out.cell 6 rfl; have e_per : W4.cell? ⟨be, 7, none⟩ = some (.int .u64 e.per) := HE.out.cell 7 rfl; have c_dl : W4.cell? ⟨b, 6, none⟩ = some (.int .u64 c.bg.dl) := HC.out.cell 6 rfl; have c_per : W4.cell? ⟨b, 7, none⟩ = some (.int .u64 c.bg.per) := HC.out.cell 7 rfl))
              go_quiet (fail)
              go_wp2
              go_ret
              exact Ends.no rfl (below_drewN (HBW.out.mono hB) _) HP.out
        · have hr' : decide (G.room ≤ (G.lv.length : Int)) = true := decide_eq_true (by omega)
          have HP := hid (show addM G.ma i c e = none by unfold addM; rcases hw with h | h <;> simp [h, he1, ha, Int.not_lt.1 hr, ma_ended, ma_added, lv_len, ma_room])
          clear hw
          clear hr
          have HE0 := hid HE.out
          refine wp_region_any (by kernel_rfl) ?_
          show wpAny _ _ _ _ 32 _ _ W.drew
          refine wpAny_take (i := 0) (v := ptrV bm) rfl (by kernel_rfl) (by kernel_rfl) (by kernel_rfl) (fun _ _ _ h => h) (Or.inl ⟨by rfl, fun w => by go_simp⟩) ?_
          refine wpAny_step (k := 1) (by kernel_rfl) rfl (fun K hK => ?_)
          go_simp
          refine hK.out _ _ ?_
          clear hK K
          refine wpAny_step (k := 2) (by kernel_rfl) rfl (fun K hK => ?_)
          go_simp
          refine (what_any (c := c) [1, 2] _ _ (Reads.built_at _ [.int .i64 1, .int .i64 2] 3 2 _ (by simp)) (by simp) (hc ▸ (HR.out.drew.alloc _).mach.cell 9 rfl) ((HC.out.drew.alloc _).cell 3 rfl)).mono ?_
          rintro x w' ⟨hx, rfl⟩
          rw [HW.out] at hx
          subst hx
          refine hK.out _ _ ?_
          clear hK K
          refine wpAny_quiet_rest (k := 3) _ (by kernel_rfl) (by kernel_rfl) rfl (by kernel_rfl) ?_
          simp only [List.drop_succ_cons, List.drop_zero]
          generalize hW2 : W.drew.alloc _ = W2
          replace HR := hid (show Rep B W2 bm G from hW2 ▸ HR.out.drew.alloc _)
          replace HE := hid (show Blk W2 be 31 (evC e) from hW2 ▸ HE.out.drew.alloc _)
          replace HBW := hid (show Below be w W2 from hW2 ▸ (HBW.out.drew.alloc (Nat.le_trans (Nat.le_of_lt HE0.out.lt) (by simp)) _))
          replace HC := hid (show Blk W2 b 126 (clC c) from hW2 ▸ HC.out.drew.alloc _)
          clear hW2 HE0
          have m_ended : W2.cell? ⟨bm, 3, none⟩ = some (.bool G.ended) := HR.out.mach.cell 3 rfl
          have m_added : W2.cell? ⟨bm, 7, none⟩ = some (.map (some G.ba)) := HR.out.mach.cell 7 rfl
          have m_live : W2.cell? ⟨bm, 8, none⟩ = some (.map (some G.bl)) := HR.out.mach.cell 8 rfl
          have m_room : W2.cell? ⟨bm, 0, none⟩ = some (.int .i64 G.room) := HR.out.mach.cell 0 rfl
          have e_id : W2.cell? ⟨be, 4, none⟩ = some (.int .u64 e.id) := HE.out.cell 4 rfl
          have hl := fun n => (HR.out.drewN n).lookA e.id
          have hlen := fun n => (HR.out.drewN n).len
          rw [he1] at m_ended
          simp only [ha] at hl
          repeat (go_big_quiet_step (fail))
          refine wpQuiet_nil ?_
          intro _ hw'
          obtain ⟨nq, hw''⟩ := hw'
          subst hw''
          go_wp2
          go_ret
          exact Ends.no rfl (below_drewN (HBW.out.mono hB) _) HP.out
      · have HP := hid (show addM G.ma i c e = none by unfold addM; rcases hw with h | h <;> simp [h, he1, ha, ma_ended, ma_added, lv_len, ma_room])
        clear hw
        have HE0 := hid HE.out
        refine wp_region_any (by kernel_rfl) ?_
        show wpAny _ _ _ _ 32 _ _ W.drew
        refine wpAny_take (i := 0) (v := ptrV bm) rfl (by kernel_rfl) (by kernel_rfl) (by kernel_rfl) (fun _ _ _ h => h) (Or.inl ⟨by rfl, fun w => by go_simp⟩) ?_
        refine wpAny_step (k := 1) (by kernel_rfl) rfl (fun K hK => ?_)
        go_simp
        refine hK.out _ _ ?_
        clear hK K
        refine wpAny_step (k := 2) (by kernel_rfl) rfl (fun K hK => ?_)
        go_simp
        refine (what_any (c := c) [1, 2] _ _ (Reads.built_at _ [.int .i64 1, .int .i64 2] 3 2 _ (by simp)) (by simp) (hc ▸ (HR.out.drew.alloc _).mach.cell 9 rfl) ((HC.out.drew.alloc _).cell 3 rfl)).mono ?_
        rintro x w' ⟨hx, rfl⟩
        rw [HW.out] at hx
        subst hx
        refine hK.out _ _ ?_
        clear hK K
        refine wpAny_quiet_rest (k := 3) _ (by kernel_rfl) (by kernel_rfl) rfl (by kernel_rfl) ?_
        simp only [List.drop_succ_cons, List.drop_zero]
        generalize hW2 : W.drew.alloc _ = W2
        replace HR := hid (show Rep B W2 bm G from hW2 ▸ HR.out.drew.alloc _)
        replace HE := hid (show Blk W2 be 31 (evC e) from hW2 ▸ HE.out.drew.alloc _)
        replace HBW := hid (show Below be w W2 from hW2 ▸ (HBW.out.drew.alloc (Nat.le_trans (Nat.le_of_lt HE0.out.lt) (by simp)) _))
        replace HC := hid (show Blk W2 b 126 (clC c) from hW2 ▸ HC.out.drew.alloc _)
        clear hW2 HE0
        have m_ended : W2.cell? ⟨bm, 3, none⟩ = some (.bool G.ended) := HR.out.mach.cell 3 rfl
        have m_added : W2.cell? ⟨bm, 7, none⟩ = some (.map (some G.ba)) := HR.out.mach.cell 7 rfl
        have m_live : W2.cell? ⟨bm, 8, none⟩ = some (.map (some G.bl)) := HR.out.mach.cell 8 rfl
        have m_room : W2.cell? ⟨bm, 0, none⟩ = some (.int .i64 G.room) := HR.out.mach.cell 0 rfl
        have e_id : W2.cell? ⟨be, 4, none⟩ = some (.int .u64 e.id) := HE.out.cell 4 rfl
        have hl := fun n => (HR.out.drewN n).lookA e.id
        have hlen := fun n => (HR.out.drewN n).len
        rw [he1] at m_ended
        simp only [ha] at hl
        repeat (go_big_quiet_step (fail))
        refine wpQuiet_nil ?_
        intro _ hw'
        obtain ⟨nq, hw''⟩ := hw'
        subst hw''
        go_wp2
        go_ret
        exact Ends.no rfl (below_drewN (HBW.out.mono hB) _) HP.out
    · have HP := hid (show addM G.ma i c e = none by unfold addM; rcases hw with h | h <;> simp [h, he1, ma_ended, ma_added, lv_len, ma_room])
      clear hw
      have HE0 := hid HE.out
      refine wp_region_any (by kernel_rfl) ?_
      show wpAny _ _ _ _ 32 _ _ W.drew
      refine wpAny_take (i := 0) (v := ptrV bm) rfl (by kernel_rfl) (by kernel_rfl) (by kernel_rfl) (fun _ _ _ h => h) (Or.inl ⟨by rfl, fun w => by go_simp⟩) ?_
      refine wpAny_step (k := 1) (by kernel_rfl) rfl (fun K hK => ?_)
      go_simp
      refine hK.out _ _ ?_
      clear hK K
      refine wpAny_step (k := 2) (by kernel_rfl) rfl (fun K hK => ?_)
      go_simp
      refine (what_any (c := c) [1, 2] _ _ (Reads.built_at _ [.int .i64 1, .int .i64 2] 3 2 _ (by simp)) (by simp) (hc ▸ (HR.out.drew.alloc _).mach.cell 9 rfl) ((HC.out.drew.alloc _).cell 3 rfl)).mono ?_
      rintro x w' ⟨hx, rfl⟩
      rw [HW.out] at hx
      subst hx
      refine hK.out _ _ ?_
      clear hK K
      refine wpAny_quiet_rest (k := 3) _ (by kernel_rfl) (by kernel_rfl) rfl (by kernel_rfl) ?_
      simp only [List.drop_succ_cons, List.drop_zero]
      generalize hW2 : W.drew.alloc _ = W2
      replace HR := hid (show Rep B W2 bm G from hW2 ▸ HR.out.drew.alloc _)
      replace HE := hid (show Blk W2 be 31 (evC e) from hW2 ▸ HE.out.drew.alloc _)
      replace HBW := hid (show Below be w W2 from hW2 ▸ (HBW.out.drew.alloc (Nat.le_trans (Nat.le_of_lt HE0.out.lt) (by simp)) _))
      replace HC := hid (show Blk W2 b 126 (clC c) from hW2 ▸ HC.out.drew.alloc _)
      clear hW2 HE0
      have m_ended : W2.cell? ⟨bm, 3, none⟩ = some (.bool G.ended) := HR.out.mach.cell 3 rfl
      have m_added : W2.cell? ⟨bm, 7, none⟩ = some (.map (some G.ba)) := HR.out.mach.cell 7 rfl
      have m_live : W2.cell? ⟨bm, 8, none⟩ = some (.map (some G.bl)) := HR.out.mach.cell 8 rfl
      have m_room : W2.cell? ⟨bm, 0, none⟩ = some (.int .i64 G.room) := HR.out.mach.cell 0 rfl
      have e_id : W2.cell? ⟨be, 4, none⟩ = some (.int .u64 e.id) := HE.out.cell 4 rfl
      have hl := fun n => (HR.out.drewN n).lookA e.id
      have hlen := fun n => (HR.out.drewN n).len
      rw [he1] at m_ended
      repeat (go_big_quiet_step (fail))
      refine wpQuiet_nil ?_
      intro _ hw'
      obtain ⟨nq, hw''⟩ := hw'
      subst hw''
      go_wp2
      go_ret
      exact Ends.no rfl (below_drewN (HBW.out.mono hB) _) HP.out
  · have HW := hid (show decide (c.bg.what ∈ [1, 2]) = false by simp at hw ⊢; exact hw)
    have HP := hid (show addM G.ma i c e = none by unfold addM; simp only [not_or] at hw; simp [hw.1, hw.2])
    clear hw
    have HE0 := hid HE.out
    refine wp_region_any (by kernel_rfl) ?_
    show wpAny _ _ _ _ 32 _ _ W.drew
    refine wpAny_take (i := 0) (v := ptrV bm) rfl (by kernel_rfl) (by kernel_rfl) (by kernel_rfl) (fun _ _ _ h => h) (Or.inl ⟨by rfl, fun w => by go_simp⟩) ?_
    refine wpAny_step (k := 1) (by kernel_rfl) rfl (fun K hK => ?_)
    go_simp
    refine hK.out _ _ ?_
    clear hK K
    refine wpAny_step (k := 2) (by kernel_rfl) rfl (fun K hK => ?_)
    go_simp
    refine (what_any (c := c) [1, 2] _ _ (Reads.built_at _ [.int .i64 1, .int .i64 2] 3 2 _ (by simp)) (by simp) (hc ▸ (HR.out.drew.alloc _).mach.cell 9 rfl) ((HC.out.drew.alloc _).cell 3 rfl)).mono ?_
    rintro x w' ⟨hx, rfl⟩
    rw [HW.out] at hx
    subst hx
    refine hK.out _ _ ?_
    clear hK K
    refine wpAny_quiet_rest (k := 3) _ (by kernel_rfl) (by kernel_rfl) rfl (by kernel_rfl) ?_
    simp only [List.drop_succ_cons, List.drop_zero]
    generalize hW2 : W.drew.alloc _ = W2
    replace HR := hid (show Rep B W2 bm G from hW2 ▸ HR.out.drew.alloc _)
    replace HE := hid (show Blk W2 be 31 (evC e) from hW2 ▸ HE.out.drew.alloc _)
    replace HBW := hid (show Below be w W2 from hW2 ▸ (HBW.out.drew.alloc (Nat.le_trans (Nat.le_of_lt HE0.out.lt) (by simp)) _))
    replace HC := hid (show Blk W2 b 126 (clC c) from hW2 ▸ HC.out.drew.alloc _)
    clear hW2 HE0
    have m_ended : W2.cell? ⟨bm, 3, none⟩ = some (.bool G.ended) := HR.out.mach.cell 3 rfl
    have m_added : W2.cell? ⟨bm, 7, none⟩ = some (.map (some G.ba)) := HR.out.mach.cell 7 rfl
    have m_live : W2.cell? ⟨bm, 8, none⟩ = some (.map (some G.bl)) := HR.out.mach.cell 8 rfl
    have m_room : W2.cell? ⟨bm, 0, none⟩ = some (.int .i64 G.room) := HR.out.mach.cell 0 rfl
    have e_id : W2.cell? ⟨be, 4, none⟩ = some (.int .u64 e.id) := HE.out.cell 4 rfl
    have hl := fun n => (HR.out.drewN n).lookA e.id
    have hlen := fun n => (HR.out.drewN n).len
    repeat (go_big_quiet_step (fail))
    refine wpQuiet_nil ?_
    intro _ hw'
    obtain ⟨nq, hw''⟩ := hw'
    subst hw''
    go_wp2
    go_ret
    exact Ends.no rfl (below_drewN (HBW.out.mono hB) _) HP.out
end Go.Proofs.Ytpnkkdpggofanaa

namespace Go.Proofs.Ytpnkkdpggofanaa
open Go.RowKit

set_option maxRecDepth 20000 in
set_option maxHeartbeats 8000000 in
theorem begin_any (B : Nat) (w : World) {bm : Nat} {G : Gm} (h : Rep B w bm G) (hB : B ≤ w.heap.size) (hn : G.cs.length ≤ 1000000) (e : Ev) (he : e.wf) :
    Calls Try.prog 63 #[ptrV bm, evV e] w fun x w' => Ends B bm w (beginM G.ma e) x w' := by
  go_enter Try.func63, Try.ntmps63
  go_wp2
  generalize hW : w.alloc _ = W
  obtain ⟨hR, hE, hBW, hsz⟩ := h.boxed e hW
  clear hW h
  generalize hBE : w.heap.size = be at *
  have HR := hid hR
  have HE := hid hE
  have HBW := hid hBW
  clear hR hE hBW
  clear hsz
  obtain ⟨bo, cap, hvc⟩ := owns_shape HR.out.calls
  have HVC := hid hvc
  have m_open : W.cell? ⟨bm, 6, none⟩ = some (.map (some G.bo)) := HR.out.mach.cell 6 rfl
  have e_thr : W.cell? ⟨be, 1, none⟩ = some (.int .i64 e.thr) := HE.out.cell 1 rfl
  have e_call : W.cell? ⟨be, 2, none⟩ = some (.int .i64 e.call) := HE.out.cell 2 rfl
  have e_what : W.cell? ⟨be, 3, none⟩ = some (.int .i64 e.what) := HE.out.cell 3 rfl
  have m_calls : W.cell? ⟨bm, 5, none⟩ = some (.slice bo G.cs.length cap) := hvc ▸ HR.out.mach.cell 5 rfl
  have hl := fun n => (HR.out.drewN n).lookO e.thr
  clear hvc
  have hb1 : Int.bmod ((G.cs.length : Int) + 1) 18446744073709551616 = (G.cs.length : Int) + 1 := Int.bmod_eq_of_le (by omega) (by omega)
  by_cases hc : e.call = (G.cs.length : Int) + 1
  · have hc' : (e.call != (G.cs.length : Int) + 1) = false := by simp [hc]
    cases ho : hasK G.opn e.thr
    · by_cases h1 : 1 ≤ e.what
      · have h1' : decide (e.what < 1) = false := decide_eq_false (by omega)
        by_cases h7 : e.what ≤ 7
        · have h7' : decide (7 < e.what) = false := decide_eq_false (by omega)
          have HP := hid (show ∀ b v, beginM G.ma e = some ({ G with vc := v, cs := G.cs ++ [(b, (⟨e, true, false, 0, 0, 0⟩ : Cl))], opn := aput G.opn e.thr true } : Gm).ma by intro b v; unfold beginM; simp [hc, ho, Int.not_lt.2 h1, Int.not_lt.2 h7, Gm.ma])
          clear hc h1 h7
          simp only [ho] at hl
          go_quiet (fail)
          clear hl m_calls m_open e_thr e_call e_what
          generalize hW1 : W.drewN _ = W1
          replace HR := hid (show Rep B W1 bm G from hW1 ▸ HR.out.drewN _)
          replace HE := hid (show Blk W1 be 31 (evC e) from hW1 ▸ HE.out)
          replace HBW := hid (show Below be w W1 from hW1 ▸ below_drewN HBW.out _)
          clear hW1
          have e_kind : W1.cell? ⟨be, 0, none⟩ = some (.int .i64 e.kind) := HE.out.cell 0 rfl
          have e_thr : W1.cell? ⟨be, 1, none⟩ = some (.int .i64 e.thr) := HE.out.cell 1 rfl
          have e_call : W1.cell? ⟨be, 2, none⟩ = some (.int .i64 e.call) := HE.out.cell 2 rfl
          have e_what : W1.cell? ⟨be, 3, none⟩ = some (.int .i64 e.what) := HE.out.cell 3 rfl
          have e_id : W1.cell? ⟨be, 4, none⟩ = some (.int .u64 e.id) := HE.out.cell 4 rfl
          have e_gen : W1.cell? ⟨be, 5, none⟩ = some (.int .u64 e.gen) := HE.out.cell 5 rfl
          have e_dl : W1.cell? ⟨be, 6, none⟩ = some (.int .u64 e.dl) := HE.out.cell 6 rfl
          have e_per : W1.cell? ⟨be, 7, none⟩ = some (.int .u64 e.per) := HE.out.cell 7 rfl
          have e_tk : W1.cell? ⟨be, 8, none⟩ = some (.int .u64 e.tk) := HE.out.cell 8 rfl
          have e_err : W1.cell? ⟨be, 9, none⟩ = some (.int .i64 e.err) := HE.out.cell 9 rfl
          have m_calls : W1.cell? ⟨bm, 5, none⟩ = some G.vc := HR.out.mach.cell 5 rfl
          have m_callsA : ∀ o, (W1.alloc o).cell? ⟨bm, 5, none⟩ = some G.vc := fun o => (HR.out.alloc o).mach.cell 5 rfl
          have m_callsB : ∀ o o', ((W1.alloc o).alloc o').cell? ⟨bm, 5, none⟩ = some G.vc := fun o o' => ((HR.out.alloc o).alloc o').mach.cell 5 rfl
          have hBw : B ≤ w.heap.size := Nat.le_trans hB (Nat.le_of_eq hBE.symm)
          have hW1 := hid (Nat.le_trans hBw HBW.out.size)
          have HX := hid (((HR.out.alloc (.cells (clC ⟨e, true, false, 0, 0, 0⟩).toArray 126)).alloc (.cells #[ptrV W1.heap.size] 101)).drew)
          obtain ⟨i0, hi, hz0, hz1, hz2⟩ := info_parts callp_info
          obtain ⟨v5, w5, hr5, hown5, hg5, hv5, _⟩ := run_append_own_at (P := Try.prog) _ B 99 99 101 i0 _ 1 8 Try.underlying99 hi hz0 hz1 hz2 rfl (by decide) _ _ _ HX.out.calls ⟨W1.heap.size + 1, 0, none⟩ 1 1 [ptrV W1.heap.size] rfl (fun j u hu => by have := cell_one_new (W1.alloc (.cells (clC ⟨e, true, false, 0, 0, 0⟩).toArray 126)) (ptrV W1.heap.size) 101 j u hu; simpa using this) (by intro u hu; simp at hu; subst hu; rfl) (by unfold maxLen; omega) (by omega) (Nat.le_trans hW1.out (by simp; omega))
          obtain ⟨bo5, cap5, hsh⟩ := owns_shape hown5
          subst hsh
          replace hr5 : (Builtin.append_ #[99, 99] 99 #[G.vc, .slice (some ⟨W1.heap.size + 1, 0, none⟩) 1 1]).run Try.prog ((W1.alloc (.cells #[.int .i64 e.kind, .int .i64 e.thr, .int .i64 e.call, .int .i64 e.what, .int .u64 e.id, .int .u64 e.gen, .int .u64 e.dl, .int .u64 e.per, .int .u64 e.tk, .int .i64 e.err, .bool true, .bool false, .int .u64 0, .int .u64 0, .int .i64 0] 126)).alloc (.cells #[ptrV W1.heap.size] 101)).drew = .ok (.slice bo5 (G.cs.length + 1) cap5) w5 := hr5
          have HG5 := hid hg5
          have hcm := HR.out.came hW1.out (c := ⟨e, true, false, 0, 0, 0⟩) ⟨he⟩ hown5 hg5
          have HR6 := hid hcm.1
          have HC6 := hid hcm.2
          have hg5c := hid (Chg.of_grown (S := fun k => G.vc.ownBlock = some k) hg5 (fun k hk => hk))
          have HE5 := hid (((HE.out.alloc (.cells (clC ⟨e, true, false, 0, 0, 0⟩).toArray 126)).alloc (.cells #[ptrV W1.heap.size] 101)).drew.chg hg5c.out (((HE.out.alloc (.cells (clC ⟨e, true, false, 0, 0, 0⟩).toArray 126)).alloc (.cells #[ptrV W1.heap.size] 101)).drew.ne_row HX.out.calls (by decide)))
          have HM5 := hid (HX.out.mach.chg hg5c.out (HX.out.mach.ne_row HX.out.calls (by decide)))
          have hne : be ≠ bm := fun h => HE.out.ne HR.out.mach (by decide) h
          have hne' := hne.symm
          have HE6 := hid (HE5.out.chg ((Chg.refl (· = bm) w5).sets rfl 5 (.slice bo5 (G.cs.length + 1) cap5)) hne)
          have hme := hid (show ∀ k, k = bm ∨ G.vc.ownBlock = some k → B ≤ k from fun k hk => hk.elim (fun h => h ▸ HR.out.base.1) (fun h => (HR.out.calls.lt k h).1))
          clear hcm hown5 hg5 hv5 hi hz0 hz1 hz2
          have e_kind5 : w5.cell? ⟨be, 0, none⟩ = some (.int .i64 e.kind) := HE5.out.cell 0 rfl
          have e_thr5 : w5.cell? ⟨be, 1, none⟩ = some (.int .i64 e.thr) := HE5.out.cell 1 rfl
          have e_call5 : w5.cell? ⟨be, 2, none⟩ = some (.int .i64 e.call) := HE5.out.cell 2 rfl
          have e_what5 : w5.cell? ⟨be, 3, none⟩ = some (.int .i64 e.what) := HE5.out.cell 3 rfl
          have e_id5 : w5.cell? ⟨be, 4, none⟩ = some (.int .u64 e.id) := HE5.out.cell 4 rfl
          have e_gen5 : w5.cell? ⟨be, 5, none⟩ = some (.int .u64 e.gen) := HE5.out.cell 5 rfl
          have e_dl5 : w5.cell? ⟨be, 6, none⟩ = some (.int .u64 e.dl) := HE5.out.cell 6 rfl
          have e_per5 : w5.cell? ⟨be, 7, none⟩ = some (.int .u64 e.per) := HE5.out.cell 7 rfl
          have e_tk5 : w5.cell? ⟨be, 8, none⟩ = some (.int .u64 e.tk) := HE5.out.cell 8 rfl
          have e_err5 : w5.cell? ⟨be, 9, none⟩ = some (.int .i64 e.err) := HE5.out.cell 9 rfl
          have m_calls5 : w5.cell? ⟨bm, 5, none⟩ = some G.vc := HM5.out.cell 5 rfl
          have f5 := HM5.out.frozen 5
          go_wp2
          refine wp_region_any (by kernel_rfl) ?_
          show wpAny _ _ _ _ 13 _ _ W1.drew
          refine wpAny_take (i := 0) (v := ptrV bm) rfl (by kernel_rfl) (by kernel_rfl) (by kernel_rfl) (fun _ _ _ h => h) (Or.inl ⟨by rfl, fun w => by go_simp⟩) ?_
          refine wpAny_take (i := 1) (v := ptrV bm) rfl (by kernel_rfl) (by kernel_rfl) (by kernel_rfl) (fun _ _ _ h => h) (Or.inl ⟨by rfl, fun w => by go_simp⟩) ?_
          refine wpAny_take (i := 2) (v := ptrV bm) rfl (by kernel_rfl) (by kernel_rfl) (by kernel_rfl) (fun _ _ _ h => h) (Or.inl ⟨by rfl, fun w => by go_simp⟩) ?_
          refine wpAny_take (i := 3) (v := .pointer (some ⟨bm, 5, none⟩)) rfl (by kernel_rfl) (by kernel_rfl) (by kernel_rfl) (fun _ _ _ h => h) (Or.inl ⟨by rfl, fun w => by go_simp⟩) ?_
          refine wpAny_two (k1 := 4) (k2 := 5) (by kernel_rfl) rfl rfl (fun K hK => ?_) (fun K hK => ?_)
          · go_simp
            refine hK.out _ _ ?_
            clear hK K
            refine wpAny_step (k := 5) (by kernel_rfl) rfl (fun K hK => ?_)
            go_simp
            refine hK.out _ _ ?_
            clear hK K
            refine wpAny_step (k := 6) (by kernel_rfl) rfl (fun K hK => ?_)
            go_simp
            refine hK.out _ _ ?_
            clear hK K
            refine wpAny_step (k := 7) (by kernel_rfl) rfl (fun K hK => ?_)
            go_simp
            refine hK.out _ _ ?_
            clear hK K
            refine wpAny_step (k := 8) (by kernel_rfl) rfl (fun K hK => ?_)
            go_simp
            refine hK.out _ _ ?_
            clear hK K
            refine wpAny_append (k := 9) (by kernel_rfl) rfl rfl rfl rfl rfl hr5 ?_
            refine wpAny_step (k := 10) (by kernel_rfl) rfl (fun K hK => ?_)
            go_simp
            refine hK.out _ _ ?_
            clear hK K
            refine wpAny_step (k := 11) (by kernel_rfl) rfl (fun K hK => ?_)
            go_simp
            refine hK.out _ _ ?_
            clear hK K
            refine wpAny_step (k := 12) (by kernel_rfl) rfl (fun K hK => ?_)
            go_simp
            refine hK.out _ _ ?_
            clear hK K
            refine wpAny_done (by kernel_rfl) ?_ _
            generalize hW6 : w5.setCell ⟨bm, 5, none⟩ (.slice bo5 (G.cs.length + 1) cap5) = W6
            rw [hW6] at HR6 HC6 HE6
            clear hW6 hr5
            clear e_kind e_thr e_call e_what e_id e_gen e_dl e_per e_tk e_err e_kind5 e_thr5 e_call5 e_what5 e_id5 e_gen5 e_dl5 e_per5 e_tk5 e_err5 m_calls m_callsA m_callsB m_calls5 f5
            have m_open : W6.cell? ⟨bm, 6, none⟩ = some (.map (some G.bo)) := HR6.out.mach.cell 6 rfl
            have e_thr : W6.cell? ⟨be, 1, none⟩ = some (.int .i64 e.thr) := HE6.out.cell 1 rfl
            have HB6 := hid (below_chg (HBW.out.mono hB) hBw HC6.out hme.out)
            go_wp2
            go_still_tail 6, (by kernel_rfl)
            refine (show wpList _ _ _ _ _ W6.drew from ?_)
            generalize hW3 : W6.drew = WD
            have HR3 := hid (show Rep B WD bm _ from hW3 ▸ HR6.out.drew)
            have HM := hid HR3.out.opn
            have HB3 := hid (show Below B w WD from hW3 ▸ HB6.out.drew)
            clear hW3
            go_wp2_with (refine wpList_update _ rfl 82 _ _ _ rfl (keyLaw_int Try.underlying3) Try.underlying82 G.bo G.opn HM.out rfl e.thr rfl true rfl ?_; intro w4 hm4 hg4 hs4; have HR4 := hid (HR3.out.oset (Chg.of_grown hg4 (fun k hk => (Option.some.inj hk).symm)) hm4); have HB4 := hid (HB3.out.trans ((Chg.of_grown (S := (· = G.bo)) hg4 (fun k hk => (Option.some.inj hk).symm)).below (Nat.le_trans hBw HB3.out.size) (fun k hk => hk ▸ HR3.out.base.2.1))); clear hm4 hg4 hs4)
            go_ret
            exact Ends.yes rfl HB4.out (HP.out _ _) HR4.out
          · go_simp
            refine hK.out _ _ ?_
            clear hK K
            refine wpAny_two (k1 := 4) (k2 := 6) (by kernel_rfl) rfl rfl (fun K hK => ?_) (fun K hK => ?_)
            · go_simp
              refine hK.out _ _ ?_
              clear hK K
              refine wpAny_step (k := 6) (by kernel_rfl) rfl (fun K hK => ?_)
              go_simp
              refine hK.out _ _ ?_
              clear hK K
              refine wpAny_step (k := 7) (by kernel_rfl) rfl (fun K hK => ?_)
              go_simp
              refine hK.out _ _ ?_
              clear hK K
              refine wpAny_step (k := 8) (by kernel_rfl) rfl (fun K hK => ?_)
              go_simp
              refine hK.out _ _ ?_
              clear hK K
              refine wpAny_append (k := 9) (by kernel_rfl) rfl rfl rfl rfl rfl hr5 ?_
              refine wpAny_step (k := 10) (by kernel_rfl) rfl (fun K hK => ?_)
              go_simp
              refine hK.out _ _ ?_
              clear hK K
              refine wpAny_step (k := 11) (by kernel_rfl) rfl (fun K hK => ?_)
              go_simp
              refine hK.out _ _ ?_
              clear hK K
              refine wpAny_step (k := 12) (by kernel_rfl) rfl (fun K hK => ?_)
              go_simp
              refine hK.out _ _ ?_
              clear hK K
              refine wpAny_done (by kernel_rfl) ?_ _
              generalize hW6 : w5.setCell ⟨bm, 5, none⟩ (.slice bo5 (G.cs.length + 1) cap5) = W6
              rw [hW6] at HR6 HC6 HE6
              clear hW6 hr5
              clear e_kind e_thr e_call e_what e_id e_gen e_dl e_per e_tk e_err e_kind5 e_thr5 e_call5 e_what5 e_id5 e_gen5 e_dl5 e_per5 e_tk5 e_err5 m_calls m_callsA m_callsB m_calls5 f5
              have m_open : W6.cell? ⟨bm, 6, none⟩ = some (.map (some G.bo)) := HR6.out.mach.cell 6 rfl
              have e_thr : W6.cell? ⟨be, 1, none⟩ = some (.int .i64 e.thr) := HE6.out.cell 1 rfl
              have HB6 := hid (below_chg (HBW.out.mono hB) hBw HC6.out hme.out)
              go_wp2
              go_still_tail 6, (by kernel_rfl)
              refine (show wpList _ _ _ _ _ W6.drew from ?_)
              generalize hW3 : W6.drew = WD
              have HR3 := hid (show Rep B WD bm _ from hW3 ▸ HR6.out.drew)
              have HM := hid HR3.out.opn
              have HB3 := hid (show Below B w WD from hW3 ▸ HB6.out.drew)
              clear hW3
              go_wp2_with (refine wpList_update _ rfl 82 _ _ _ rfl (keyLaw_int Try.underlying3) Try.underlying82 G.bo G.opn HM.out rfl e.thr rfl true rfl ?_; intro w4 hm4 hg4 hs4; have HR4 := hid (HR3.out.oset (Chg.of_grown hg4 (fun k hk => (Option.some.inj hk).symm)) hm4); have HB4 := hid (HB3.out.trans ((Chg.of_grown (S := (· = G.bo)) hg4 (fun k hk => (Option.some.inj hk).symm)).below (Nat.le_trans hBw HB3.out.size) (fun k hk => hk ▸ HR3.out.base.2.1))); clear hm4 hg4 hs4)
              go_ret
              exact Ends.yes rfl HB4.out (HP.out _ _) HR4.out
            · go_simp
              refine hK.out _ _ ?_
              clear hK K
              refine wpAny_two (k1 := 4) (k2 := 7) (by kernel_rfl) rfl rfl (fun K hK => ?_) (fun K hK => ?_)
              · go_simp
                refine hK.out _ _ ?_
                clear hK K
                refine wpAny_step (k := 7) (by kernel_rfl) rfl (fun K hK => ?_)
                go_simp
                refine hK.out _ _ ?_
                clear hK K
                refine wpAny_step (k := 8) (by kernel_rfl) rfl (fun K hK => ?_)
                go_simp
                refine hK.out _ _ ?_
                clear hK K
                refine wpAny_append (k := 9) (by kernel_rfl) rfl rfl rfl rfl rfl hr5 ?_
                refine wpAny_step (k := 10) (by kernel_rfl) rfl (fun K hK => ?_)
                go_simp
                refine hK.out _ _ ?_
                clear hK K
                refine wpAny_step (k := 11) (by kernel_rfl) rfl (fun K hK => ?_)
                go_simp
                refine hK.out _ _ ?_
                clear hK K
                refine wpAny_step (k := 12) (by kernel_rfl) rfl (fun K hK => ?_)
                go_simp
                refine hK.out _ _ ?_
                clear hK K
                refine wpAny_done (by kernel_rfl) ?_ _
                generalize hW6 : w5.setCell ⟨bm, 5, none⟩ (.slice bo5 (G.cs.length + 1) cap5) = W6
                rw [hW6] at HR6 HC6 HE6
                clear hW6 hr5
                clear e_kind e_thr e_call e_what e_id e_gen e_dl e_per e_tk e_err e_kind5 e_thr5 e_call5 e_what5 e_id5 e_gen5 e_dl5 e_per5 e_tk5 e_err5 m_calls m_callsA m_callsB m_calls5 f5
                have m_open : W6.cell? ⟨bm, 6, none⟩ = some (.map (some G.bo)) := HR6.out.mach.cell 6 rfl
                have e_thr : W6.cell? ⟨be, 1, none⟩ = some (.int .i64 e.thr) := HE6.out.cell 1 rfl
                have HB6 := hid (below_chg (HBW.out.mono hB) hBw HC6.out hme.out)
                go_wp2
                go_still_tail 6, (by kernel_rfl)
                refine (show wpList _ _ _ _ _ W6.drew from ?_)
                generalize hW3 : W6.drew = WD
                have HR3 := hid (show Rep B WD bm _ from hW3 ▸ HR6.out.drew)
                have HM := hid HR3.out.opn
                have HB3 := hid (show Below B w WD from hW3 ▸ HB6.out.drew)
                clear hW3
                go_wp2_with (refine wpList_update _ rfl 82 _ _ _ rfl (keyLaw_int Try.underlying3) Try.underlying82 G.bo G.opn HM.out rfl e.thr rfl true rfl ?_; intro w4 hm4 hg4 hs4; have HR4 := hid (HR3.out.oset (Chg.of_grown hg4 (fun k hk => (Option.some.inj hk).symm)) hm4); have HB4 := hid (HB3.out.trans ((Chg.of_grown (S := (· = G.bo)) hg4 (fun k hk => (Option.some.inj hk).symm)).below (Nat.le_trans hBw HB3.out.size) (fun k hk => hk ▸ HR3.out.base.2.1))); clear hm4 hg4 hs4)
                go_ret
                exact Ends.yes rfl HB4.out (HP.out _ _) HR4.out
              · go_simp
                refine hK.out _ _ ?_
                clear hK K
                refine wpAny_two (k1 := 4) (k2 := 8) (by kernel_rfl) rfl rfl (fun K hK => ?_) (fun K hK => ?_)
                · go_simp
                  refine hK.out _ _ ?_
                  clear hK K
                  refine wpAny_step (k := 8) (by kernel_rfl) rfl (fun K hK => ?_)
                  go_simp
                  refine hK.out _ _ ?_
                  clear hK K
                  refine wpAny_append (k := 9) (by kernel_rfl) rfl rfl rfl rfl rfl hr5 ?_
                  refine wpAny_step (k := 10) (by kernel_rfl) rfl (fun K hK => ?_)
                  go_simp
                  refine hK.out _ _ ?_
                  clear hK K
                  refine wpAny_step (k := 11) (by kernel_rfl) rfl (fun K hK => ?_)
                  go_simp
                  refine hK.out _ _ ?_
                  clear hK K
                  refine wpAny_step (k := 12) (by kernel_rfl) rfl (fun K hK => ?_)
                  go_simp
                  refine hK.out _ _ ?_
                  clear hK K
                  refine wpAny_done (by kernel_rfl) ?_ _
                  generalize hW6 : w5.setCell ⟨bm, 5, none⟩ (.slice bo5 (G.cs.length + 1) cap5) = W6
                  rw [hW6] at HR6 HC6 HE6
                  clear hW6 hr5
                  clear e_kind e_thr e_call e_what e_id e_gen e_dl e_per e_tk e_err e_kind5 e_thr5 e_call5 e_what5 e_id5 e_gen5 e_dl5 e_per5 e_tk5 e_err5 m_calls m_callsA m_callsB m_calls5 f5
                  have m_open : W6.cell? ⟨bm, 6, none⟩ = some (.map (some G.bo)) := HR6.out.mach.cell 6 rfl
                  have e_thr : W6.cell? ⟨be, 1, none⟩ = some (.int .i64 e.thr) := HE6.out.cell 1 rfl
                  have HB6 := hid (below_chg (HBW.out.mono hB) hBw HC6.out hme.out)
                  go_wp2
                  go_still_tail 6, (by kernel_rfl)
                  refine (show wpList _ _ _ _ _ W6.drew from ?_)
                  generalize hW3 : W6.drew = WD
                  have HR3 := hid (show Rep B WD bm _ from hW3 ▸ HR6.out.drew)
                  have HM := hid HR3.out.opn
                  have HB3 := hid (show Below B w WD from hW3 ▸ HB6.out.drew)
                  clear hW3
                  go_wp2_with (refine wpList_update _ rfl 82 _ _ _ rfl (keyLaw_int Try.underlying3) Try.underlying82 G.bo G.opn HM.out rfl e.thr rfl true rfl ?_; intro w4 hm4 hg4 hs4; have HR4 := hid (HR3.out.oset (Chg.of_grown hg4 (fun k hk => (Option.some.inj hk).symm)) hm4); have HB4 := hid (HB3.out.trans ((Chg.of_grown (S := (· = G.bo)) hg4 (fun k hk => (Option.some.inj hk).symm)).below (Nat.le_trans hBw HB3.out.size) (fun k hk => hk ▸ HR3.out.base.2.1))); clear hm4 hg4 hs4)
                  go_ret
                  exact Ends.yes rfl HB4.out (HP.out _ _) HR4.out
                · go_simp
                  refine hK.out _ _ ?_
                  clear hK K
                  refine wpAny_step (k := 4) (by kernel_rfl) rfl (fun K hK => ?_)
                  go_simp
                  refine hK.out _ _ ?_
                  clear hK K
                  refine wpAny_append (k := 9) (by kernel_rfl) rfl rfl rfl rfl rfl hr5 ?_
                  refine wpAny_step (k := 10) (by kernel_rfl) rfl (fun K hK => ?_)
                  go_simp
                  refine hK.out _ _ ?_
                  clear hK K
                  refine wpAny_step (k := 11) (by kernel_rfl) rfl (fun K hK => ?_)
                  go_simp
                  refine hK.out _ _ ?_
                  clear hK K
                  refine wpAny_step (k := 12) (by kernel_rfl) rfl (fun K hK => ?_)
                  go_simp
                  refine hK.out _ _ ?_
                  clear hK K
                  refine wpAny_done (by kernel_rfl) ?_ _
                  generalize hW6 : w5.setCell ⟨bm, 5, none⟩ (.slice bo5 (G.cs.length + 1) cap5) = W6
                  rw [hW6] at HR6 HC6 HE6
                  clear hW6 hr5
                  clear e_kind e_thr e_call e_what e_id e_gen e_dl e_per e_tk e_err e_kind5 e_thr5 e_call5 e_what5 e_id5 e_gen5 e_dl5 e_per5 e_tk5 e_err5 m_calls m_callsA m_callsB m_calls5 f5
                  have m_open : W6.cell? ⟨bm, 6, none⟩ = some (.map (some G.bo)) := HR6.out.mach.cell 6 rfl
                  have e_thr : W6.cell? ⟨be, 1, none⟩ = some (.int .i64 e.thr) := HE6.out.cell 1 rfl
                  have HB6 := hid (below_chg (HBW.out.mono hB) hBw HC6.out hme.out)
                  go_wp2
                  go_still_tail 6, (by kernel_rfl)
                  refine (show wpList _ _ _ _ _ W6.drew from ?_)
                  generalize hW3 : W6.drew = WD
                  have HR3 := hid (show Rep B WD bm _ from hW3 ▸ HR6.out.drew)
                  have HM := hid HR3.out.opn
                  have HB3 := hid (show Below B w WD from hW3 ▸ HB6.out.drew)
                  clear hW3
                  go_wp2_with (refine wpList_update _ rfl 82 _ _ _ rfl (keyLaw_int Try.underlying3) Try.underlying82 G.bo G.opn HM.out rfl e.thr rfl true rfl ?_; intro w4 hm4 hg4 hs4; have HR4 := hid (HR3.out.oset (Chg.of_grown hg4 (fun k hk => (Option.some.inj hk).symm)) hm4); have HB4 := hid (HB3.out.trans ((Chg.of_grown (S := (· = G.bo)) hg4 (fun k hk => (Option.some.inj hk).symm)).below (Nat.le_trans hBw HB3.out.size) (fun k hk => hk ▸ HR3.out.base.2.1))); clear hm4 hg4 hs4)
                  go_ret
                  exact Ends.yes rfl HB4.out (HP.out _ _) HR4.out
        · have h7' : decide (7 < e.what) = true := decide_eq_true (by omega)
          have HP := hid (show beginM G.ma e = none by unfold beginM; simp [hc, ho, Int.not_lt.2 h1, Int.not_le.1 h7, cs_len, ma_opn])
          clear hc h1 h7
          simp only [ho] at hl
          go_quiet (fail)
          go_wp2
          go_ret
          exact Ends.no rfl (below_drewN (HBW.out.mono hB) _) HP.out
      · have h1' : decide (e.what < 1) = true := decide_eq_true (by omega)
        have HP := hid (show beginM G.ma e = none by unfold beginM; simp [hc, ho, Int.not_le.1 h1, cs_len, ma_opn])
        clear hc h1
        simp only [ho] at hl
        go_quiet (fail)
        go_wp2
        go_ret
        exact Ends.no rfl (below_drewN (HBW.out.mono hB) _) HP.out
    · have HP := hid (show beginM G.ma e = none by unfold beginM; simp [hc, ho, cs_len, ma_opn])
      clear hc
      simp only [ho] at hl
      go_quiet (fail)
      go_wp2
      go_ret
      exact Ends.no rfl (below_drewN (HBW.out.mono hB) _) HP.out
  · have hc' : (e.call != (G.cs.length : Int) + 1) = true := by simp [hc]
    have HP := hid (show beginM G.ma e = none by unfold beginM; simp [hc, cs_len, ma_opn])
    clear hc
    go_quiet (fail)
    go_wp2
    go_ret
    exact Ends.no rfl (below_drewN (HBW.out.mono hB) _) HP.out
end Go.Proofs.Ytpnkkdpggofanaa

namespace Go.Proofs.Ytpnkkdpggofanaa
open Go.RowKit

theorem fireM_none {G : Gm} {c : Cl} {e : Ev} (h : aget G.lv e.id = none) : fireM G.ma c e = none := by
  unfold fireM
  show (match aget (G.lv.map fun p => (p.1, p.2.2)) e.id with | none => _ | some t => _) = _
  rw [aget_map (fun p : Nat × Tm => p.2), h]; rfl
theorem fireM_some {G : Gm} {c : Cl} {e : Ev} {b : Nat} {t : Tm} (h : aget G.lv e.id = some (b, t)) : fireM G.ma c e = if c.bg.what != 7 || !t.armed || t.btw || e.gen != t.gen || e.dl != t.dl || e.tk != G.now || t.dl != G.now then none
      else if decide (t.per > 0) && !t.last then some (setLive G.ma e.id { t with btw := true }) else some (delLive G.ma e.id) := by
  unfold fireM
  show (match aget (G.lv.map fun p => (p.1, p.2.2)) e.id with | none => _ | some t => _) = _
  rw [aget_map (fun p : Nat × Tm => p.2), h]; rfl

set_option maxRecDepth 4000 in
set_option maxHeartbeats 8000000 in
theorem fire_any (B : Nat) (w : World) {bm b i : Nat} {c : Cl} {G : Gm} (h : Rep B w bm G) (hB : B ≤ w.heap.size) (hi : G.cs[i]? = some (b, c)) (hc : G.cp = ptrV b) (e : Ev) (_he : e.wf) :
    Calls Try.prog 77 #[ptrV bm, evV e] w fun x w' => Ends B bm w (fireM G.ma c e) x w' := by
  go_enter Try.func77, Try.ntmps77
  go_wp2
  generalize hW : w.alloc _ = W
  obtain ⟨hR, hE, hBW, hsz⟩ := h.boxed e hW
  clear hW h
  generalize hBE : w.heap.size = be at *
  have HR := hid hR
  have HE := hid hE
  have HBW := hid hBW
  have HC : Hid (Blk W b 126 (clC c)) := (HR.out.cl _ (List.mem_of_getElem? hi)).1
  clear hR hE hBW
  cases hg : aget G.lv e.id with
  | none =>
    have hlp : liveP G e.id = .pointer none := by simp [liveP, hg]
    have HG := hid hg
    have m_live : W.cell? ⟨bm, 8, none⟩ = some (.map (some G.bl)) := HR.out.mach.cell 8 rfl
    have e_id : W.cell? ⟨be, 4, none⟩ = some (.int .u64 e.id) := HE.out.cell 4 rfl
    have hl := fun n => (HR.out.drewN n).look e.id
    rw [hlp] at hl
    clear hg hlp
    go_quiet (fail)
    go_wp2
    clear m_live e_id hl
    generalize hW1 : W.drewN _ = W1
    replace HR := hid (show Rep B W1 bm G from hW1 ▸ HR.out.drewN _)
    replace HE := hid (show Blk W1 be 31 (evC e) from hW1 ▸ HE.out)
    replace HBW := hid (show Below be w W1 from hW1 ▸ below_drewN HBW.out _)
    replace HC := hid (show Blk W1 b 126 (clC c) from hW1 ▸ HC.out)
    clear hW1
    have HP := hid (show fireM G.ma c e = none from fireM_none HG.out)
    by_cases hw : c.bg.what = 7
    · have HW := hid (show decide (c.bg.what ∈ [7]) = true by simp [hw])
      have HE0 := hid HE.out
      refine wp_region_any (by kernel_rfl) ?_
      show wpAny _ _ _ _ 59 _ _ W1.drew
      refine wpAny_take (i := 0) (v := ptrV bm) rfl (by kernel_rfl) (by kernel_rfl) (by kernel_rfl) (fun _ _ _ h => h) (Or.inl ⟨by rfl, fun w => by go_simp⟩) ?_
      refine wpAny_step (k := 1) (by kernel_rfl) rfl (fun K hK => ?_)
      go_simp
      refine hK.out _ _ ?_
      clear hK K
      refine wpAny_step (k := 2) (by kernel_rfl) rfl (fun K hK => ?_)
      go_simp
      refine (what_any (c := c) [7] _ _ (Reads.built_at _ [.int .i64 7] 3 1 _ (by simp)) (by simp) (hc ▸ (HR.out.drew.alloc _).mach.cell 9 rfl) ((HC.out.drew.alloc _).cell 3 rfl)).mono ?_
      rintro x w' ⟨hx, rfl⟩
      rw [HW.out] at hx
      subst hx
      refine hK.out _ _ ?_
      clear hK K
      refine wpAny_quiet_rest (k := 3) _ (by kernel_rfl) (by kernel_rfl) rfl (by kernel_rfl) ?_
      simp only [List.drop_succ_cons, List.drop_zero]
      generalize hW2 : W1.drew.alloc _ = W2
      replace HR := hid (show Rep B W2 bm G from hW2 ▸ HR.out.drew.alloc _)
      replace HE := hid (show Blk W2 be 31 (evC e) from hW2 ▸ HE.out.drew.alloc _)
      replace HBW := hid (show Below be w W2 from hW2 ▸ (HBW.out.drew.alloc (Nat.le_trans (Nat.le_of_lt HE0.out.lt) (by simp)) _))
      replace HC := hid (show Blk W2 b 126 (clC c) from hW2 ▸ HC.out.drew.alloc _)
      clear hW2 HE0
      have m_now : W2.cell? ⟨bm, 1, none⟩ = some (.int .u64 G.now) := HR.out.mach.cell 1 rfl
      have e_gen : W2.cell? ⟨be, 5, none⟩ = some (.int .u64 e.gen) := HE.out.cell 5 rfl
      have e_dl : W2.cell? ⟨be, 6, none⟩ = some (.int .u64 e.dl) := HE.out.cell 6 rfl
      have e_tk : W2.cell? ⟨be, 8, none⟩ = some (.int .u64 e.tk) := HE.out.cell 8 rfl
      repeat (go_big_quiet_step (fail))
      refine wpQuiet_nil ?_
      intro _ hw'
      obtain ⟨nq, hw''⟩ := hw'
      subst hw''
      go_wp2
      go_ret
      exact Ends.no rfl (below_drewN (HBW.out.mono hB) _) HP.out
    · have HW := hid (show decide (c.bg.what ∈ [7]) = false by simp [hw])
      have HE0 := hid HE.out
      refine wp_region_any (by kernel_rfl) ?_
      show wpAny _ _ _ _ 59 _ _ W1.drew
      refine wpAny_take (i := 0) (v := ptrV bm) rfl (by kernel_rfl) (by kernel_rfl) (by kernel_rfl) (fun _ _ _ h => h) (Or.inl ⟨by rfl, fun w => by go_simp⟩) ?_
      refine wpAny_step (k := 1) (by kernel_rfl) rfl (fun K hK => ?_)
      go_simp
      refine hK.out _ _ ?_
      clear hK K
      refine wpAny_step (k := 2) (by kernel_rfl) rfl (fun K hK => ?_)
      go_simp
      refine (what_any (c := c) [7] _ _ (Reads.built_at _ [.int .i64 7] 3 1 _ (by simp)) (by simp) (hc ▸ (HR.out.drew.alloc _).mach.cell 9 rfl) ((HC.out.drew.alloc _).cell 3 rfl)).mono ?_
      rintro x w' ⟨hx, rfl⟩
      rw [HW.out] at hx
      subst hx
      refine hK.out _ _ ?_
      clear hK K
      refine wpAny_quiet_rest (k := 3) _ (by kernel_rfl) (by kernel_rfl) rfl (by kernel_rfl) ?_
      simp only [List.drop_succ_cons, List.drop_zero]
      generalize hW2 : W1.drew.alloc _ = W2
      replace HR := hid (show Rep B W2 bm G from hW2 ▸ HR.out.drew.alloc _)
      replace HE := hid (show Blk W2 be 31 (evC e) from hW2 ▸ HE.out.drew.alloc _)
      replace HBW := hid (show Below be w W2 from hW2 ▸ (HBW.out.drew.alloc (Nat.le_trans (Nat.le_of_lt HE0.out.lt) (by simp)) _))
      replace HC := hid (show Blk W2 b 126 (clC c) from hW2 ▸ HC.out.drew.alloc _)
      clear hW2 HE0
      have m_now : W2.cell? ⟨bm, 1, none⟩ = some (.int .u64 G.now) := HR.out.mach.cell 1 rfl
      have e_gen : W2.cell? ⟨be, 5, none⟩ = some (.int .u64 e.gen) := HE.out.cell 5 rfl
      have e_dl : W2.cell? ⟨be, 6, none⟩ = some (.int .u64 e.dl) := HE.out.cell 6 rfl
      have e_tk : W2.cell? ⟨be, 8, none⟩ = some (.int .u64 e.tk) := HE.out.cell 8 rfl
      repeat (go_big_quiet_step (fail))
      refine wpQuiet_nil ?_
      intro _ hw'
      obtain ⟨nq, hw''⟩ := hw'
      subst hw''
      go_wp2
      go_ret
      exact Ends.no rfl (below_drewN (HBW.out.mono hB) _) HP.out
  | some p =>
    obtain ⟨bt, t⟩ := p
    have hlp : liveP G e.id = ptrV bt := by simp [liveP, hg]
    have HG := hid hg
    have m_live : W.cell? ⟨bm, 8, none⟩ = some (.map (some G.bl)) := HR.out.mach.cell 8 rfl
    have e_id : W.cell? ⟨be, 4, none⟩ = some (.int .u64 e.id) := HE.out.cell 4 rfl
    have hl := fun n => (HR.out.drewN n).look e.id
    rw [hlp] at hl
    clear hg hlp
    go_quiet (fail)
    go_wp2
    clear m_live e_id hl
    generalize hW1 : W.drewN _ = W1
    replace HR := hid (show Rep B W1 bm G from hW1 ▸ HR.out.drewN _)
    replace HE := hid (show Blk W1 be 31 (evC e) from hW1 ▸ HE.out)
    replace HBW := hid (show Below be w W1 from hW1 ▸ below_drewN HBW.out _)
    replace HC := hid (show Blk W1 b 126 (clC c) from hW1 ▸ HC.out)
    clear hW1
    have HT : Hid (Blk W1 bt 151 (tmC t)) := (HR.out.tm _ ((aget_mem HR.out.live.nodup).1 HG.out)).1
    by_cases hw : c.bg.what = 7
    · have HW := hid (show decide (c.bg.what ∈ [7]) = true by simp [hw])
      cases ha : t.armed
      · have HP := hid (show fireM G.ma c e = none by rw [fireM_some HG.out]; simp [hw, ha])
        have HE0 := hid HE.out
        refine wp_region_any (by kernel_rfl) ?_
        show wpAny _ _ _ _ 59 _ _ W1.drew
        refine wpAny_take (i := 0) (v := ptrV bm) rfl (by kernel_rfl) (by kernel_rfl) (by kernel_rfl) (fun _ _ _ h => h) (Or.inl ⟨by rfl, fun w => by go_simp⟩) ?_
        refine wpAny_step (k := 1) (by kernel_rfl) rfl (fun K hK => ?_)
        go_simp
        refine hK.out _ _ ?_
        clear hK K
        refine wpAny_step (k := 2) (by kernel_rfl) rfl (fun K hK => ?_)
        go_simp
        refine (what_any (c := c) [7] _ _ (Reads.built_at _ [.int .i64 7] 3 1 _ (by simp)) (by simp) (hc ▸ (HR.out.drew.alloc _).mach.cell 9 rfl) ((HC.out.drew.alloc _).cell 3 rfl)).mono ?_
        rintro x w' ⟨hx, rfl⟩
        rw [HW.out] at hx
        subst hx
        refine hK.out _ _ ?_
        clear hK K
        refine wpAny_quiet_rest (k := 3) _ (by kernel_rfl) (by kernel_rfl) rfl (by kernel_rfl) ?_
        simp only [List.drop_succ_cons, List.drop_zero]
        generalize hW2 : W1.drew.alloc _ = W2
        replace HR := hid (show Rep B W2 bm G from hW2 ▸ HR.out.drew.alloc _)
        replace HE := hid (show Blk W2 be 31 (evC e) from hW2 ▸ HE.out.drew.alloc _)
        replace HBW := hid (show Below be w W2 from hW2 ▸ (HBW.out.drew.alloc (Nat.le_trans (Nat.le_of_lt HE0.out.lt) (by simp)) _))
        replace HC := hid (show Blk W2 b 126 (clC c) from hW2 ▸ HC.out.drew.alloc _)
        clear hW2 HE0
        replace HT : Hid (Blk W2 bt 151 (tmC t)) := (HR.out.tm _ ((aget_mem HR.out.live.nodup).1 HG.out)).1
        have m_now : W2.cell? ⟨bm, 1, none⟩ = some (.int .u64 G.now) := HR.out.mach.cell 1 rfl
        have e_gen : W2.cell? ⟨be, 5, none⟩ = some (.int .u64 e.gen) := HE.out.cell 5 rfl
        have e_dl : W2.cell? ⟨be, 6, none⟩ = some (.int .u64 e.dl) := HE.out.cell 6 rfl
        have e_tk : W2.cell? ⟨be, 8, none⟩ = some (.int .u64 e.tk) := HE.out.cell 8 rfl
        have t_g : W2.cell? ⟨bt, 0, none⟩ = some (.int .u64 t.gen) := HT.out.cell 0 rfl
        have t_d : W2.cell? ⟨bt, 1, none⟩ = some (.int .u64 t.dl) := HT.out.cell 1 rfl
        have t_a : W2.cell? ⟨bt, 4, none⟩ = some (.bool t.armed) := HT.out.cell 4 rfl
        have t_b : W2.cell? ⟨bt, 5, none⟩ = some (.bool t.btw) := HT.out.cell 5 rfl
        rw [ha] at t_a
        repeat (go_big_quiet_step (fail))
        refine wpQuiet_nil ?_
        intro _ hw'
        obtain ⟨nq, hw''⟩ := hw'
        subst hw''
        go_wp2
        go_ret
        exact Ends.no rfl (below_drewN (HBW.out.mono hB) _) HP.out
      · cases hb : t.btw
        · by_cases hgn : e.gen = t.gen
          · have hgn' : (e.gen != t.gen) = false := by simp [hgn]
            by_cases hd : e.dl = t.dl
            · have hd' : (e.dl != t.dl) = false := by simp [hd]
              by_cases ht : e.tk = G.now
              · have ht' : (e.tk != G.now) = false := by simp [ht]
                by_cases hn : t.dl = G.now
                · have hn' : (t.dl != G.now) = false := by simp [hn]
                  have he1 := (HR.out.tm _ ((aget_mem HR.out.live.nodup).1 HG.out)).2.2
                  have HE0 := hid HE.out
                  refine wp_region_any (by kernel_rfl) ?_
                  show wpAny _ _ _ _ 59 _ _ W1.drew
                  refine wpAny_take (i := 0) (v := ptrV bm) rfl (by kernel_rfl) (by kernel_rfl) (by kernel_rfl) (fun _ _ _ h => h) (Or.inl ⟨by rfl, fun w => by go_simp⟩) ?_
                  refine wpAny_step (k := 1) (by kernel_rfl) rfl (fun K hK => ?_)
                  go_simp
                  refine hK.out _ _ ?_
                  clear hK K
                  refine wpAny_step (k := 2) (by kernel_rfl) rfl (fun K hK => ?_)
                  go_simp
                  refine (what_any (c := c) [7] _ _ (Reads.built_at _ [.int .i64 7] 3 1 _ (by simp)) (by simp) (hc ▸ (HR.out.drew.alloc _).mach.cell 9 rfl) ((HC.out.drew.alloc _).cell 3 rfl)).mono ?_
                  rintro x w' ⟨hx, rfl⟩
                  rw [HW.out] at hx
                  subst hx
                  refine hK.out _ _ ?_
                  clear hK K
                  refine wpAny_quiet_rest (k := 3) _ (by kernel_rfl) (by kernel_rfl) rfl (by kernel_rfl) ?_
                  simp only [List.drop_succ_cons, List.drop_zero]
                  generalize hW2 : W1.drew.alloc _ = W2
                  replace HR := hid (show Rep B W2 bm G from hW2 ▸ HR.out.drew.alloc _)
                  replace HE := hid (show Blk W2 be 31 (evC e) from hW2 ▸ HE.out.drew.alloc _)
                  replace HBW := hid (show Below be w W2 from hW2 ▸ (HBW.out.drew.alloc (Nat.le_trans (Nat.le_of_lt HE0.out.lt) (by simp)) _))
                  replace HC := hid (show Blk W2 b 126 (clC c) from hW2 ▸ HC.out.drew.alloc _)
                  clear hW2 HE0
                  replace HT : Hid (Blk W2 bt 151 (tmC t)) := (HR.out.tm _ ((aget_mem HR.out.live.nodup).1 HG.out)).1
                  have m_now : W2.cell? ⟨bm, 1, none⟩ = some (.int .u64 G.now) := HR.out.mach.cell 1 rfl
                  have e_gen : W2.cell? ⟨be, 5, none⟩ = some (.int .u64 e.gen) := HE.out.cell 5 rfl
                  have e_dl : W2.cell? ⟨be, 6, none⟩ = some (.int .u64 e.dl) := HE.out.cell 6 rfl
                  have e_tk : W2.cell? ⟨be, 8, none⟩ = some (.int .u64 e.tk) := HE.out.cell 8 rfl
                  have t_g : W2.cell? ⟨bt, 0, none⟩ = some (.int .u64 t.gen) := HT.out.cell 0 rfl
                  have t_d : W2.cell? ⟨bt, 1, none⟩ = some (.int .u64 t.dl) := HT.out.cell 1 rfl
                  have t_a : W2.cell? ⟨bt, 4, none⟩ = some (.bool t.armed) := HT.out.cell 4 rfl
                  have t_b : W2.cell? ⟨bt, 5, none⟩ = some (.bool t.btw) := HT.out.cell 5 rfl
                  rw [ha] at t_a
                  rw [hb] at t_b
                  repeat (go_big_quiet_step (fail))
                  refine wpQuiet_nil ?_
                  intro _ hw'
                  obtain ⟨nq, hw''⟩ := hw'
                  subst hw''
                  clear m_now e_gen e_dl e_tk t_g t_d t_a t_b
                  generalize hW1 : W2.drewN _ = W3
                  replace HR := hid (show Rep B W3 bm G from hW1 ▸ HR.out.drewN _)
                  replace HE := hid (show Blk W3 be 31 (evC e) from hW1 ▸ HE.out)
                  replace HBW := hid (show Below be w W3 from hW1 ▸ below_drewN HBW.out _)
                  replace HC := hid (show Blk W3 b 126 (clC c) from hW1 ▸ HC.out)
                  clear hW1
                  replace HT : Hid (Blk W3 bt 151 (tmC t)) := (HR.out.tm _ ((aget_mem HR.out.live.nodup).1 HG.out)).1
                  have m_live : W3.cell? ⟨bm, 8, none⟩ = some (.map (some G.bl)) := HR.out.mach.cell 8 rfl
                  have e_id : W3.cell? ⟨be, 4, none⟩ = some (.int .u64 e.id) := HE.out.cell 4 rfl
                  have t_p : W3.cell? ⟨bt, 2, none⟩ = some (.int .u64 t.per) := HT.out.cell 2 rfl
                  have t_l : W3.cell? ⟨bt, 3, none⟩ = some (.bool t.last) := HT.out.cell 3 rfl
                  have t_b : W3.cell? ⟨bt, 5, none⟩ = some (.bool t.btw) := HT.out.cell 5 rfl
                  have f5 := HT.out.frozen 5
                  by_cases hp : 0 < t.per
                  · have hp' : decide (0 < t.per) = true := by simp [hp]
                    cases hl : t.last
                    · have HP := hid (show fireM G.ma c e = some (setLive G.ma e.id { t with btw := true }) by rw [fireM_some HG.out]; simp [hw, ha, hb, hgn, hd, ht, hn, hp, hl])
                      rw [hl] at t_l
                      go_wp2
                      go_ret
                      have hch := (Chg.refl (· = bt) W3).sets rfl 5 (.bool true)
                      exact Ends.yes (G' := { G with lv := aput G.lv e.id (bt, { t with btw := true }) }) rfl (below_chg (HBW.out.mono hB) (by omega) hch (fun k hk => hk ▸ (HR.out.tm _ ((aget_mem HR.out.live.nodup).1 HG.out)).2.1)) (by rw [HP.out]; simp [Gm.ma, setLive, aput_map (fun p : Nat × Tm => p.2)]) (HR.out.tset HG.out hch (show Blk _ bt _ (tmC _) from HT.out.set 5 (.bool true)) ⟨he1.gen, he1.dl, he1.per⟩)
                    · rw [hl] at t_l
                      have HP := hid (show fireM G.ma c e = some (delLive G.ma e.id) by rw [fireM_some HG.out]; simp [hw, ha, hb, hgn, hd, ht, hn, hp, hl])
                      go_wp2
                      go_still_tail 6, (by kernel_rfl)
                      refine (show wpList _ _ _ _ _ W3.drew from ?_)
                      generalize hW3 : W3.drew = WD
                      have HR3 := hid (show Rep B WD bm G from hW3 ▸ HR.out.drew)
                      have HM := hid HR3.out.live
                      have HB3 := hid (show Below be w WD from hW3 ▸ HBW.out.drew)
                      clear hW3
                      go_wp2_with (refine wpList_delete _ rfl 97 29 _ _ rfl (keyLaw_int Try.underlying29) Try.underlying97 G.bl G.lv (bt, t) HM.out rfl e.id rfl ?_; intro w4 hm4 hg4 hs4; have HR4 := hid (HR3.out.ldel (Chg.of_grown hg4 (fun k hk => (Option.some.inj hk).symm)) hm4); have HB4 := hid ((HB3.out.mono hB).trans ((Chg.of_grown (S := (· = G.bl)) hg4 (fun k hk => (Option.some.inj hk).symm)).below (Nat.le_trans (by omega) HB3.out.size) (fun k hk => hk ▸ HR3.out.base.2.2.2))); clear hm4 hg4 hs4)
                      go_ret
                      exact Ends.yes (G' := { G with lv := adel G.lv e.id }) rfl HB4.out (by rw [HP.out]; simp [Gm.ma, delLive, adel_map (fun p : Nat × Tm => p.2)]) HR4.out
                  · have hp' : decide (0 < t.per) = false := by simp [hp]
                    have HP := hid (show fireM G.ma c e = some (delLive G.ma e.id) by rw [fireM_some HG.out]; simp [hw, ha, hb, hgn, hd, ht, hn, hp])
                    go_wp2
                    go_still_tail 6, (by kernel_rfl)
                    refine (show wpList _ _ _ _ _ W3.drew from ?_)
                    generalize hW3 : W3.drew = WD
                    have HR3 := hid (show Rep B WD bm G from hW3 ▸ HR.out.drew)
                    have HM := hid HR3.out.live
                    have HB3 := hid (show Below be w WD from hW3 ▸ HBW.out.drew)
                    clear hW3
                    go_wp2_with (refine wpList_delete _ rfl 97 29 _ _ rfl (keyLaw_int Try.underlying29) Try.underlying97 G.bl G.lv (bt, t) HM.out rfl e.id rfl ?_; intro w4 hm4 hg4 hs4; have HR4 := hid (HR3.out.ldel (Chg.of_grown hg4 (fun k hk => (Option.some.inj hk).symm)) hm4); have HB4 := hid ((HB3.out.mono hB).trans ((Chg.of_grown (S := (· = G.bl)) hg4 (fun k hk => (Option.some.inj hk).symm)).below (Nat.le_trans (by omega) HB3.out.size) (fun k hk => hk ▸ HR3.out.base.2.2.2))); clear hm4 hg4 hs4)
                    go_ret
                    exact Ends.yes (G' := { G with lv := adel G.lv e.id }) rfl HB4.out (by rw [HP.out]; simp [Gm.ma, delLive, adel_map (fun p : Nat × Tm => p.2)]) HR4.out
                · have hn' : (t.dl != G.now) = true := by simp [hn]
                  have HP := hid (show fireM G.ma c e = none by rw [fireM_some HG.out]; simp [hw, ha, hb, hgn, hd, ht, hn])
                  have HE0 := hid HE.out
                  refine wp_region_any (by kernel_rfl) ?_
                  show wpAny _ _ _ _ 59 _ _ W1.drew
                  refine wpAny_take (i := 0) (v := ptrV bm) rfl (by kernel_rfl) (by kernel_rfl) (by kernel_rfl) (fun _ _ _ h => h) (Or.inl ⟨by rfl, fun w => by go_simp⟩) ?_
                  refine wpAny_step (k := 1) (by kernel_rfl) rfl (fun K hK => ?_)
                  go_simp
                  refine hK.out _ _ ?_
                  clear hK K
                  refine wpAny_step (k := 2) (by kernel_rfl) rfl (fun K hK => ?_)
                  go_simp
                  refine (what_any (c := c) [7] _ _ (Reads.built_at _ [.int .i64 7] 3 1 _ (by simp)) (by simp) (hc ▸ (HR.out.drew.alloc _).mach.cell 9 rfl) ((HC.out.drew.alloc _).cell 3 rfl)).mono ?_
                  rintro x w' ⟨hx, rfl⟩
                  rw [HW.out] at hx
                  subst hx
                  refine hK.out _ _ ?_
                  clear hK K
                  refine wpAny_quiet_rest (k := 3) _ (by kernel_rfl) (by kernel_rfl) rfl (by kernel_rfl) ?_
                  simp only [List.drop_succ_cons, List.drop_zero]
                  generalize hW2 : W1.drew.alloc _ = W2
                  replace HR := hid (show Rep B W2 bm G from hW2 ▸ HR.out.drew.alloc _)
                  replace HE := hid (show Blk W2 be 31 (evC e) from hW2 ▸ HE.out.drew.alloc _)
                  replace HBW := hid (show Below be w W2 from hW2 ▸ (HBW.out.drew.alloc (Nat.le_trans (Nat.le_of_lt HE0.out.lt) (by simp)) _))
                  replace HC := hid (show Blk W2 b 126 (clC c) from hW2 ▸ HC.out.drew.alloc _)
                  clear hW2 HE0
                  replace HT : Hid (Blk W2 bt 151 (tmC t)) := (HR.out.tm _ ((aget_mem HR.out.live.nodup).1 HG.out)).1
                  have m_now : W2.cell? ⟨bm, 1, none⟩ = some (.int .u64 G.now) := HR.out.mach.cell 1 rfl
                  have e_gen : W2.cell? ⟨be, 5, none⟩ = some (.int .u64 e.gen) := HE.out.cell 5 rfl
                  have e_dl : W2.cell? ⟨be, 6, none⟩ = some (.int .u64 e.dl) := HE.out.cell 6 rfl
                  have e_tk : W2.cell? ⟨be, 8, none⟩ = some (.int .u64 e.tk) := HE.out.cell 8 rfl
                  have t_g : W2.cell? ⟨bt, 0, none⟩ = some (.int .u64 t.gen) := HT.out.cell 0 rfl
                  have t_d : W2.cell? ⟨bt, 1, none⟩ = some (.int .u64 t.dl) := HT.out.cell 1 rfl
                  have t_a : W2.cell? ⟨bt, 4, none⟩ = some (.bool t.armed) := HT.out.cell 4 rfl
                  have t_b : W2.cell? ⟨bt, 5, none⟩ = some (.bool t.btw) := HT.out.cell 5 rfl
                  rw [ha] at t_a
                  rw [hb] at t_b
                  repeat (go_big_quiet_step (fail))
                  refine wpQuiet_nil ?_
                  intro _ hw'
                  obtain ⟨nq, hw''⟩ := hw'
                  subst hw''
                  go_wp2
                  go_ret
                  exact Ends.no rfl (below_drewN (HBW.out.mono hB) _) HP.out
              · have ht' : (e.tk != G.now) = true := by simp [ht]
                have HP := hid (show fireM G.ma c e = none by rw [fireM_some HG.out]; simp [hw, ha, hb, hgn, hd, ht])
                have HE0 := hid HE.out
                refine wp_region_any (by kernel_rfl) ?_
                show wpAny _ _ _ _ 59 _ _ W1.drew
                refine wpAny_take (i := 0) (v := ptrV bm) rfl (by kernel_rfl) (by kernel_rfl) (by kernel_rfl) (fun _ _ _ h => h) (Or.inl ⟨by rfl, fun w => by go_simp⟩) ?_
                refine wpAny_step (k := 1) (by kernel_rfl) rfl (fun K hK => ?_)
                go_simp
                refine hK.out _ _ ?_
                clear hK K
                refine wpAny_step (k := 2) (by kernel_rfl) rfl (fun K hK => ?_)
                go_simp
                refine (what_any (c := c) [7] _ _ (Reads.built_at _ [.int .i64 7] 3 1 _ (by simp)) (by simp) (hc ▸ (HR.out.drew.alloc _).mach.cell 9 rfl) ((HC.out.drew.alloc _).cell 3 rfl)).mono ?_
                rintro x w' ⟨hx, rfl⟩
                rw [HW.out] at hx
                subst hx
                refine hK.out _ _ ?_
                clear hK K
                refine wpAny_quiet_rest (k := 3) _ (by kernel_rfl) (by kernel_rfl) rfl (by kernel_rfl) ?_
                simp only [List.drop_succ_cons, List.drop_zero]
                generalize hW2 : W1.drew.alloc _ = W2
                replace HR := hid (show Rep B W2 bm G from hW2 ▸ HR.out.drew.alloc _)
                replace HE := hid (show Blk W2 be 31 (evC e) from hW2 ▸ HE.out.drew.alloc _)
                replace HBW := hid (show Below be w W2 from hW2 ▸ (HBW.out.drew.alloc (Nat.le_trans (Nat.le_of_lt HE0.out.lt) (by simp)) _))
                replace HC := hid (show Blk W2 b 126 (clC c) from hW2 ▸ HC.out.drew.alloc _)
                clear hW2 HE0
                replace HT : Hid (Blk W2 bt 151 (tmC t)) := (HR.out.tm _ ((aget_mem HR.out.live.nodup).1 HG.out)).1
                have m_now : W2.cell? ⟨bm, 1, none⟩ = some (.int .u64 G.now) := HR.out.mach.cell 1 rfl
                have e_gen : W2.cell? ⟨be, 5, none⟩ = some (.int .u64 e.gen) := HE.out.cell 5 rfl
                have e_dl : W2.cell? ⟨be, 6, none⟩ = some (.int .u64 e.dl) := HE.out.cell 6 rfl
                have e_tk : W2.cell? ⟨be, 8, none⟩ = some (.int .u64 e.tk) := HE.out.cell 8 rfl
                have t_g : W2.cell? ⟨bt, 0, none⟩ = some (.int .u64 t.gen) := HT.out.cell 0 rfl
                have t_d : W2.cell? ⟨bt, 1, none⟩ = some (.int .u64 t.dl) := HT.out.cell 1 rfl
                have t_a : W2.cell? ⟨bt, 4, none⟩ = some (.bool t.armed) := HT.out.cell 4 rfl
                have t_b : W2.cell? ⟨bt, 5, none⟩ = some (.bool t.btw) := HT.out.cell 5 rfl
                rw [ha] at t_a
                rw [hb] at t_b
                repeat (go_big_quiet_step (fail))
                refine wpQuiet_nil ?_
                intro _ hw'
                obtain ⟨nq, hw''⟩ := hw'
                subst hw''
                go_wp2
                go_ret
                exact Ends.no rfl (below_drewN (HBW.out.mono hB) _) HP.out
            · have hd' : (e.dl != t.dl) = true := by simp [hd]
              have HP := hid (show fireM G.ma c e = none by rw [fireM_some HG.out]; simp [hw, ha, hb, hgn, hd])
              have HE0 := hid HE.out
              refine wp_region_any (by kernel_rfl) ?_
              show wpAny _ _ _ _ 59 _ _ W1.drew
              refine wpAny_take (i := 0) (v := ptrV bm) rfl (by kernel_rfl) (by kernel_rfl) (by kernel_rfl) (fun _ _ _ h => h) (Or.inl ⟨by rfl, fun w => by go_simp⟩) ?_
              refine wpAny_step (k := 1) (by kernel_rfl) rfl (fun K hK => ?_)
              go_simp
              refine hK.out _ _ ?_
              clear hK K
              refine wpAny_step (k := 2) (by kernel_rfl) rfl (fun K hK => ?_)
              go_simp
              refine (what_any (c := c) [7] _ _ (Reads.built_at _ [.int .i64 7] 3 1 _ (by simp)) (by simp) (hc ▸ (HR.out.drew.alloc _).mach.cell 9 rfl) ((HC.out.drew.alloc _).cell 3 rfl)).mono ?_
              rintro x w' ⟨hx, rfl⟩
              rw [HW.out] at hx
              subst hx
              refine hK.out _ _ ?_
              clear hK K
              refine wpAny_quiet_rest (k := 3) _ (by kernel_rfl) (by kernel_rfl) rfl (by kernel_rfl) ?_
              simp only [List.drop_succ_cons, List.drop_zero]
              generalize hW2 : W1.drew.alloc _ = W2
              replace HR := hid (show Rep B W2 bm G from hW2 ▸ HR.out.drew.alloc _)
              replace HE := hid (show Blk W2 be 31 (evC e) from hW2 ▸ HE.out.drew.alloc _)
              replace HBW := hid (show Below be w W2 from hW2 ▸ (HBW.out.drew.alloc (Nat.le_trans (Nat.le_of_lt HE0.out.lt) (by simp)) _))
              replace HC := hid (show Blk W2 b 126 (clC c) from hW2 ▸ HC.out.drew.alloc _)
              clear hW2 HE0
              replace HT : Hid (Blk W2 bt 151 (tmC t)) := (HR.out.tm _ ((aget_mem HR.out.live.nodup).1 HG.out)).1
              have m_now : W2.cell? ⟨bm, 1, none⟩ = some (.int .u64 G.now) := HR.out.mach.cell 1 rfl
              have e_gen : W2.cell? ⟨be, 5, none⟩ = some (.int .u64 e.gen) := HE.out.cell 5 rfl
              have e_dl : W2.cell? ⟨be, 6, none⟩ = some (.int .u64 e.dl) := HE.out.cell 6 rfl
              have e_tk : W2.cell? ⟨be, 8, none⟩ = some (.int .u64 e.tk) := HE.out.cell 8 rfl
              have t_g : W2.cell? ⟨bt, 0, none⟩ = some (.int .u64 t.gen) := HT.out.cell 0 rfl
              have t_d : W2.cell? ⟨bt, 1, none⟩ = some (.int .u64 t.dl) := HT.out.cell 1 rfl
              have t_a : W2.cell? ⟨bt, 4, none⟩ = some (.bool t.armed) := HT.out.cell 4 rfl
              have t_b : W2.cell? ⟨bt, 5, none⟩ = some (.bool t.btw) := HT.out.cell 5 rfl
              rw [ha] at t_a
              rw [hb] at t_b
              repeat (go_big_quiet_step (fail))
              refine wpQuiet_nil ?_
              intro _ hw'
              obtain ⟨nq, hw''⟩ := hw'
              subst hw''
              go_wp2
              go_ret
              exact Ends.no rfl (below_drewN (HBW.out.mono hB) _) HP.out
          · have hgn' : (e.gen != t.gen) = true := by simp [hgn]
            have HP := hid (show fireM G.ma c e = none by rw [fireM_some HG.out]; simp [hw, ha, hb, hgn])
            have HE0 := hid HE.out
            refine wp_region_any (by kernel_rfl) ?_
            show wpAny _ _ _ _ 59 _ _ W1.drew
            refine wpAny_take (i := 0) (v := ptrV bm) rfl (by kernel_rfl) (by kernel_rfl) (by kernel_rfl) (fun _ _ _ h => h) (Or.inl ⟨by rfl, fun w => by go_simp⟩) ?_
            refine wpAny_step (k := 1) (by kernel_rfl) rfl (fun K hK => ?_)
            go_simp
            refine hK.out _ _ ?_
            clear hK K
            refine wpAny_step (k := 2) (by kernel_rfl) rfl (fun K hK => ?_)
            go_simp
            refine (what_any (c := c) [7] _ _ (Reads.built_at _ [.int .i64 7] 3 1 _ (by simp)) (by simp) (hc ▸ (HR.out.drew.alloc _).mach.cell 9 rfl) ((HC.out.drew.alloc _).cell 3 rfl)).mono ?_
            rintro x w' ⟨hx, rfl⟩
            rw [HW.out] at hx
            subst hx
            refine hK.out _ _ ?_
            clear hK K
            refine wpAny_quiet_rest (k := 3) _ (by kernel_rfl) (by kernel_rfl) rfl (by kernel_rfl) ?_
            simp only [List.drop_succ_cons, List.drop_zero]
            generalize hW2 : W1.drew.alloc _ = W2
            replace HR := hid (show Rep B W2 bm G from hW2 ▸ HR.out.drew.alloc _)
            replace HE := hid (show Blk W2 be 31 (evC e) from hW2 ▸ HE.out.drew.alloc _)
            replace HBW := hid (show Below be w W2 from hW2 ▸ (HBW.out.drew.alloc (Nat.le_trans (Nat.le_of_lt HE0.out.lt) (by simp)) _))
            replace HC := hid (show Blk W2 b 126 (clC c) from hW2 ▸ HC.out.drew.alloc _)
            clear hW2 HE0
            replace HT : Hid (Blk W2 bt 151 (tmC t)) := (HR.out.tm _ ((aget_mem HR.out.live.nodup).1 HG.out)).1
            have m_now : W2.cell? ⟨bm, 1, none⟩ = some (.int .u64 G.now) := HR.out.mach.cell 1 rfl
            have e_gen : W2.cell? ⟨be, 5, none⟩ = some (.int .u64 e.gen) := HE.out.cell 5 rfl
            have e_dl : W2.cell? ⟨be, 6, none⟩ = some (.int .u64 e.dl) := HE.out.cell 6 rfl
            have e_tk : W2.cell? ⟨be, 8, none⟩ = some (.int .u64 e.tk) := HE.out.cell 8 rfl
            have t_g : W2.cell? ⟨bt, 0, none⟩ = some (.int .u64 t.gen) := HT.out.cell 0 rfl
            have t_d : W2.cell? ⟨bt, 1, none⟩ = some (.int .u64 t.dl) := HT.out.cell 1 rfl
            have t_a : W2.cell? ⟨bt, 4, none⟩ = some (.bool t.armed) := HT.out.cell 4 rfl
            have t_b : W2.cell? ⟨bt, 5, none⟩ = some (.bool t.btw) := HT.out.cell 5 rfl
            rw [ha] at t_a
            rw [hb] at t_b
            repeat (go_big_quiet_step (fail))
            refine wpQuiet_nil ?_
            intro _ hw'
            obtain ⟨nq, hw''⟩ := hw'
            subst hw''
            go_wp2
            go_ret
            exact Ends.no rfl (below_drewN (HBW.out.mono hB) _) HP.out
        · have HP := hid (show fireM G.ma c e = none by rw [fireM_some HG.out]; simp [hw, ha, hb])
          have HE0 := hid HE.out
          refine wp_region_any (by kernel_rfl) ?_
          show wpAny _ _ _ _ 59 _ _ W1.drew
          refine wpAny_take (i := 0) (v := ptrV bm) rfl (by kernel_rfl) (by kernel_rfl) (by kernel_rfl) (fun _ _ _ h => h) (Or.inl ⟨by rfl, fun w => by go_simp⟩) ?_
          refine wpAny_step (k := 1) (by kernel_rfl) rfl (fun K hK => ?_)
          go_simp
          refine hK.out _ _ ?_
          clear hK K
          refine wpAny_step (k := 2) (by kernel_rfl) rfl (fun K hK => ?_)
          go_simp
          refine (what_any (c := c) [7] _ _ (Reads.built_at _ [.int .i64 7] 3 1 _ (by simp)) (by simp) (hc ▸ (HR.out.drew.alloc _).mach.cell 9 rfl) ((HC.out.drew.alloc _).cell 3 rfl)).mono ?_
          rintro x w' ⟨hx, rfl⟩
          rw [HW.out] at hx
          subst hx
          refine hK.out _ _ ?_
          clear hK K
          refine wpAny_quiet_rest (k := 3) _ (by kernel_rfl) (by kernel_rfl) rfl (by kernel_rfl) ?_
          simp only [List.drop_succ_cons, List.drop_zero]
          generalize hW2 : W1.drew.alloc _ = W2
          replace HR := hid (show Rep B W2 bm G from hW2 ▸ HR.out.drew.alloc _)
          replace HE := hid (show Blk W2 be 31 (evC e) from hW2 ▸ HE.out.drew.alloc _)
          replace HBW := hid (show Below be w W2 from hW2 ▸ (HBW.out.drew.alloc (Nat.le_trans (Nat.le_of_lt HE0.out.lt) (by simp)) _))
          replace HC := hid (show Blk W2 b 126 (clC c) from hW2 ▸ HC.out.drew.alloc _)
          clear hW2 HE0
          replace HT : Hid (Blk W2 bt 151 (tmC t)) := (HR.out.tm _ ((aget_mem HR.out.live.nodup).1 HG.out)).1
          have m_now : W2.cell? ⟨bm, 1, none⟩ = some (.int .u64 G.now) := HR.out.mach.cell 1 rfl
          have e_gen : W2.cell? ⟨be, 5, none⟩ = some (.int .u64 e.gen) := HE.out.cell 5 rfl
          have e_dl : W2.cell? ⟨be, 6, none⟩ = some (.int .u64 e.dl) := HE.out.cell 6 rfl
          have e_tk : W2.cell? ⟨be, 8, none⟩ = some (.int .u64 e.tk) := HE.out.cell 8 rfl
          have t_g : W2.cell? ⟨bt, 0, none⟩ = some (.int .u64 t.gen) := HT.out.cell 0 rfl
          have t_d : W2.cell? ⟨bt, 1, none⟩ = some (.int .u64 t.dl) := HT.out.cell 1 rfl
          have t_a : W2.cell? ⟨bt, 4, none⟩ = some (.bool t.armed) := HT.out.cell 4 rfl
          have t_b : W2.cell? ⟨bt, 5, none⟩ = some (.bool t.btw) := HT.out.cell 5 rfl
          rw [ha] at t_a
          rw [hb] at t_b
          repeat (go_big_quiet_step (fail))
          refine wpQuiet_nil ?_
          intro _ hw'
          obtain ⟨nq, hw''⟩ := hw'
          subst hw''
          go_wp2
          go_ret
          exact Ends.no rfl (below_drewN (HBW.out.mono hB) _) HP.out
    · have HW := hid (show decide (c.bg.what ∈ [7]) = false by simp [hw])
      have HP := hid (show fireM G.ma c e = none by rw [fireM_some HG.out]; simp [hw])
      have HE0 := hid HE.out
      refine wp_region_any (by kernel_rfl) ?_
      show wpAny _ _ _ _ 59 _ _ W1.drew
      refine wpAny_take (i := 0) (v := ptrV bm) rfl (by kernel_rfl) (by kernel_rfl) (by kernel_rfl) (fun _ _ _ h => h) (Or.inl ⟨by rfl, fun w => by go_simp⟩) ?_
      refine wpAny_step (k := 1) (by kernel_rfl) rfl (fun K hK => ?_)
      go_simp
      refine hK.out _ _ ?_
      clear hK K
      refine wpAny_step (k := 2) (by kernel_rfl) rfl (fun K hK => ?_)
      go_simp
      refine (what_any (c := c) [7] _ _ (Reads.built_at _ [.int .i64 7] 3 1 _ (by simp)) (by simp) (hc ▸ (HR.out.drew.alloc _).mach.cell 9 rfl) ((HC.out.drew.alloc _).cell 3 rfl)).mono ?_
      rintro x w' ⟨hx, rfl⟩
      rw [HW.out] at hx
      subst hx
      refine hK.out _ _ ?_
      clear hK K
      refine wpAny_quiet_rest (k := 3) _ (by kernel_rfl) (by kernel_rfl) rfl (by kernel_rfl) ?_
      simp only [List.drop_succ_cons, List.drop_zero]
      generalize hW2 : W1.drew.alloc _ = W2
      replace HR := hid (show Rep B W2 bm G from hW2 ▸ HR.out.drew.alloc _)
      replace HE := hid (show Blk W2 be 31 (evC e) from hW2 ▸ HE.out.drew.alloc _)
      replace HBW := hid (show Below be w W2 from hW2 ▸ (HBW.out.drew.alloc (Nat.le_trans (Nat.le_of_lt HE0.out.lt) (by simp)) _))
      replace HC := hid (show Blk W2 b 126 (clC c) from hW2 ▸ HC.out.drew.alloc _)
      clear hW2 HE0
      replace HT : Hid (Blk W2 bt 151 (tmC t)) := (HR.out.tm _ ((aget_mem HR.out.live.nodup).1 HG.out)).1
      have m_now : W2.cell? ⟨bm, 1, none⟩ = some (.int .u64 G.now) := HR.out.mach.cell 1 rfl
      have e_gen : W2.cell? ⟨be, 5, none⟩ = some (.int .u64 e.gen) := HE.out.cell 5 rfl
      have e_dl : W2.cell? ⟨be, 6, none⟩ = some (.int .u64 e.dl) := HE.out.cell 6 rfl
      have e_tk : W2.cell? ⟨be, 8, none⟩ = some (.int .u64 e.tk) := HE.out.cell 8 rfl
      have t_g : W2.cell? ⟨bt, 0, none⟩ = some (.int .u64 t.gen) := HT.out.cell 0 rfl
      have t_d : W2.cell? ⟨bt, 1, none⟩ = some (.int .u64 t.dl) := HT.out.cell 1 rfl
      have t_a : W2.cell? ⟨bt, 4, none⟩ = some (.bool t.armed) := HT.out.cell 4 rfl
      have t_b : W2.cell? ⟨bt, 5, none⟩ = some (.bool t.btw) := HT.out.cell 5 rfl
      repeat (go_big_quiet_step (fail))
      refine wpQuiet_nil ?_
      intro _ hw'
      obtain ⟨nq, hw''⟩ := hw'
      subst hw''
      go_wp2
      go_ret
      exact Ends.no rfl (below_drewN (HBW.out.mono hB) _) HP.out
end Go.Proofs.Ytpnkkdpggofanaa
