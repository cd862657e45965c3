/- spec's rules by their walks: each does what the plain machine does. -/
import Derived.Test.YtpnkkdpggofanaaSpecC
namespace Go.Proofs.Ytpnkkdpggofanaa
open Go.RowKit

set_option maxRecDepth 4000 in
set_option maxHeartbeats 8000000 in
theorem close_any (B : Nat) (w : World) {bm b i : Nat} {c : Cl} {G : Gm} (h : Rep B w bm G) (hB : B ≤ w.heap.size) (hi : G.cs[i]? = some (b, c)) (hc : G.cp = ptrV b) (e : Ev) (_he : e.wf) :
    Calls Try.prog 86 #[ptrV bm, evV e] w fun x w' => Ends B bm w (closeM G.ma c e) x w' := by
  go_enter Try.func86, Try.ntmps86
  have HH := hid h
  clear h
  by_cases hw : c.bg.what = 6
  · have HW := hid (show decide (c.bg.what ∈ [6]) = true by simp [hw])
    cases hcl : G.closed
    · have HP := hid (show closeM G.ma c e = some ({ G with closed := true, closer := e.call } : Gm).ma by unfold closeM; simp [hw, hcl, Gm.ma])
      go_wp2_with (go_at_call 102; generalize hW : World.alloc w _ = W; obtain ⟨hR, hE, hBW, hsz⟩ := HH.out.boxed e hW; clear hW HH; generalize hBE : w.heap.size = be at *; have HR := hid hR; have HE := hid hE; have HBW := hid hBW; have HC : Hid (Blk W b 126 (clC c)) := (HR.out.cl _ (List.mem_of_getElem? hi)).1; clear hR hE hBW; have HE0 := hid HE.out; have HEp := hid HE.out; refine (what_any (c := c) [6] _ _ (Reads.built_at _ [.int .i64 6] 3 1 _ (by first | omega | simp)) (by simp) (hc ▸ (HR.out.alloc _).mach.cell 9 rfl) ((HC.out.alloc _).cell 3 rfl)).mono ?_; rintro x w' ⟨hx, rfl⟩; rw [HW.out] at hx; subst hx; generalize hW2 : World.alloc _ _ = W2; replace HR := hid (show Rep B W2 bm G from hW2 ▸ HR.out.alloc _); replace HE := hid (show Blk W2 be 31 (evC e) from hW2 ▸ HE.out.alloc _); replace HBW := hid (show Below be w W2 from hW2 ▸ (HBW.out.alloc (Nat.le_of_lt HEp.out.lt) _)); replace HC := hid (show Blk W2 b 126 (clC c) from hW2 ▸ HC.out.alloc _); clear hW2; clear HEp; have m_closed : W2.cell? ⟨bm, 2, none⟩ = some (.bool G.closed) := HR.out.mach.cell 2 rfl; have m_closer : W2.cell? ⟨bm, 4, none⟩ = some (.int .i64 G.closer) := HR.out.mach.cell 4 rfl; have e_call : W2.cell? ⟨be, 2, none⟩ = some (.int .i64 e.call) := HE.out.cell 2 rfl; rw [hcl] at m_closed; have f2 := HR.out.mach.frozen 2; have f4 := HR.out.mach.frozen 4; have hne : be ≠ bm := fun h => HE.out.ne HR.out.mach (by decide) h; have hne' := hne.symm)
      go_region_held3 (fun W => W.cell? ⟨be, 2, none⟩ = some (.int .i64 e.call)) (go_keep) (fail)
      all_goals go_wp2
      all_goals go_ret
      have hch := (((Chg.refl (· = bm) W2).sets rfl 2 (.bool true)).sets rfl 4 (.int .i64 e.call)).drew
      exact Ends.yes (G' := { G with closed := true, closer := e.call }) rfl (below_chg (HBW.out.mono hB) (by omega) hch (fun k hk => hk ▸ HR.out.base.1)) HP.out (HR.out.mset hch HR.out.now (show Blk _ bm _ (mC _) from (HR.out.mach.set 2 (.bool true)).set 4 (.int .i64 e.call)))
    · have HP := hid (show closeM G.ma c e = none by unfold closeM; simp [hw, hcl, Gm.ma])
      go_wp2_with (go_at_call 102; generalize hW : World.alloc w _ = W; obtain ⟨hR, hE, hBW, hsz⟩ := HH.out.boxed e hW; clear hW HH; generalize hBE : w.heap.size = be at *; have HR := hid hR; have HE := hid hE; have HBW := hid hBW; have HC : Hid (Blk W b 126 (clC c)) := (HR.out.cl _ (List.mem_of_getElem? hi)).1; clear hR hE hBW; have HE0 := hid HE.out; have HEp := hid HE.out; refine (what_any (c := c) [6] _ _ (Reads.built_at _ [.int .i64 6] 3 1 _ (by first | omega | simp)) (by simp) (hc ▸ (HR.out.alloc _).mach.cell 9 rfl) ((HC.out.alloc _).cell 3 rfl)).mono ?_; rintro x w' ⟨hx, rfl⟩; rw [HW.out] at hx; subst hx; generalize hW2 : World.alloc _ _ = W2; replace HR := hid (show Rep B W2 bm G from hW2 ▸ HR.out.alloc _); replace HE := hid (show Blk W2 be 31 (evC e) from hW2 ▸ HE.out.alloc _); replace HBW := hid (show Below be w W2 from hW2 ▸ (HBW.out.alloc (Nat.le_of_lt HEp.out.lt) _)); replace HC := hid (show Blk W2 b 126 (clC c) from hW2 ▸ HC.out.alloc _); clear hW2; clear HEp; have m_closed : W2.cell? ⟨bm, 2, none⟩ = some (.bool G.closed) := HR.out.mach.cell 2 rfl; rw [hcl] at m_closed)
      go_ret
      exact Ends.no rfl (HBW.out.mono hB) HP.out
  · have HW := hid (show decide (c.bg.what ∈ [6]) = false by simp [hw])
    have HP := hid (show closeM G.ma c e = none by unfold closeM; simp [hw, Gm.ma])
    go_wp2_with (go_at_call 102; generalize hW : World.alloc w _ = W; obtain ⟨hR, hE, hBW, hsz⟩ := HH.out.boxed e hW; clear hW HH; generalize hBE : w.heap.size = be at *; have HR := hid hR; have HE := hid hE; have HBW := hid hBW; have HC : Hid (Blk W b 126 (clC c)) := (HR.out.cl _ (List.mem_of_getElem? hi)).1; clear hR hE hBW; have HE0 := hid HE.out; have HEp := hid HE.out; refine (what_any (c := c) [6] _ _ (Reads.built_at _ [.int .i64 6] 3 1 _ (by first | omega | simp)) (by simp) (hc ▸ (HR.out.alloc _).mach.cell 9 rfl) ((HC.out.alloc _).cell 3 rfl)).mono ?_; rintro x w' ⟨hx, rfl⟩; rw [HW.out] at hx; subst hx; generalize hW2 : World.alloc _ _ = W2; replace HR := hid (show Rep B W2 bm G from hW2 ▸ HR.out.alloc _); replace HE := hid (show Blk W2 be 31 (evC e) from hW2 ▸ HE.out.alloc _); replace HBW := hid (show Below be w W2 from hW2 ▸ (HBW.out.alloc (Nat.le_of_lt HEp.out.lt) _)); replace HC := hid (show Blk W2 b 126 (clC c) from hW2 ▸ HC.out.alloc _); clear hW2; clear HEp; have m_closed : W2.cell? ⟨bm, 2, none⟩ = some (.bool G.closed) := HR.out.mach.cell 2 rfl)
    go_ret
    exact Ends.no rfl (HBW.out.mono hB) HP.out
end Go.Proofs.Ytpnkkdpggofanaa
