/- spec's rules by their walks: each does what the plain machine does. -/
import Derived.Test.YtpnkkdpggofanaaSpecC
namespace Go.Proofs.Ytpnkkdpggofanaa
open Go.RowKit

set_option maxRecDepth 4000 in
set_option maxHeartbeats 8000000 in
theorem leave_any (B : Nat) (w : World) {bm b i : Nat} {c : Cl} {G : Gm} (h : Rep B w bm G) (hB : B ≤ w.heap.size) (hi : G.cs[i]? = some (b, c)) (_hc : G.cp = ptrV b) (e : Ev) (_he : e.wf) :
    Calls Try.prog 87 #[ptrV bm, evV e] w fun x w' => Ends B bm w (leaveM G.ma e) x w' := by
  go_enter Try.func87, Try.ntmps87
  go_wp2
  generalize hW : w.alloc _ = W
  obtain ⟨hR, hE, hBW, hsz⟩ := h.boxed e hW
  clear hW h
  generalize hBE : w.heap.size = be at *
  have HR := hid hR
  have HE := hid hE
  have HBW := hid hBW
  have HC : Hid (Blk W b 126 (clC c)) := (HR.out.cl _ (List.mem_of_getElem? hi)).1
  clear hR hE hBW
  cases hg : aget G.lv e.id with
  | none =>
    have hlp : liveP G e.id = .pointer none := by simp [liveP, hg]
    have HG := hid hg
    have m_live : W.cell? ⟨bm, 8, none⟩ = some (.map (some G.bl)) := HR.out.mach.cell 8 rfl
    have e_id : W.cell? ⟨be, 4, none⟩ = some (.int .u64 e.id) := HE.out.cell 4 rfl
    have hl := fun n => (HR.out.drewN n).look e.id
    rw [hlp] at hl
    clear hg hlp
    go_quiet (fail)
    go_wp2
    clear m_live e_id hl
    generalize hW1 : W.drewN _ = W1
    replace HR := hid (show Rep B W1 bm G from hW1 ▸ HR.out.drewN _)
    replace HE := hid (show Blk W1 be 31 (evC e) from hW1 ▸ HE.out)
    replace HBW := hid (show Below be w W1 from hW1 ▸ below_drewN HBW.out _)
    replace HC := hid (show Blk W1 b 126 (clC c) from hW1 ▸ HC.out)
    clear hW1
    have m_closed : W1.cell? ⟨bm, 2, none⟩ = some (.bool G.closed) := HR.out.mach.cell 2 rfl
    have m_closer : W1.cell? ⟨bm, 4, none⟩ = some (.int .i64 G.closer) := HR.out.mach.cell 4 rfl
    have e_call : W1.cell? ⟨be, 2, none⟩ = some (.int .i64 e.call) := HE.out.cell 2 rfl
    have hN := lv_none HG.out
    cases h1 : G.closed
    · rw [h1] at m_closed
      have HP := hid (show leaveM G.ma e = none by unfold leaveM; rw [hN]; simp [Gm.ma, h1])
      clear hN
      go_quiet (fail)
      go_wp2
      go_ret
      exact Ends.no rfl (below_drewN (HBW.out.mono hB) _) HP.out
    · by_cases h2 : G.closer = e.call
      · have h2' : (G.closer != e.call) = false := by simp [h2]
        rw [h1] at m_closed
        have HP := hid (show leaveM G.ma e = none by unfold leaveM; rw [hN]; simp [Gm.ma, h1, h2])
        clear hN
        go_quiet (fail)
        go_wp2
        go_ret
        exact Ends.no rfl (below_drewN (HBW.out.mono hB) _) HP.out
      · have h2' : (G.closer != e.call) = true := by simp [h2]
        rw [h1] at m_closed
        have HP := hid (show leaveM G.ma e = none by unfold leaveM; rw [hN]; simp [Gm.ma, h1, h2])
        clear hN
        go_quiet (fail)
        go_wp2
        go_ret
        exact Ends.no rfl (below_drewN (HBW.out.mono hB) _) HP.out
  | some p =>
    obtain ⟨bt, t⟩ := p
    have hlp : liveP G e.id = ptrV bt := by simp [liveP, hg]
    have HG := hid hg
    have m_live : W.cell? ⟨bm, 8, none⟩ = some (.map (some G.bl)) := HR.out.mach.cell 8 rfl
    have e_id : W.cell? ⟨be, 4, none⟩ = some (.int .u64 e.id) := HE.out.cell 4 rfl
    have hl := fun n => (HR.out.drewN n).look e.id
    rw [hlp] at hl
    clear hg hlp
    go_quiet (fail)
    go_wp2
    clear m_live e_id hl
    generalize hW1 : W.drewN _ = W1
    replace HR := hid (show Rep B W1 bm G from hW1 ▸ HR.out.drewN _)
    replace HE := hid (show Blk W1 be 31 (evC e) from hW1 ▸ HE.out)
    replace HBW := hid (show Below be w W1 from hW1 ▸ below_drewN HBW.out _)
    replace HC := hid (show Blk W1 b 126 (clC c) from hW1 ▸ HC.out)
    clear hW1
    have HT : Hid (Blk W1 bt 151 (tmC t)) := (HR.out.tm _ ((aget_mem HR.out.live.nodup).1 HG.out)).1
    have m_closed : W1.cell? ⟨bm, 2, none⟩ = some (.bool G.closed) := HR.out.mach.cell 2 rfl
    have m_closer : W1.cell? ⟨bm, 4, none⟩ = some (.int .i64 G.closer) := HR.out.mach.cell 4 rfl
    have e_call : W1.cell? ⟨be, 2, none⟩ = some (.int .i64 e.call) := HE.out.cell 2 rfl
    have e_gen : W1.cell? ⟨be, 5, none⟩ = some (.int .u64 e.gen) := HE.out.cell 5 rfl
    have t_b : W1.cell? ⟨bt, 5, none⟩ = some (.bool t.btw) := HT.out.cell 5 rfl
    have t_g : W1.cell? ⟨bt, 0, none⟩ = some (.int .u64 t.gen) := HT.out.cell 0 rfl
    have hN := lv_some HG.out
    cases h1 : G.closed
    · rw [h1] at m_closed
      have HP := hid (show leaveM G.ma e = none by unfold leaveM; rw [hN]; simp [h1, Gm.ma])
      clear hN
      go_quiet (fail)
      go_wp2
      go_ret
      exact Ends.no rfl (below_drewN (HBW.out.mono hB) _) HP.out
    · by_cases h2 : G.closer = e.call
      · have h2' : (G.closer != e.call) = false := by simp [h2]
        cases h3 : t.btw
        · by_cases h4 : e.gen = t.gen
          · have h4' : (e.gen != t.gen) = false := by simp [h4]
            rw [h1] at m_closed
            rw [h3] at t_b
            have HP := hid (show leaveM G.ma e = some (delLive G.ma e.id) by unfold leaveM; rw [hN]; simp [h1, h2, h3, h4, Gm.ma, delLive])
            clear hN
            go_quiet (fail)
            clear m_closed m_closer e_call e_gen t_b t_g
            generalize hW1 : W1.drewN _ = W3
            replace HR := hid (show Rep B W3 bm G from hW1 ▸ HR.out.drewN _)
            replace HE := hid (show Blk W3 be 31 (evC e) from hW1 ▸ HE.out)
            replace HBW := hid (show Below be w W3 from hW1 ▸ below_drewN HBW.out _)
            replace HC := hid (show Blk W3 b 126 (clC c) from hW1 ▸ HC.out)
            clear hW1
            replace HT : Hid (Blk W3 bt 151 (tmC t)) := (HR.out.tm _ ((aget_mem HR.out.live.nodup).1 HG.out)).1
            have m_live : W3.cell? ⟨bm, 8, none⟩ = some (.map (some G.bl)) := HR.out.mach.cell 8 rfl
            have e_id : W3.cell? ⟨be, 4, none⟩ = some (.int .u64 e.id) := HE.out.cell 4 rfl
            have t_g : W3.cell? ⟨bt, 0, none⟩ = some (.int .u64 t.gen) := HT.out.cell 0 rfl
            go_wp2
            go_still_tail 6, (by kernel_rfl)
            refine (show wpList _ _ _ _ _ W3.drew from ?_)
            generalize hW3 : W3.drew = WD
            have HR3 := hid (show Rep B WD bm G from hW3 ▸ HR.out.drew)
            have HM := hid HR3.out.live
            have HB3 := hid (show Below be w WD from hW3 ▸ HBW.out.drew)
            clear hW3
            go_wp2_with (refine wpList_delete _ rfl 97 29 _ _ rfl (keyLaw_int Try.underlying29) Try.underlying97 G.bl G.lv (bt, t) HM.out rfl e.id rfl ?_; intro w4 hm4 hg4 hs4; have HR4 := hid (HR3.out.ldel (Chg.of_grown hg4 (fun k hk => (Option.some.inj hk).symm)) hm4); have HB4 := hid ((HB3.out.mono hB).trans ((Chg.of_grown (S := (· = G.bl)) hg4 (fun k hk => (Option.some.inj hk).symm)).below (Nat.le_trans (by omega) HB3.out.size) (fun k hk => hk ▸ HR3.out.base.2.2.2))); clear hm4 hg4 hs4)
            go_ret
            exact Ends.yes (G' := { G with lv := adel G.lv e.id }) rfl HB4.out (by rw [HP.out, delLive_ma]) HR4.out
          · have h4' : (e.gen != t.gen) = true := by simp [h4]
            rw [h1] at m_closed
            rw [h3] at t_b
            have HP := hid (show leaveM G.ma e = none by unfold leaveM; rw [hN]; simp [h1, h2, h3, h4, Gm.ma])
            clear hN
            go_quiet (fail)
            go_wp2
            go_ret
            exact Ends.no rfl (below_drewN (HBW.out.mono hB) _) HP.out
        · rw [h1] at m_closed
          rw [h3] at t_b
          have HP := hid (show leaveM G.ma e = none by unfold leaveM; rw [hN]; simp [h1, h2, h3, Gm.ma])
          clear hN
          go_quiet (fail)
          go_wp2
          go_ret
          exact Ends.no rfl (below_drewN (HBW.out.mono hB) _) HP.out
      · have h2' : (G.closer != e.call) = true := by simp [h2]
        rw [h1] at m_closed
        have HP := hid (show leaveM G.ma e = none by unfold leaveM; rw [hN]; simp [h1, h2, Gm.ma])
        clear hN
        go_quiet (fail)
        go_wp2
        go_ret
        exact Ends.no rfl (below_drewN (HBW.out.mono hB) _) HP.out
end Go.Proofs.Ytpnkkdpggofanaa
