/- spec's rules by their walks: each does what the plain machine does. -/
import Derived.Test.YtpnkkdpggofanaaSpecB
import Derived.Test.YtpnkkdpggofanaaOrder
namespace Go.Proofs.Ytpnkkdpggofanaa
open Go.RowKit

theorem fireM_none {G : Gm} {c : Cl} {e : Ev} (h : aget G.lv e.id = none) : fireM G.ma c e = none := by
  unfold fireM
  show (match aget (G.lv.map fun p => (p.1, p.2.2)) e.id with | none => _ | some t => _) = _
  rw [aget_map (fun p : Nat × Tm => p.2), h]; rfl
theorem fireM_some {G : Gm} {c : Cl} {e : Ev} {b : Nat} {t : Tm} (h : aget G.lv e.id = some (b, t)) : fireM G.ma c e = if c.bg.what != 7 || !t.armed || t.btw || e.gen != t.gen || e.dl != t.dl || e.tk != G.now || t.dl != G.now then none
      else if decide (t.per > 0) && !t.last then some (setLive G.ma e.id { t with btw := true }) else some (delLive G.ma e.id) := by
  unfold fireM
  show (match aget (G.lv.map fun p => (p.1, p.2.2)) e.id with | none => _ | some t => _) = _
  rw [aget_map (fun p : Nat × Tm => p.2), h]; rfl

set_option maxRecDepth 4000 in
set_option maxHeartbeats 8000000 in
theorem fire_any (B : Nat) (w : World) {bm b i : Nat} {c : Cl} {G : Gm} (h : Rep B w bm G) (hB : B ≤ w.heap.size) (hi : G.cs[i]? = some (b, c)) (hc : G.cp = ptrV b) (e : Ev) (_he : e.wf) :
    Calls Try.prog 77 #[ptrV bm, evV e] w fun x w' => Ends B bm w (fireM G.ma c e) x w' := by
  go_enter Try.func77, Try.ntmps77
  go_wp2
  generalize hW : w.alloc _ = W
  obtain ⟨hR, hE, hBW, hsz⟩ := h.boxed e hW
  clear hW h
  generalize hBE : w.heap.size = be at *
  have HR := hid hR
  have HE := hid hE
  have HBW := hid hBW
  have HC : Hid (Blk W b 126 (clC c)) := (HR.out.cl _ (List.mem_of_getElem? hi)).1
  clear hR hE hBW
  cases hg : aget G.lv e.id with
  | none =>
    have hlp : liveP G e.id = .pointer none := by simp [liveP, hg]
    have HG := hid hg
    have m_live : W.cell? ⟨bm, 8, none⟩ = some (.map (some G.bl)) := HR.out.mach.cell 8 rfl
    have e_id : W.cell? ⟨be, 4, none⟩ = some (.int .u64 e.id) := HE.out.cell 4 rfl
    have hl := fun n => (HR.out.drewN n).look e.id
    rw [hlp] at hl
    clear hg hlp
    go_quiet (fail)
    go_wp2
    clear m_live e_id hl
    generalize hW1 : W.drewN _ = W1
    replace HR := hid (show Rep B W1 bm G from hW1 ▸ HR.out.drewN _)
    replace HE := hid (show Blk W1 be 31 (evC e) from hW1 ▸ HE.out)
    replace HBW := hid (show Below be w W1 from hW1 ▸ below_drewN HBW.out _)
    replace HC := hid (show Blk W1 b 126 (clC c) from hW1 ▸ HC.out)
    clear hW1
    have HP := hid (show fireM G.ma c e = none from fireM_none HG.out)
    by_cases hw : c.bg.what = 7
    · have HW := hid (show decide (c.bg.what ∈ [7]) = true by simp [hw])
      have HE0 := hid HE.out
      refine wp_region_any (by kernel_rfl) ?_
      show wpAny _ _ _ _ 59 _ _ W1.drew
      refine wpAny_take (i := 0) (v := ptrV bm) rfl (by kernel_rfl) (by kernel_rfl) (by kernel_rfl) (fun _ _ _ h => h) (Or.inl ⟨by rfl, fun w => by go_simp⟩) ?_
      refine wpAny_step (k := 1) (by kernel_rfl) rfl (fun K hK => ?_)
      go_simp
      refine hK.out _ _ ?_
      clear hK K
      refine wpAny_step (k := 2) (by kernel_rfl) rfl (fun K hK => ?_)
      go_simp
      refine (what_any (c := c) [7] _ _ (Reads.built_at _ [.int .i64 7] 3 1 _ (by simp)) (by simp) (hc ▸ (HR.out.drew.alloc _).mach.cell 9 rfl) ((HC.out.drew.alloc _).cell 3 rfl)).mono ?_
      rintro x w' ⟨hx, rfl⟩
      rw [HW.out] at hx
      subst hx
      refine hK.out _ _ ?_
      clear hK K
      refine wpAny_quiet_rest (k := 3) _ (by kernel_rfl) (by kernel_rfl) rfl (by kernel_rfl) ?_
      simp only [List.drop_succ_cons, List.drop_zero]
      generalize hW2 : W1.drew.alloc _ = W2
      replace HR := hid (show Rep B W2 bm G from hW2 ▸ HR.out.drew.alloc _)
      replace HE := hid (show Blk W2 be 31 (evC e) from hW2 ▸ HE.out.drew.alloc _)
      replace HBW := hid (show Below be w W2 from hW2 ▸ (HBW.out.drew.alloc (Nat.le_trans (Nat.le_of_lt HE0.out.lt) (by simp)) _))
      replace HC := hid (show Blk W2 b 126 (clC c) from hW2 ▸ HC.out.drew.alloc _)
      clear hW2 HE0
      have m_now : W2.cell? ⟨bm, 1, none⟩ = some (.int .u64 G.now) := HR.out.mach.cell 1 rfl
      have e_gen : W2.cell? ⟨be, 5, none⟩ = some (.int .u64 e.gen) := HE.out.cell 5 rfl
      have e_dl : W2.cell? ⟨be, 6, none⟩ = some (.int .u64 e.dl) := HE.out.cell 6 rfl
      have e_tk : W2.cell? ⟨be, 8, none⟩ = some (.int .u64 e.tk) := HE.out.cell 8 rfl
      repeat (go_big_quiet_step (fail))
      refine wpQuiet_nil ?_
      intro _ hw'
      obtain ⟨nq, hw''⟩ := hw'
      subst hw''
      go_wp2
      go_ret
      exact Ends.no rfl (below_drewN (HBW.out.mono hB) _) HP.out
    · have HW := hid (show decide (c.bg.what ∈ [7]) = false by simp [hw])
      have HE0 := hid HE.out
      refine wp_region_any (by kernel_rfl) ?_
      show wpAny _ _ _ _ 59 _ _ W1.drew
      refine wpAny_take (i := 0) (v := ptrV bm) rfl (by kernel_rfl) (by kernel_rfl) (by kernel_rfl) (fun _ _ _ h => h) (Or.inl ⟨by rfl, fun w => by go_simp⟩) ?_
      refine wpAny_step (k := 1) (by kernel_rfl) rfl (fun K hK => ?_)
      go_simp
      refine hK.out _ _ ?_
      clear hK K
      refine wpAny_step (k := 2) (by kernel_rfl) rfl (fun K hK => ?_)
      go_simp
      refine (what_any (c := c) [7] _ _ (Reads.built_at _ [.int .i64 7] 3 1 _ (by simp)) (by simp) (hc ▸ (HR.out.drew.alloc _).mach.cell 9 rfl) ((HC.out.drew.alloc _).cell 3 rfl)).mono ?_
      rintro x w' ⟨hx, rfl⟩
      rw [HW.out] at hx
      subst hx
      refine hK.out _ _ ?_
      clear hK K
      refine wpAny_quiet_rest (k := 3) _ (by kernel_rfl) (by kernel_rfl) rfl (by kernel_rfl) ?_
      simp only [List.drop_succ_cons, List.drop_zero]
      generalize hW2 : W1.drew.alloc _ = W2
      replace HR := hid (show Rep B W2 bm G from hW2 ▸ HR.out.drew.alloc _)
      replace HE := hid (show Blk W2 be 31 (evC e) from hW2 ▸ HE.out.drew.alloc _)
      replace HBW := hid (show Below be w W2 from hW2 ▸ (HBW.out.drew.alloc (Nat.le_trans (Nat.le_of_lt HE0.out.lt) (by simp)) _))
      replace HC := hid (show Blk W2 b 126 (clC c) from hW2 ▸ HC.out.drew.alloc _)
      clear hW2 HE0
      have m_now : W2.cell? ⟨bm, 1, none⟩ = some (.int .u64 G.now) := HR.out.mach.cell 1 rfl
      have e_gen : W2.cell? ⟨be, 5, none⟩ = some (.int .u64 e.gen) := HE.out.cell 5 rfl
      have e_dl : W2.cell? ⟨be, 6, none⟩ = some (.int .u64 e.dl) := HE.out.cell 6 rfl
      have e_tk : W2.cell? ⟨be, 8, none⟩ = some (.int .u64 e.tk) := HE.out.cell 8 rfl
      repeat (go_big_quiet_step (fail))
      refine wpQuiet_nil ?_
      intro _ hw'
      obtain ⟨nq, hw''⟩ := hw'
      subst hw''
      go_wp2
      go_ret
      exact Ends.no rfl (below_drewN (HBW.out.mono hB) _) HP.out
  | some p =>
    obtain ⟨bt, t⟩ := p
    have hlp : liveP G e.id = ptrV bt := by simp [liveP, hg]
    have HG := hid hg
    have m_live : W.cell? ⟨bm, 8, none⟩ = some (.map (some G.bl)) := HR.out.mach.cell 8 rfl
    have e_id : W.cell? ⟨be, 4, none⟩ = some (.int .u64 e.id) := HE.out.cell 4 rfl
    have hl := fun n => (HR.out.drewN n).look e.id
    rw [hlp] at hl
    clear hg hlp
    go_quiet (fail)
    go_wp2
    clear m_live e_id hl
    generalize hW1 : W.drewN _ = W1
    replace HR := hid (show Rep B W1 bm G from hW1 ▸ HR.out.drewN _)
    replace HE := hid (show Blk W1 be 31 (evC e) from hW1 ▸ HE.out)
    replace HBW := hid (show Below be w W1 from hW1 ▸ below_drewN HBW.out _)
    replace HC := hid (show Blk W1 b 126 (clC c) from hW1 ▸ HC.out)
    clear hW1
    have HT : Hid (Blk W1 bt 151 (tmC t)) := (HR.out.tm _ ((aget_mem HR.out.live.nodup).1 HG.out)).1
    by_cases hw : c.bg.what = 7
    · have HW := hid (show decide (c.bg.what ∈ [7]) = true by simp [hw])
      cases ha : t.armed
      · have HP := hid (show fireM G.ma c e = none by rw [fireM_some HG.out]; simp [hw, ha])
        have HE0 := hid HE.out
        refine wp_region_any (by kernel_rfl) ?_
        show wpAny _ _ _ _ 59 _ _ W1.drew
        refine wpAny_take (i := 0) (v := ptrV bm) rfl (by kernel_rfl) (by kernel_rfl) (by kernel_rfl) (fun _ _ _ h => h) (Or.inl ⟨by rfl, fun w => by go_simp⟩) ?_
        refine wpAny_step (k := 1) (by kernel_rfl) rfl (fun K hK => ?_)
        go_simp
        refine hK.out _ _ ?_
        clear hK K
        refine wpAny_step (k := 2) (by kernel_rfl) rfl (fun K hK => ?_)
        go_simp
        refine (what_any (c := c) [7] _ _ (Reads.built_at _ [.int .i64 7] 3 1 _ (by simp)) (by simp) (hc ▸ (HR.out.drew.alloc _).mach.cell 9 rfl) ((HC.out.drew.alloc _).cell 3 rfl)).mono ?_
        rintro x w' ⟨hx, rfl⟩
        rw [HW.out] at hx
        subst hx
        refine hK.out _ _ ?_
        clear hK K
        refine wpAny_quiet_rest (k := 3) _ (by kernel_rfl) (by kernel_rfl) rfl (by kernel_rfl) ?_
        simp only [List.drop_succ_cons, List.drop_zero]
        generalize hW2 : W1.drew.alloc _ = W2
        replace HR := hid (show Rep B W2 bm G from hW2 ▸ HR.out.drew.alloc _)
        replace HE := hid (show Blk W2 be 31 (evC e) from hW2 ▸ HE.out.drew.alloc _)
        replace HBW := hid (show Below be w W2 from hW2 ▸ (HBW.out.drew.alloc (Nat.le_trans (Nat.le_of_lt HE0.out.lt) (by simp)) _))
        replace HC := hid (show Blk W2 b 126 (clC c) from hW2 ▸ HC.out.drew.alloc _)
        clear hW2 HE0
        replace HT : Hid (Blk W2 bt 151 (tmC t)) := (HR.out.tm _ ((aget_mem HR.out.live.nodup).1 HG.out)).1
        have m_now : W2.cell? ⟨bm, 1, none⟩ = some (.int .u64 G.now) := HR.out.mach.cell 1 rfl
        have e_gen : W2.cell? ⟨be, 5, none⟩ = some (.int .u64 e.gen) := HE.out.cell 5 rfl
        have e_dl : W2.cell? ⟨be, 6, none⟩ = some (.int .u64 e.dl) := HE.out.cell 6 rfl
        have e_tk : W2.cell? ⟨be, 8, none⟩ = some (.int .u64 e.tk) := HE.out.cell 8 rfl
        have t_g : W2.cell? ⟨bt, 0, none⟩ = some (.int .u64 t.gen) := HT.out.cell 0 rfl
        have t_d : W2.cell? ⟨bt, 1, none⟩ = some (.int .u64 t.dl) := HT.out.cell 1 rfl
        have t_a : W2.cell? ⟨bt, 4, none⟩ = some (.bool t.armed) := HT.out.cell 4 rfl
        have t_b : W2.cell? ⟨bt, 5, none⟩ = some (.bool t.btw) := HT.out.cell 5 rfl
        rw [ha] at t_a
        repeat (go_big_quiet_step (fail))
        refine wpQuiet_nil ?_
        intro _ hw'
        obtain ⟨nq, hw''⟩ := hw'
        subst hw''
        go_wp2
        go_ret
        exact Ends.no rfl (below_drewN (HBW.out.mono hB) _) HP.out
      · cases hb : t.btw
        · by_cases hgn : e.gen = t.gen
          · have hgn' : (e.gen != t.gen) = false := by simp [hgn]
            by_cases hd : e.dl = t.dl
            · have hd' : (e.dl != t.dl) = false := by simp [hd]
              by_cases ht : e.tk = G.now
              · have ht' : (e.tk != G.now) = false := by simp [ht]
                by_cases hn : t.dl = G.now
                · have hn' : (t.dl != G.now) = false := by simp [hn]
                  have he1 := (HR.out.tm _ ((aget_mem HR.out.live.nodup).1 HG.out)).2.2
                  have HE0 := hid HE.out
                  refine wp_region_any (by kernel_rfl) ?_
                  show wpAny _ _ _ _ 59 _ _ W1.drew
                  refine wpAny_take (i := 0) (v := ptrV bm) rfl (by kernel_rfl) (by kernel_rfl) (by kernel_rfl) (fun _ _ _ h => h) (Or.inl ⟨by rfl, fun w => by go_simp⟩) ?_
                  refine wpAny_step (k := 1) (by kernel_rfl) rfl (fun K hK => ?_)
                  go_simp
                  refine hK.out _ _ ?_
                  clear hK K
                  refine wpAny_step (k := 2) (by kernel_rfl) rfl (fun K hK => ?_)
                  go_simp
                  refine (what_any (c := c) [7] _ _ (Reads.built_at _ [.int .i64 7] 3 1 _ (by simp)) (by simp) (hc ▸ (HR.out.drew.alloc _).mach.cell 9 rfl) ((HC.out.drew.alloc _).cell 3 rfl)).mono ?_
                  rintro x w' ⟨hx, rfl⟩
                  rw [HW.out] at hx
                  subst hx
                  refine hK.out _ _ ?_
                  clear hK K
                  refine wpAny_quiet_rest (k := 3) _ (by kernel_rfl) (by kernel_rfl) rfl (by kernel_rfl) ?_
                  simp only [List.drop_succ_cons, List.drop_zero]
                  generalize hW2 : W1.drew.alloc _ = W2
                  replace HR := hid (show Rep B W2 bm G from hW2 ▸ HR.out.drew.alloc _)
                  replace HE := hid (show Blk W2 be 31 (evC e) from hW2 ▸ HE.out.drew.alloc _)
                  replace HBW := hid (show Below be w W2 from hW2 ▸ (HBW.out.drew.alloc (Nat.le_trans (Nat.le_of_lt HE0.out.lt) (by simp)) _))
                  replace HC := hid (show Blk W2 b 126 (clC c) from hW2 ▸ HC.out.drew.alloc _)
                  clear hW2 HE0
                  replace HT : Hid (Blk W2 bt 151 (tmC t)) := (HR.out.tm _ ((aget_mem HR.out.live.nodup).1 HG.out)).1
                  have m_now : W2.cell? ⟨bm, 1, none⟩ = some (.int .u64 G.now) := HR.out.mach.cell 1 rfl
                  have e_gen : W2.cell? ⟨be, 5, none⟩ = some (.int .u64 e.gen) := HE.out.cell 5 rfl
                  have e_dl : W2.cell? ⟨be, 6, none⟩ = some (.int .u64 e.dl) := HE.out.cell 6 rfl
                  have e_tk : W2.cell? ⟨be, 8, none⟩ = some (.int .u64 e.tk) := HE.out.cell 8 rfl
                  have t_g : W2.cell? ⟨bt, 0, none⟩ = some (.int .u64 t.gen) := HT.out.cell 0 rfl
                  have t_d : W2.cell? ⟨bt, 1, none⟩ = some (.int .u64 t.dl) := HT.out.cell 1 rfl
                  have t_a : W2.cell? ⟨bt, 4, none⟩ = some (.bool t.armed) := HT.out.cell 4 rfl
                  have t_b : W2.cell? ⟨bt, 5, none⟩ = some (.bool t.btw) := HT.out.cell 5 rfl
                  rw [ha] at t_a
                  rw [hb] at t_b
                  repeat (go_big_quiet_step (fail))
                  refine wpQuiet_nil ?_
                  intro _ hw'
                  obtain ⟨nq, hw''⟩ := hw'
                  subst hw''
                  clear m_now e_gen e_dl e_tk t_g t_d t_a t_b
                  generalize hW1 : W2.drewN _ = W3
                  replace HR := hid (show Rep B W3 bm G from hW1 ▸ HR.out.drewN _)
                  replace HE := hid (show Blk W3 be 31 (evC e) from hW1 ▸ HE.out)
                  replace HBW := hid (show Below be w W3 from hW1 ▸ below_drewN HBW.out _)
                  replace HC := hid (show Blk W3 b 126 (clC c) from hW1 ▸ HC.out)
                  clear hW1
                  replace HT : Hid (Blk W3 bt 151 (tmC t)) := (HR.out.tm _ ((aget_mem HR.out.live.nodup).1 HG.out)).1
                  have m_live : W3.cell? ⟨bm, 8, none⟩ = some (.map (some G.bl)) := HR.out.mach.cell 8 rfl
                  have e_id : W3.cell? ⟨be, 4, none⟩ = some (.int .u64 e.id) := HE.out.cell 4 rfl
                  have t_p : W3.cell? ⟨bt, 2, none⟩ = some (.int .u64 t.per) := HT.out.cell 2 rfl
                  have t_l : W3.cell? ⟨bt, 3, none⟩ = some (.bool t.last) := HT.out.cell 3 rfl
                  have t_b : W3.cell? ⟨bt, 5, none⟩ = some (.bool t.btw) := HT.out.cell 5 rfl
                  have f5 := HT.out.frozen 5
                  by_cases hp : 0 < t.per
                  · have hp' : decide (0 < t.per) = true := by simp [hp]
                    cases hl : t.last
                    · have HP := hid (show fireM G.ma c e = some (setLive G.ma e.id { t with btw := true }) by rw [fireM_some HG.out]; simp [hw, ha, hb, hgn, hd, ht, hn, hp, hl])
                      rw [hl] at t_l
                      go_wp2
                      go_ret
                      have hch := (Chg.refl (· = bt) W3).sets rfl 5 (.bool true)
                      exact Ends.yes (G' := { G with lv := aput G.lv e.id (bt, { t with btw := true }) }) rfl (below_chg (HBW.out.mono hB) (by omega) hch (fun k hk => hk ▸ (HR.out.tm _ ((aget_mem HR.out.live.nodup).1 HG.out)).2.1)) (by rw [HP.out]; simp [Gm.ma, setLive, aput_map (fun p : Nat × Tm => p.2)]) (HR.out.tset HG.out hch (show Blk _ bt _ (tmC _) from HT.out.set 5 (.bool true)) ⟨he1.gen, he1.dl, he1.per⟩)
                    · rw [hl] at t_l
                      have HP := hid (show fireM G.ma c e = some (delLive G.ma e.id) by rw [fireM_some HG.out]; simp [hw, ha, hb, hgn, hd, ht, hn, hp, hl])
                      go_wp2
                      go_still_tail 6, (by kernel_rfl)
                      refine (show wpList _ _ _ _ _ W3.drew from ?_)
                      generalize hW3 : W3.drew = WD
                      have HR3 := hid (show Rep B WD bm G from hW3 ▸ HR.out.drew)
                      have HM := hid HR3.out.live
                      have HB3 := hid (show Below be w WD from hW3 ▸ HBW.out.drew)
                      clear hW3
                      go_wp2_with (refine wpList_delete _ rfl 97 29 _ _ rfl (keyLaw_int Try.underlying29) Try.underlying97 G.bl G.lv (bt, t) HM.out rfl e.id rfl ?_; intro w4 hm4 hg4 hs4; have HR4 := hid (HR3.out.ldel (Chg.of_grown hg4 (fun k hk => (Option.some.inj hk).symm)) hm4); have HB4 := hid ((HB3.out.mono hB).trans ((Chg.of_grown (S := (· = G.bl)) hg4 (fun k hk => (Option.some.inj hk).symm)).below (Nat.le_trans (by omega) HB3.out.size) (fun k hk => hk ▸ HR3.out.base.2.2.2))); clear hm4 hg4 hs4)
                      go_ret
                      exact Ends.yes (G' := { G with lv := adel G.lv e.id }) rfl HB4.out (by rw [HP.out]; simp [Gm.ma, delLive, adel_map (fun p : Nat × Tm => p.2)]) HR4.out
                  · have hp' : decide (0 < t.per) = false := by simp [hp]
                    have HP := hid (show fireM G.ma c e = some (delLive G.ma e.id) by rw [fireM_some HG.out]; simp [hw, ha, hb, hgn, hd, ht, hn, hp])
                    go_wp2
                    go_still_tail 6, (by kernel_rfl)
                    refine (show wpList _ _ _ _ _ W3.drew from ?_)
                    generalize hW3 : W3.drew = WD
                    have HR3 := hid (show Rep B WD bm G from hW3 ▸ HR.out.drew)
                    have HM := hid HR3.out.live
                    have HB3 := hid (show Below be w WD from hW3 ▸ HBW.out.drew)
                    clear hW3
                    go_wp2_with (refine wpList_delete _ rfl 97 29 _ _ rfl (keyLaw_int Try.underlying29) Try.underlying97 G.bl G.lv (bt, t) HM.out rfl e.id rfl ?_; intro w4 hm4 hg4 hs4; have HR4 := hid (HR3.out.ldel (Chg.of_grown hg4 (fun k hk => (Option.some.inj hk).symm)) hm4); have HB4 := hid ((HB3.out.mono hB).trans ((Chg.of_grown (S := (· = G.bl)) hg4 (fun k hk => (Option.some.inj hk).symm)).below (Nat.le_trans (by omega) HB3.out.size) (fun k hk => hk ▸ HR3.out.base.2.2.2))); clear hm4 hg4 hs4)
                    go_ret
                    exact Ends.yes (G' := { G with lv := adel G.lv e.id }) rfl HB4.out (by rw [HP.out]; simp [Gm.ma, delLive, adel_map (fun p : Nat × Tm => p.2)]) HR4.out
                · have hn' : (t.dl != G.now) = true := by simp [hn]
                  have HP := hid (show fireM G.ma c e = none by rw [fireM_some HG.out]; simp [hw, ha, hb, hgn, hd, ht, hn])
                  have HE0 := hid HE.out
                  refine wp_region_any (by kernel_rfl) ?_
                  show wpAny _ _ _ _ 59 _ _ W1.drew
                  refine wpAny_take (i := 0) (v := ptrV bm) rfl (by kernel_rfl) (by kernel_rfl) (by kernel_rfl) (fun _ _ _ h => h) (Or.inl ⟨by rfl, fun w => by go_simp⟩) ?_
                  refine wpAny_step (k := 1) (by kernel_rfl) rfl (fun K hK => ?_)
                  go_simp
                  refine hK.out _ _ ?_
                  clear hK K
                  refine wpAny_step (k := 2) (by kernel_rfl) rfl (fun K hK => ?_)
                  go_simp
                  refine (what_any (c := c) [7] _ _ (Reads.built_at _ [.int .i64 7] 3 1 _ (by simp)) (by simp) (hc ▸ (HR.out.drew.alloc _).mach.cell 9 rfl) ((HC.out.drew.alloc _).cell 3 rfl)).mono ?_
                  rintro x w' ⟨hx, rfl⟩
                  rw [HW.out] at hx
                  subst hx
                  refine hK.out _ _ ?_
                  clear hK K
                  refine wpAny_quiet_rest (k := 3) _ (by kernel_rfl) (by kernel_rfl) rfl (by kernel_rfl) ?_
                  simp only [List.drop_succ_cons, List.drop_zero]
                  generalize hW2 : W1.drew.alloc _ = W2
                  replace HR := hid (show Rep B W2 bm G from hW2 ▸ HR.out.drew.alloc _)
                  replace HE := hid (show Blk W2 be 31 (evC e) from hW2 ▸ HE.out.drew.alloc _)
                  replace HBW := hid (show Below be w W2 from hW2 ▸ (HBW.out.drew.alloc (Nat.le_trans (Nat.le_of_lt HE0.out.lt) (by simp)) _))
                  replace HC := hid (show Blk W2 b 126 (clC c) from hW2 ▸ HC.out.drew.alloc _)
                  clear hW2 HE0
                  replace HT : Hid (Blk W2 bt 151 (tmC t)) := (HR.out.tm _ ((aget_mem HR.out.live.nodup).1 HG.out)).1
                  have m_now : W2.cell? ⟨bm, 1, none⟩ = some (.int .u64 G.now) := HR.out.mach.cell 1 rfl
                  have e_gen : W2.cell? ⟨be, 5, none⟩ = some (.int .u64 e.gen) := HE.out.cell 5 rfl
                  have e_dl : W2.cell? ⟨be, 6, none⟩ = some (.int .u64 e.dl) := HE.out.cell 6 rfl
                  have e_tk : W2.cell? ⟨be, 8, none⟩ = some (.int .u64 e.tk) := HE.out.cell 8 rfl
                  have t_g : W2.cell? ⟨bt, 0, none⟩ = some (.int .u64 t.gen) := HT.out.cell 0 rfl
                  have t_d : W2.cell? ⟨bt, 1, none⟩ = some (.int .u64 t.dl) := HT.out.cell 1 rfl
                  have t_a : W2.cell? ⟨bt, 4, none⟩ = some (.bool t.armed) := HT.out.cell 4 rfl
                  have t_b : W2.cell? ⟨bt, 5, none⟩ = some (.bool t.btw) := HT.out.cell 5 rfl
                  rw [ha] at t_a
                  rw [hb] at t_b
                  repeat (go_big_quiet_step (fail))
                  refine wpQuiet_nil ?_
                  intro _ hw'
                  obtain ⟨nq, hw''⟩ := hw'
                  subst hw''
                  go_wp2
                  go_ret
                  exact Ends.no rfl (below_drewN (HBW.out.mono hB) _) HP.out
              · have ht' : (e.tk != G.now) = true := by simp [ht]
                have HP := hid (show fireM G.ma c e = none by rw [fireM_some HG.out]; simp [hw, ha, hb, hgn, hd, ht])
                have HE0 := hid HE.out
                refine wp_region_any (by kernel_rfl) ?_
                show wpAny _ _ _ _ 59 _ _ W1.drew
                refine wpAny_take (i := 0) (v := ptrV bm) rfl (by kernel_rfl) (by kernel_rfl) (by kernel_rfl) (fun _ _ _ h => h) (Or.inl ⟨by rfl, fun w => by go_simp⟩) ?_
                refine wpAny_step (k := 1) (by kernel_rfl) rfl (fun K hK => ?_)
                go_simp
                refine hK.out _ _ ?_
                clear hK K
                refine wpAny_step (k := 2) (by kernel_rfl) rfl (fun K hK => ?_)
                go_simp
                refine (what_any (c := c) [7] _ _ (Reads.built_at _ [.int .i64 7] 3 1 _ (by simp)) (by simp) (hc ▸ (HR.out.drew.alloc _).mach.cell 9 rfl) ((HC.out.drew.alloc _).cell 3 rfl)).mono ?_
                rintro x w' ⟨hx, rfl⟩
                rw [HW.out] at hx
                subst hx
                refine hK.out _ _ ?_
                clear hK K
                refine wpAny_quiet_rest (k := 3) _ (by kernel_rfl) (by kernel_rfl) rfl (by kernel_rfl) ?_
                simp only [List.drop_succ_cons, List.drop_zero]
                generalize hW2 : W1.drew.alloc _ = W2
                replace HR := hid (show Rep B W2 bm G from hW2 ▸ HR.out.drew.alloc _)
                replace HE := hid (show Blk W2 be 31 (evC e) from hW2 ▸ HE.out.drew.alloc _)
                replace HBW := hid (show Below be w W2 from hW2 ▸ (HBW.out.drew.alloc (Nat.le_trans (Nat.le_of_lt HE0.out.lt) (by simp)) _))
                replace HC := hid (show Blk W2 b 126 (clC c) from hW2 ▸ HC.out.drew.alloc _)
                clear hW2 HE0
                replace HT : Hid (Blk W2 bt 151 (tmC t)) := (HR.out.tm _ ((aget_mem HR.out.live.nodup).1 HG.out)).1
                have m_now : W2.cell? ⟨bm, 1, none⟩ = some (.int .u64 G.now) := HR.out.mach.cell 1 rfl
                have e_gen : W2.cell? ⟨be, 5, none⟩ = some (.int .u64 e.gen) := HE.out.cell 5 rfl
                have e_dl : W2.cell? ⟨be, 6, none⟩ = some (.int .u64 e.dl) := HE.out.cell 6 rfl
                have e_tk : W2.cell? ⟨be, 8, none⟩ = some (.int .u64 e.tk) := HE.out.cell 8 rfl
                have t_g : W2.cell? ⟨bt, 0, none⟩ = some (.int .u64 t.gen) := HT.out.cell 0 rfl
                have t_d : W2.cell? ⟨bt, 1, none⟩ = some (.int .u64 t.dl) := HT.out.cell 1 rfl
                have t_a : W2.cell? ⟨bt, 4, none⟩ = some (.bool t.armed) := HT.out.cell 4 rfl
                have t_b : W2.cell? ⟨bt, 5, none⟩ = some (.bool t.btw) := HT.out.cell 5 rfl
                rw [ha] at t_a
                rw [hb] at t_b
                repeat (go_big_quiet_step (fail))
                refine wpQuiet_nil ?_
                intro _ hw'
                obtain ⟨nq, hw''⟩ := hw'
                subst hw''
                go_wp2
                go_ret
                exact Ends.no rfl (below_drewN (HBW.out.mono hB) _) HP.out
            · have hd' : (e.dl != t.dl) = true := by simp [hd]
              have HP := hid (show fireM G.ma c e = none by rw [fireM_some HG.out]; simp [hw, ha, hb, hgn, hd])
              have HE0 := hid HE.out
              refine wp_region_any (by kernel_rfl) ?_
              show wpAny _ _ _ _ 59 _ _ W1.drew
              refine wpAny_take (i := 0) (v := ptrV bm) rfl (by kernel_rfl) (by kernel_rfl) (by kernel_rfl) (fun _ _ _ h => h) (Or.inl ⟨by rfl, fun w => by go_simp⟩) ?_
              refine wpAny_step (k := 1) (by kernel_rfl) rfl (fun K hK => ?_)
              go_simp
              refine hK.out _ _ ?_
              clear hK K
              refine wpAny_step (k := 2) (by kernel_rfl) rfl (fun K hK => ?_)
              go_simp
              refine (what_any (c := c) [7] _ _ (Reads.built_at _ [.int .i64 7] 3 1 _ (by simp)) (by simp) (hc ▸ (HR.out.drew.alloc _).mach.cell 9 rfl) ((HC.out.drew.alloc _).cell 3 rfl)).mono ?_
              rintro x w' ⟨hx, rfl⟩
              rw [HW.out] at hx
              subst hx
              refine hK.out _ _ ?_
              clear hK K
              refine wpAny_quiet_rest (k := 3) _ (by kernel_rfl) (by kernel_rfl) rfl (by kernel_rfl) ?_
              simp only [List.drop_succ_cons, List.drop_zero]
              generalize hW2 : W1.drew.alloc _ = W2
              replace HR := hid (show Rep B W2 bm G from hW2 ▸ HR.out.drew.alloc _)
              replace HE := hid (show Blk W2 be 31 (evC e) from hW2 ▸ HE.out.drew.alloc _)
              replace HBW := hid (show Below be w W2 from hW2 ▸ (HBW.out.drew.alloc (Nat.le_trans (Nat.le_of_lt HE0.out.lt) (by simp)) _))
              replace HC := hid (show Blk W2 b 126 (clC c) from hW2 ▸ HC.out.drew.alloc _)
              clear hW2 HE0
              replace HT : Hid (Blk W2 bt 151 (tmC t)) := (HR.out.tm _ ((aget_mem HR.out.live.nodup).1 HG.out)).1
              have m_now : W2.cell? ⟨bm, 1, none⟩ = some (.int .u64 G.now) := HR.out.mach.cell 1 rfl
              have e_gen : W2.cell? ⟨be, 5, none⟩ = some (.int .u64 e.gen) := HE.out.cell 5 rfl
              have e_dl : W2.cell? ⟨be, 6, none⟩ = some (.int .u64 e.dl) := HE.out.cell 6 rfl
              have e_tk : W2.cell? ⟨be, 8, none⟩ = some (.int .u64 e.tk) := HE.out.cell 8 rfl
              have t_g : W2.cell? ⟨bt, 0, none⟩ = some (.int .u64 t.gen) := HT.out.cell 0 rfl
              have t_d : W2.cell? ⟨bt, 1, none⟩ = some (.int .u64 t.dl) := HT.out.cell 1 rfl
              have t_a : W2.cell? ⟨bt, 4, none⟩ = some (.bool t.armed) := HT.out.cell 4 rfl
              have t_b : W2.cell? ⟨bt, 5, none⟩ = some (.bool t.btw) := HT.out.cell 5 rfl
              rw [ha] at t_a
              rw [hb] at t_b
              repeat (go_big_quiet_step (fail))
              refine wpQuiet_nil ?_
              intro _ hw'
              obtain ⟨nq, hw''⟩ := hw'
              subst hw''
              go_wp2
              go_ret
              exact Ends.no rfl (below_drewN (HBW.out.mono hB) _) HP.out
          · have hgn' : (e.gen != t.gen) = true := by simp [hgn]
            have HP := hid (show fireM G.ma c e = none by rw [fireM_some HG.out]; simp [hw, ha, hb, hgn])
            have HE0 := hid HE.out
            refine wp_region_any (by kernel_rfl) ?_
            show wpAny _ _ _ _ 59 _ _ W1.drew
            refine wpAny_take (i := 0) (v := ptrV bm) rfl (by kernel_rfl) (by kernel_rfl) (by kernel_rfl) (fun _ _ _ h => h) (Or.inl ⟨by rfl, fun w => by go_simp⟩) ?_
            refine wpAny_step (k := 1) (by kernel_rfl) rfl (fun K hK => ?_)
            go_simp
            refine hK.out _ _ ?_
            clear hK K
            refine wpAny_step (k := 2) (by kernel_rfl) rfl (fun K hK => ?_)
            go_simp
            refine (what_any (c := c) [7] _ _ (Reads.built_at _ [.int .i64 7] 3 1 _ (by simp)) (by simp) (hc ▸ (HR.out.drew.alloc _).mach.cell 9 rfl) ((HC.out.drew.alloc _).cell 3 rfl)).mono ?_
            rintro x w' ⟨hx, rfl⟩
            rw [HW.out] at hx
            subst hx
            refine hK.out _ _ ?_
            clear hK K
            refine wpAny_quiet_rest (k := 3) _ (by kernel_rfl) (by kernel_rfl) rfl (by kernel_rfl) ?_
            simp only [List.drop_succ_cons, List.drop_zero]
            generalize hW2 : W1.drew.alloc _ = W2
            replace HR := hid (show Rep B W2 bm G from hW2 ▸ HR.out.drew.alloc _)
            replace HE := hid (show Blk W2 be 31 (evC e) from hW2 ▸ HE.out.drew.alloc _)
            replace HBW := hid (show Below be w W2 from hW2 ▸ (HBW.out.drew.alloc (Nat.le_trans (Nat.le_of_lt HE0.out.lt) (by simp)) _))
            replace HC := hid (show Blk W2 b 126 (clC c) from hW2 ▸ HC.out.drew.alloc _)
            clear hW2 HE0
            replace HT : Hid (Blk W2 bt 151 (tmC t)) := (HR.out.tm _ ((aget_mem HR.out.live.nodup).1 HG.out)).1
            have m_now : W2.cell? ⟨bm, 1, none⟩ = some (.int .u64 G.now) := HR.out.mach.cell 1 rfl
            have e_gen : W2.cell? ⟨be, 5, none⟩ = some (.int .u64 e.gen) := HE.out.cell 5 rfl
            have e_dl : W2.cell? ⟨be, 6, none⟩ = some (.int .u64 e.dl) := HE.out.cell 6 rfl
            have e_tk : W2.cell? ⟨be, 8, none⟩ = some (.int .u64 e.tk) := HE.out.cell 8 rfl
            have t_g : W2.cell? ⟨bt, 0, none⟩ = some (.int .u64 t.gen) := HT.out.cell 0 rfl
            have t_d : W2.cell? ⟨bt, 1, none⟩ = some (.int .u64 t.dl) := HT.out.cell 1 rfl
            have t_a : W2.cell? ⟨bt, 4, none⟩ = some (.bool t.armed) := HT.out.cell 4 rfl
            have t_b : W2.cell? ⟨bt, 5, none⟩ = some (.bool t.btw) := HT.out.cell 5 rfl
            rw [ha] at t_a
            rw [hb] at t_b
            repeat (go_big_quiet_step (fail))
            refine wpQuiet_nil ?_
            intro _ hw'
            obtain ⟨nq, hw''⟩ := hw'
            subst hw''
            go_wp2
            go_ret
            exact Ends.no rfl (below_drewN (HBW.out.mono hB) _) HP.out
        · have HP := hid (show fireM G.ma c e = none by rw [fireM_some HG.out]; simp [hw, ha, hb])
          have HE0 := hid HE.out
          refine wp_region_any (by kernel_rfl) ?_
          show wpAny _ _ _ _ 59 _ _ W1.drew
          refine wpAny_take (i := 0) (v := ptrV bm) rfl (by kernel_rfl) (by kernel_rfl) (by kernel_rfl) (fun _ _ _ h => h) (Or.inl ⟨by rfl, fun w => by go_simp⟩) ?_
          refine wpAny_step (k := 1) (by kernel_rfl) rfl (fun K hK => ?_)
          go_simp
          refine hK.out _ _ ?_
          clear hK K
          refine wpAny_step (k := 2) (by kernel_rfl) rfl (fun K hK => ?_)
          go_simp
          refine (what_any (c := c) [7] _ _ (Reads.built_at _ [.int .i64 7] 3 1 _ (by simp)) (by simp) (hc ▸ (HR.out.drew.alloc _).mach.cell 9 rfl) ((HC.out.drew.alloc _).cell 3 rfl)).mono ?_
          rintro x w' ⟨hx, rfl⟩
          rw [HW.out] at hx
          subst hx
          refine hK.out _ _ ?_
          clear hK K
          refine wpAny_quiet_rest (k := 3) _ (by kernel_rfl) (by kernel_rfl) rfl (by kernel_rfl) ?_
          simp only [List.drop_succ_cons, List.drop_zero]
          generalize hW2 : W1.drew.alloc _ = W2
          replace HR := hid (show Rep B W2 bm G from hW2 ▸ HR.out.drew.alloc _)
          replace HE := hid (show Blk W2 be 31 (evC e) from hW2 ▸ HE.out.drew.alloc _)
          replace HBW := hid (show Below be w W2 from hW2 ▸ (HBW.out.drew.alloc (Nat.le_trans (Nat.le_of_lt HE0.out.lt) (by simp)) _))
          replace HC := hid (show Blk W2 b 126 (clC c) from hW2 ▸ HC.out.drew.alloc _)
          clear hW2 HE0
          replace HT : Hid (Blk W2 bt 151 (tmC t)) := (HR.out.tm _ ((aget_mem HR.out.live.nodup).1 HG.out)).1
          have m_now : W2.cell? ⟨bm, 1, none⟩ = some (.int .u64 G.now) := HR.out.mach.cell 1 rfl
          have e_gen : W2.cell? ⟨be, 5, none⟩ = some (.int .u64 e.gen) := HE.out.cell 5 rfl
          have e_dl : W2.cell? ⟨be, 6, none⟩ = some (.int .u64 e.dl) := HE.out.cell 6 rfl
          have e_tk : W2.cell? ⟨be, 8, none⟩ = some (.int .u64 e.tk) := HE.out.cell 8 rfl
          have t_g : W2.cell? ⟨bt, 0, none⟩ = some (.int .u64 t.gen) := HT.out.cell 0 rfl
          have t_d : W2.cell? ⟨bt, 1, none⟩ = some (.int .u64 t.dl) := HT.out.cell 1 rfl
          have t_a : W2.cell? ⟨bt, 4, none⟩ = some (.bool t.armed) := HT.out.cell 4 rfl
          have t_b : W2.cell? ⟨bt, 5, none⟩ = some (.bool t.btw) := HT.out.cell 5 rfl
          rw [ha] at t_a
          rw [hb] at t_b
          repeat (go_big_quiet_step (fail))
          refine wpQuiet_nil ?_
          intro _ hw'
          obtain ⟨nq, hw''⟩ := hw'
          subst hw''
          go_wp2
          go_ret
          exact Ends.no rfl (below_drewN (HBW.out.mono hB) _) HP.out
    · have HW := hid (show decide (c.bg.what ∈ [7]) = false by simp [hw])
      have HP := hid (show fireM G.ma c e = none by rw [fireM_some HG.out]; simp [hw])
      have HE0 := hid HE.out
      refine wp_region_any (by kernel_rfl) ?_
      show wpAny _ _ _ _ 59 _ _ W1.drew
      refine wpAny_take (i := 0) (v := ptrV bm) rfl (by kernel_rfl) (by kernel_rfl) (by kernel_rfl) (fun _ _ _ h => h) (Or.inl ⟨by rfl, fun w => by go_simp⟩) ?_
      refine wpAny_step (k := 1) (by kernel_rfl) rfl (fun K hK => ?_)
      go_simp
      refine hK.out _ _ ?_
      clear hK K
      refine wpAny_step (k := 2) (by kernel_rfl) rfl (fun K hK => ?_)
      go_simp
      refine (what_any (c := c) [7] _ _ (Reads.built_at _ [.int .i64 7] 3 1 _ (by simp)) (by simp) (hc ▸ (HR.out.drew.alloc _).mach.cell 9 rfl) ((HC.out.drew.alloc _).cell 3 rfl)).mono ?_
      rintro x w' ⟨hx, rfl⟩
      rw [HW.out] at hx
      subst hx
      refine hK.out _ _ ?_
      clear hK K
      refine wpAny_quiet_rest (k := 3) _ (by kernel_rfl) (by kernel_rfl) rfl (by kernel_rfl) ?_
      simp only [List.drop_succ_cons, List.drop_zero]
      generalize hW2 : W1.drew.alloc _ = W2
      replace HR := hid (show Rep B W2 bm G from hW2 ▸ HR.out.drew.alloc _)
      replace HE := hid (show Blk W2 be 31 (evC e) from hW2 ▸ HE.out.drew.alloc _)
      replace HBW := hid (show Below be w W2 from hW2 ▸ (HBW.out.drew.alloc (Nat.le_trans (Nat.le_of_lt HE0.out.lt) (by simp)) _))
      replace HC := hid (show Blk W2 b 126 (clC c) from hW2 ▸ HC.out.drew.alloc _)
      clear hW2 HE0
      replace HT : Hid (Blk W2 bt 151 (tmC t)) := (HR.out.tm _ ((aget_mem HR.out.live.nodup).1 HG.out)).1
      have m_now : W2.cell? ⟨bm, 1, none⟩ = some (.int .u64 G.now) := HR.out.mach.cell 1 rfl
      have e_gen : W2.cell? ⟨be, 5, none⟩ = some (.int .u64 e.gen) := HE.out.cell 5 rfl
      have e_dl : W2.cell? ⟨be, 6, none⟩ = some (.int .u64 e.dl) := HE.out.cell 6 rfl
      have e_tk : W2.cell? ⟨be, 8, none⟩ = some (.int .u64 e.tk) := HE.out.cell 8 rfl
      have t_g : W2.cell? ⟨bt, 0, none⟩ = some (.int .u64 t.gen) := HT.out.cell 0 rfl
      have t_d : W2.cell? ⟨bt, 1, none⟩ = some (.int .u64 t.dl) := HT.out.cell 1 rfl
      have t_a : W2.cell? ⟨bt, 4, none⟩ = some (.bool t.armed) := HT.out.cell 4 rfl
      have t_b : W2.cell? ⟨bt, 5, none⟩ = some (.bool t.btw) := HT.out.cell 5 rfl
      repeat (go_big_quiet_step (fail))
      refine wpQuiet_nil ?_
      intro _ hw'
      obtain ⟨nq, hw''⟩ := hw'
      subst hw''
      go_wp2
      go_ret
      exact Ends.no rfl (below_drewN (HBW.out.mono hB) _) HP.out
end Go.Proofs.Ytpnkkdpggofanaa
