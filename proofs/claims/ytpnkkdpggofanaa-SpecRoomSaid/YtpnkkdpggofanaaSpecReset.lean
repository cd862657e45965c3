/- spec's rules by their walks: each does what the plain machine does. -/
import Derived.Test.YtpnkkdpggofanaaSpecC
namespace Go.Proofs.Ytpnkkdpggofanaa
open Go.RowKit

set_option maxRecDepth 4000 in
set_option maxHeartbeats 8000000 in
theorem reset_any (B : Nat) (w : World) {bm b i : Nat} {c : Cl} {G : Gm} (h : Rep B w bm G) (hB : B ≤ w.heap.size) (hi : G.cs[i]? = some (b, c)) (hc : G.cp = ptrV b) (e : Ev) (he : e.wf) :
    Calls Try.prog 82 #[ptrV bm, evV e] w fun x w' => Ends B bm w (resetM G.ma i c e) x w' := by
  go_enter Try.func82, Try.ntmps82
  go_wp2
  generalize hW : w.alloc _ = W
  obtain ⟨hR, hE, hBW, hsz⟩ := h.boxed e hW
  clear hW h
  generalize hBE : w.heap.size = be at *
  have HR := hid hR
  have HE := hid hE
  have HBW := hid hBW
  have HC : Hid (Blk W b 126 (clC c)) := (HR.out.cl _ (List.mem_of_getElem? hi)).1
  clear hR hE hBW
  cases hg : aget G.lv e.id with
  | none =>
    have hlp : liveP G e.id = .pointer none := by simp [liveP, hg]
    have HG := hid hg
    have m_live : W.cell? ⟨bm, 8, none⟩ = some (.map (some G.bl)) := HR.out.mach.cell 8 rfl
    have e_id : W.cell? ⟨be, 4, none⟩ = some (.int .u64 e.id) := HE.out.cell 4 rfl
    have hl := fun n => (HR.out.drewN n).look e.id
    rw [hlp] at hl
    clear hg hlp
    go_quiet (fail)
    go_wp2
    clear m_live e_id hl
    generalize hW1 : W.drewN _ = W1
    replace HR := hid (show Rep B W1 bm G from hW1 ▸ HR.out.drewN _)
    replace HE := hid (show Blk W1 be 31 (evC e) from hW1 ▸ HE.out)
    replace HBW := hid (show Below be w W1 from hW1 ▸ below_drewN HBW.out _)
    replace HC := hid (show Blk W1 b 126 (clC c) from hW1 ▸ HC.out)
    clear hW1
    have HP := hid (show resetM G.ma i c e = none by unfold resetM; rw [lv_none HG.out])
    by_cases hw : c.bg.what = 3
    · have HW := hid (show decide (c.bg.what ∈ [3]) = true by simp [hw])
      have HE0 := hid HE.out
      refine wp_region_any (by kernel_rfl) ?_
      show wpAny _ _ _ _ 49 _ _ W1.drew
      refine wpAny_take (i := 0) (v := ptrV bm) rfl (by kernel_rfl) (by kernel_rfl) (by kernel_rfl) (fun _ _ _ h => h) (Or.inl ⟨by rfl, fun w => by go_simp⟩) ?_
      refine wpAny_step (k := 1) (by kernel_rfl) rfl (fun K hK => ?_)
      go_simp
      refine hK.out _ _ ?_
      clear hK K
      refine wpAny_step (k := 2) (by kernel_rfl) rfl (fun K hK => ?_)
      go_simp
      refine (what_any (c := c) [3] _ _ (Reads.built_at _ [.int .i64 3] 3 1 _ (by simp)) (by simp) (hc ▸ (HR.out.drew.alloc _).mach.cell 9 rfl) ((HC.out.drew.alloc _).cell 3 rfl)).mono ?_
      rintro x w' ⟨hx, rfl⟩
      rw [HW.out] at hx
      subst hx
      refine hK.out _ _ ?_
      clear hK K
      refine wpAny_quiet_rest (k := 3) _ (by kernel_rfl) (by kernel_rfl) rfl (by kernel_rfl) ?_
      simp only [List.drop_succ_cons, List.drop_zero]
      generalize hW2 : W1.drew.alloc _ = W2
      replace HR := hid (show Rep B W2 bm G from hW2 ▸ HR.out.drew.alloc _)
      replace HE := hid (show Blk W2 be 31 (evC e) from hW2 ▸ HE.out.drew.alloc _)
      replace HBW := hid (show Below be w W2 from hW2 ▸ (HBW.out.drew.alloc (Nat.le_trans (Nat.le_of_lt HE0.out.lt) (by simp)) _))
      replace HC := hid (show Blk W2 b 126 (clC c) from hW2 ▸ HC.out.drew.alloc _)
      clear hW2 HE0
      repeat (go_big_quiet_step (fail))
      refine wpQuiet_nil ?_
      intro _ hw'
      obtain ⟨nq, hw''⟩ := hw'
      subst hw''
      go_wp2
      go_ret
      exact Ends.no rfl (below_drewN (HBW.out.mono hB) _) HP.out
    · have HW := hid (show decide (c.bg.what ∈ [3]) = false by simp [hw])
      have HE0 := hid HE.out
      refine wp_region_any (by kernel_rfl) ?_
      show wpAny _ _ _ _ 49 _ _ W1.drew
      refine wpAny_take (i := 0) (v := ptrV bm) rfl (by kernel_rfl) (by kernel_rfl) (by kernel_rfl) (fun _ _ _ h => h) (Or.inl ⟨by rfl, fun w => by go_simp⟩) ?_
      refine wpAny_step (k := 1) (by kernel_rfl) rfl (fun K hK => ?_)
      go_simp
      refine hK.out _ _ ?_
      clear hK K
      refine wpAny_step (k := 2) (by kernel_rfl) rfl (fun K hK => ?_)
      go_simp
      refine (what_any (c := c) [3] _ _ (Reads.built_at _ [.int .i64 3] 3 1 _ (by simp)) (by simp) (hc ▸ (HR.out.drew.alloc _).mach.cell 9 rfl) ((HC.out.drew.alloc _).cell 3 rfl)).mono ?_
      rintro x w' ⟨hx, rfl⟩
      rw [HW.out] at hx
      subst hx
      refine hK.out _ _ ?_
      clear hK K
      refine wpAny_quiet_rest (k := 3) _ (by kernel_rfl) (by kernel_rfl) rfl (by kernel_rfl) ?_
      simp only [List.drop_succ_cons, List.drop_zero]
      generalize hW2 : W1.drew.alloc _ = W2
      replace HR := hid (show Rep B W2 bm G from hW2 ▸ HR.out.drew.alloc _)
      replace HE := hid (show Blk W2 be 31 (evC e) from hW2 ▸ HE.out.drew.alloc _)
      replace HBW := hid (show Below be w W2 from hW2 ▸ (HBW.out.drew.alloc (Nat.le_trans (Nat.le_of_lt HE0.out.lt) (by simp)) _))
      replace HC := hid (show Blk W2 b 126 (clC c) from hW2 ▸ HC.out.drew.alloc _)
      clear hW2 HE0
      repeat (go_big_quiet_step (fail))
      refine wpQuiet_nil ?_
      intro _ hw'
      obtain ⟨nq, hw''⟩ := hw'
      subst hw''
      go_wp2
      go_ret
      exact Ends.no rfl (below_drewN (HBW.out.mono hB) _) HP.out
  | some p =>
    obtain ⟨bt, t⟩ := p
    have hlp : liveP G e.id = ptrV bt := by simp [liveP, hg]
    have HG := hid hg
    have m_live : W.cell? ⟨bm, 8, none⟩ = some (.map (some G.bl)) := HR.out.mach.cell 8 rfl
    have e_id : W.cell? ⟨be, 4, none⟩ = some (.int .u64 e.id) := HE.out.cell 4 rfl
    have hl := fun n => (HR.out.drewN n).look e.id
    rw [hlp] at hl
    clear hg hlp
    go_quiet (fail)
    go_wp2
    clear m_live e_id hl
    generalize hW1 : W.drewN _ = W1
    replace HR := hid (show Rep B W1 bm G from hW1 ▸ HR.out.drewN _)
    replace HE := hid (show Blk W1 be 31 (evC e) from hW1 ▸ HE.out)
    replace HBW := hid (show Below be w W1 from hW1 ▸ below_drewN HBW.out _)
    replace HC := hid (show Blk W1 b 126 (clC c) from hW1 ▸ HC.out)
    clear hW1
    have HT : Hid (Blk W1 bt 151 (tmC t)) := (HR.out.tm _ ((aget_mem HR.out.live.nodup).1 HG.out)).1
    have he1 := hid (HR.out.tm _ ((aget_mem HR.out.live.nodup).1 HG.out)).2.2
    have hN := lv_some HG.out
    have hE := hid he.gen
    by_cases hw : c.bg.what = 3
    · have HW := hid (show decide (c.bg.what ∈ [3]) = true by simp [hw])
      by_cases hi1 : e.id = c.bg.id
      · have hi1' : (e.id != c.bg.id) = false := by simp [hi1]
        by_cases hd : e.dl = c.bg.dl
        · have hd' : (e.dl != c.bg.dl) = false := by simp [hd]
          by_cases hz : e.gen ≠ 0
          · have hz' : (e.gen == 0) = false := by simp [hz]
            have hs1 : (e.gen - 1) % 18446744073709551616 = e.gen - 1 := Int.emod_eq_of_lt (by have := hE.out.1; omega) (by have := hE.out.2; omega)
            by_cases hgn : e.gen - 1 = t.gen
            · have hgn' : (e.gen - 1 != t.gen) = false := by simp [hgn]
              have HP := hid (show resetM G.ma i c e = some (fin ({ G with lv := aput G.lv e.id (bt, { t with gen := e.gen, dl := e.dl, armed := false, btw := false }) } : Gm).ma i e.id e.gen 0) by rw [setLive_ma]; unfold resetM; rw [hN]; simp [hw, hi1, hd, hz, hgn])
              clear hN hw hi1 hd hgn
              have HE0 := hid HE.out
              refine wp_region_any (by kernel_rfl) ?_
              show wpAny _ _ _ _ 49 _ _ W1.drew
              refine wpAny_take (i := 0) (v := ptrV bm) rfl (by kernel_rfl) (by kernel_rfl) (by kernel_rfl) (fun _ _ _ h => h) (Or.inl ⟨by rfl, fun w => by go_simp⟩) ?_
              refine wpAny_step (k := 1) (by kernel_rfl) rfl (fun K hK => ?_)
              go_simp
              refine hK.out _ _ ?_
              clear hK K
              refine wpAny_step (k := 2) (by kernel_rfl) rfl (fun K hK => ?_)
              go_simp
              refine (what_any (c := c) [3] _ _ (Reads.built_at _ [.int .i64 3] 3 1 _ (by simp)) (by simp) (hc ▸ (HR.out.drew.alloc _).mach.cell 9 rfl) ((HC.out.drew.alloc _).cell 3 rfl)).mono ?_
              rintro x w' ⟨hx, rfl⟩
              rw [HW.out] at hx
              subst hx
              refine hK.out _ _ ?_
              clear hK K
              refine wpAny_quiet_rest (k := 3) _ (by kernel_rfl) (by kernel_rfl) rfl (by kernel_rfl) ?_
              simp only [List.drop_succ_cons, List.drop_zero]
              generalize hW2 : W1.drew.alloc _ = W2
              replace HR := hid (show Rep B W2 bm G from hW2 ▸ HR.out.drew.alloc _)
              replace HE := hid (show Blk W2 be 31 (evC e) from hW2 ▸ HE.out.drew.alloc _)
              replace HBW := hid (show Below be w W2 from hW2 ▸ (HBW.out.drew.alloc (Nat.le_trans (Nat.le_of_lt HE0.out.lt) (by simp)) _))
              replace HC := hid (show Blk W2 b 126 (clC c) from hW2 ▸ HC.out.drew.alloc _)
              clear hW2 HE0
              replace HT : Hid (Blk W2 bt 151 (tmC t)) := (HR.out.tm _ ((aget_mem HR.out.live.nodup).1 HG.out)).1
              have m_c : W2.cell? ⟨bm, 9, none⟩ = some (ptrV b) := hc ▸ HR.out.mach.cell 9 rfl
              have e_id : W2.cell? ⟨be, 4, none⟩ = some (.int .u64 e.id) := HE.out.cell 4 rfl
              have e_dl : W2.cell? ⟨be, 6, none⟩ = some (.int .u64 e.dl) := HE.out.cell 6 rfl
              have e_gen : W2.cell? ⟨be, 5, none⟩ = some (.int .u64 e.gen) := HE.out.cell 5 rfl
              have c_id : W2.cell? ⟨b, 4, none⟩ = some (.int .u64 c.bg.id) := HC.out.cell 4 rfl
              have c_dl : W2.cell? ⟨b, 6, none⟩ = some (.int .u64 c.bg.dl) := HC.out.cell 6 rfl
              have t_g : W2.cell? ⟨bt, 0, none⟩ = some (.int .u64 t.gen) := HT.out.cell 0 rfl
              repeat (go_big_quiet_step (fail))
              refine wpQuiet_nil ?_
              intro _ hw'
              obtain ⟨nq, hw''⟩ := hw'
              subst hw''
              clear m_c e_id e_dl e_gen c_id c_dl t_g
              generalize hW1 : W2.drewN _ = W3
              replace HR := hid (show Rep B W3 bm G from hW1 ▸ HR.out.drewN _)
              replace HE := hid (show Blk W3 be 31 (evC e) from hW1 ▸ HE.out)
              replace HBW := hid (show Below be w W3 from hW1 ▸ below_drewN HBW.out _)
              replace HC := hid (show Blk W3 b 126 (clC c) from hW1 ▸ HC.out)
              clear hW1
              replace HT : Hid (Blk W3 bt 151 (tmC t)) := (HR.out.tm _ ((aget_mem HR.out.live.nodup).1 HG.out)).1
              have e_id : W3.cell? ⟨be, 4, none⟩ = some (.int .u64 e.id) := HE.out.cell 4 rfl
              have e_gen : W3.cell? ⟨be, 5, none⟩ = some (.int .u64 e.gen) := HE.out.cell 5 rfl
              have e_dl : W3.cell? ⟨be, 6, none⟩ = some (.int .u64 e.dl) := HE.out.cell 6 rfl
              have t_g : W3.cell? ⟨bt, 0, none⟩ = some (.int .u64 t.gen) := HT.out.cell 0 rfl
              have t_d : W3.cell? ⟨bt, 1, none⟩ = some (.int .u64 t.dl) := HT.out.cell 1 rfl
              have t_a : W3.cell? ⟨bt, 4, none⟩ = some (.bool t.armed) := HT.out.cell 4 rfl
              have t_b : W3.cell? ⟨bt, 5, none⟩ = some (.bool t.btw) := HT.out.cell 5 rfl
              have f0 := HT.out.frozen 0
              have f1 := HT.out.frozen 1
              have f4 := HT.out.frozen 4
              have f5 := HT.out.frozen 5
              have hne : be ≠ bt := fun h => HE.out.ne HT.out (by decide) h
              have hne' := hne.symm
              have hBw : B ≤ w.heap.size := Nat.le_trans hB (Nat.le_of_eq hBE.symm)
              go_wp2
              go_region_held3 (fun W => W.cell? ⟨be, 5, none⟩ = some (.int .u64 e.gen) ∧ W.cell? ⟨be, 6, none⟩ = some (.int .u64 e.dl)) (go_keep) (fail)
              all_goals go_wp2_with (go_at_call 105; refine (show Calls _ _ _ (((((W3.setCell ⟨bt, 0, none⟩ (.int .u64 e.gen)).setCell ⟨bt, 1, none⟩ (.int .u64 e.dl)).setCell ⟨bt, 4, none⟩ (.bool false)).setCell ⟨bt, 5, none⟩ (.bool false))).drew _ from ?_); generalize hW4 : (((((W3.setCell ⟨bt, 0, none⟩ (.int .u64 e.gen)).setCell ⟨bt, 1, none⟩ (.int .u64 e.dl)).setCell ⟨bt, 4, none⟩ (.bool false)).setCell ⟨bt, 5, none⟩ (.bool false))).drew = W4; have hch := hid (show Chg (· = bt) W3 W4 from hW4 ▸ (((((Chg.refl (· = bt) W3).sets rfl 0 (.int .u64 e.gen)).sets rfl 1 (.int .u64 e.dl)).sets rfl 4 (.bool false)).sets rfl 5 (.bool false)).drew); have HB := hid (below_chg (HBW.out.mono hB) hBw hch.out (fun k hk => hk ▸ (HR.out.tm _ ((aget_mem HR.out.live.nodup).1 HG.out)).2.1)); replace HR := hid (HR.out.tset HG.out hch.out (t' := { t with gen := e.gen, dl := e.dl, armed := false, btw := false }) (show Blk W4 bt _ (tmC _) from hW4 ▸ ((((HT.out.set 0 (.int .u64 e.gen)).set 1 (.int .u64 e.dl)).set 4 (.bool false)).set 5 (.bool false))) ⟨hE.out, he.dl, he1.out.per⟩); clear hch hW4 HBW HC HT; refine (finish_any B _ (G := { G with lv := aput G.lv e.id (bt, { t with gen := e.gen, dl := e.dl, armed := false, btw := false }) }) HR.out hi hc (e.id) (e.gen) (0)).mono ?_; rintro x w5 ⟨rfl, hr5, hc5⟩; have HR5 := hid hr5; have HB5 := hid (HB.out.trans (hc5.below (Nat.le_trans hBw HB.out.size) (fun k hk => hk ▸ (HR.out.cl _ (List.mem_of_getElem? hi)).2.1))); clear hr5 hc5)
              all_goals go_ret
              exact Ends.yes rfl HB5.out (by rw [HP.out, ← fin_ma (G := { G with lv := aput G.lv e.id (bt, { t with gen := e.gen, dl := e.dl, armed := false, btw := false }) }) hi]) HR5.out
            · have hgn' : (e.gen - 1 != t.gen) = true := by simp [hgn]
              have HP := hid (show resetM G.ma i c e = none by unfold resetM; rw [hN]; simp [hw, hi1, hd, hz, hgn])
              clear hN
              have HE0 := hid HE.out
              refine wp_region_any (by kernel_rfl) ?_
              show wpAny _ _ _ _ 49 _ _ W1.drew
              refine wpAny_take (i := 0) (v := ptrV bm) rfl (by kernel_rfl) (by kernel_rfl) (by kernel_rfl) (fun _ _ _ h => h) (Or.inl ⟨by rfl, fun w => by go_simp⟩) ?_
              refine wpAny_step (k := 1) (by kernel_rfl) rfl (fun K hK => ?_)
              go_simp
              refine hK.out _ _ ?_
              clear hK K
              refine wpAny_step (k := 2) (by kernel_rfl) rfl (fun K hK => ?_)
              go_simp
              refine (what_any (c := c) [3] _ _ (Reads.built_at _ [.int .i64 3] 3 1 _ (by simp)) (by simp) (hc ▸ (HR.out.drew.alloc _).mach.cell 9 rfl) ((HC.out.drew.alloc _).cell 3 rfl)).mono ?_
              rintro x w' ⟨hx, rfl⟩
              rw [HW.out] at hx
              subst hx
              refine hK.out _ _ ?_
              clear hK K
              refine wpAny_quiet_rest (k := 3) _ (by kernel_rfl) (by kernel_rfl) rfl (by kernel_rfl) ?_
              simp only [List.drop_succ_cons, List.drop_zero]
              generalize hW2 : W1.drew.alloc _ = W2
              replace HR := hid (show Rep B W2 bm G from hW2 ▸ HR.out.drew.alloc _)
              replace HE := hid (show Blk W2 be 31 (evC e) from hW2 ▸ HE.out.drew.alloc _)
              replace HBW := hid (show Below be w W2 from hW2 ▸ (HBW.out.drew.alloc (Nat.le_trans (Nat.le_of_lt HE0.out.lt) (by simp)) _))
              replace HC := hid (show Blk W2 b 126 (clC c) from hW2 ▸ HC.out.drew.alloc _)
              clear hW2 HE0
              replace HT : Hid (Blk W2 bt 151 (tmC t)) := (HR.out.tm _ ((aget_mem HR.out.live.nodup).1 HG.out)).1
              have m_c : W2.cell? ⟨bm, 9, none⟩ = some (ptrV b) := hc ▸ HR.out.mach.cell 9 rfl
              have e_id : W2.cell? ⟨be, 4, none⟩ = some (.int .u64 e.id) := HE.out.cell 4 rfl
              have e_dl : W2.cell? ⟨be, 6, none⟩ = some (.int .u64 e.dl) := HE.out.cell 6 rfl
              have e_gen : W2.cell? ⟨be, 5, none⟩ = some (.int .u64 e.gen) := HE.out.cell 5 rfl
              have c_id : W2.cell? ⟨b, 4, none⟩ = some (.int .u64 c.bg.id) := HC.out.cell 4 rfl
              have c_dl : W2.cell? ⟨b, 6, none⟩ = some (.int .u64 c.bg.dl) := HC.out.cell 6 rfl
              have t_g : W2.cell? ⟨bt, 0, none⟩ = some (.int .u64 t.gen) := HT.out.cell 0 rfl
              repeat (go_big_quiet_step (fail))
              refine wpQuiet_nil ?_
              intro _ hw'
              obtain ⟨nq, hw''⟩ := hw'
              subst hw''
              go_wp2
              go_ret
              exact Ends.no rfl (below_drewN (HBW.out.mono hB) _) HP.out
          · replace hz : e.gen = 0 := by simpa using hz
            have hz' : (e.gen == 0) = true := by simp [hz]
            have HP := hid (show resetM G.ma i c e = none by unfold resetM; rw [hN]; simp [hw, hi1, hd, hz])
            clear hN
            have HE0 := hid HE.out
            refine wp_region_any (by kernel_rfl) ?_
            show wpAny _ _ _ _ 49 _ _ W1.drew
            refine wpAny_take (i := 0) (v := ptrV bm) rfl (by kernel_rfl) (by kernel_rfl) (by kernel_rfl) (fun _ _ _ h => h) (Or.inl ⟨by rfl, fun w => by go_simp⟩) ?_
            refine wpAny_step (k := 1) (by kernel_rfl) rfl (fun K hK => ?_)
            go_simp
            refine hK.out _ _ ?_
            clear hK K
            refine wpAny_step (k := 2) (by kernel_rfl) rfl (fun K hK => ?_)
            go_simp
            refine (what_any (c := c) [3] _ _ (Reads.built_at _ [.int .i64 3] 3 1 _ (by simp)) (by simp) (hc ▸ (HR.out.drew.alloc _).mach.cell 9 rfl) ((HC.out.drew.alloc _).cell 3 rfl)).mono ?_
            rintro x w' ⟨hx, rfl⟩
            rw [HW.out] at hx
            subst hx
            refine hK.out _ _ ?_
            clear hK K
            refine wpAny_quiet_rest (k := 3) _ (by kernel_rfl) (by kernel_rfl) rfl (by kernel_rfl) ?_
            simp only [List.drop_succ_cons, List.drop_zero]
            generalize hW2 : W1.drew.alloc _ = W2
            replace HR := hid (show Rep B W2 bm G from hW2 ▸ HR.out.drew.alloc _)
            replace HE := hid (show Blk W2 be 31 (evC e) from hW2 ▸ HE.out.drew.alloc _)
            replace HBW := hid (show Below be w W2 from hW2 ▸ (HBW.out.drew.alloc (Nat.le_trans (Nat.le_of_lt HE0.out.lt) (by simp)) _))
            replace HC := hid (show Blk W2 b 126 (clC c) from hW2 ▸ HC.out.drew.alloc _)
            clear hW2 HE0
            replace HT : Hid (Blk W2 bt 151 (tmC t)) := (HR.out.tm _ ((aget_mem HR.out.live.nodup).1 HG.out)).1
            have m_c : W2.cell? ⟨bm, 9, none⟩ = some (ptrV b) := hc ▸ HR.out.mach.cell 9 rfl
            have e_id : W2.cell? ⟨be, 4, none⟩ = some (.int .u64 e.id) := HE.out.cell 4 rfl
            have e_dl : W2.cell? ⟨be, 6, none⟩ = some (.int .u64 e.dl) := HE.out.cell 6 rfl
            have e_gen : W2.cell? ⟨be, 5, none⟩ = some (.int .u64 e.gen) := HE.out.cell 5 rfl
            have c_id : W2.cell? ⟨b, 4, none⟩ = some (.int .u64 c.bg.id) := HC.out.cell 4 rfl
            have c_dl : W2.cell? ⟨b, 6, none⟩ = some (.int .u64 c.bg.dl) := HC.out.cell 6 rfl
            have t_g : W2.cell? ⟨bt, 0, none⟩ = some (.int .u64 t.gen) := HT.out.cell 0 rfl
            repeat (go_big_quiet_step (fail))
            refine wpQuiet_nil ?_
            intro _ hw'
            obtain ⟨nq, hw''⟩ := hw'
            subst hw''
            go_wp2
            go_ret
            exact Ends.no rfl (below_drewN (HBW.out.mono hB) _) HP.out
        · have hd' : (e.dl != c.bg.dl) = true := by simp [hd]
          have HP := hid (show resetM G.ma i c e = none by unfold resetM; rw [hN]; simp [hw, hi1, hd])
          clear hN
          have HE0 := hid HE.out
          refine wp_region_any (by kernel_rfl) ?_
          show wpAny _ _ _ _ 49 _ _ W1.drew
          refine wpAny_take (i := 0) (v := ptrV bm) rfl (by kernel_rfl) (by kernel_rfl) (by kernel_rfl) (fun _ _ _ h => h) (Or.inl ⟨by rfl, fun w => by go_simp⟩) ?_
          refine wpAny_step (k := 1) (by kernel_rfl) rfl (fun K hK => ?_)
          go_simp
          refine hK.out _ _ ?_
          clear hK K
          refine wpAny_step (k := 2) (by kernel_rfl) rfl (fun K hK => ?_)
          go_simp
          refine (what_any (c := c) [3] _ _ (Reads.built_at _ [.int .i64 3] 3 1 _ (by simp)) (by simp) (hc ▸ (HR.out.drew.alloc _).mach.cell 9 rfl) ((HC.out.drew.alloc _).cell 3 rfl)).mono ?_
          rintro x w' ⟨hx, rfl⟩
          rw [HW.out] at hx
          subst hx
          refine hK.out _ _ ?_
          clear hK K
          refine wpAny_quiet_rest (k := 3) _ (by kernel_rfl) (by kernel_rfl) rfl (by kernel_rfl) ?_
          simp only [List.drop_succ_cons, List.drop_zero]
          generalize hW2 : W1.drew.alloc _ = W2
          replace HR := hid (show Rep B W2 bm G from hW2 ▸ HR.out.drew.alloc _)
          replace HE := hid (show Blk W2 be 31 (evC e) from hW2 ▸ HE.out.drew.alloc _)
          replace HBW := hid (show Below be w W2 from hW2 ▸ (HBW.out.drew.alloc (Nat.le_trans (Nat.le_of_lt HE0.out.lt) (by simp)) _))
          replace HC := hid (show Blk W2 b 126 (clC c) from hW2 ▸ HC.out.drew.alloc _)
          clear hW2 HE0
          replace HT : Hid (Blk W2 bt 151 (tmC t)) := (HR.out.tm _ ((aget_mem HR.out.live.nodup).1 HG.out)).1
          have m_c : W2.cell? ⟨bm, 9, none⟩ = some (ptrV b) := hc ▸ HR.out.mach.cell 9 rfl
          have e_id : W2.cell? ⟨be, 4, none⟩ = some (.int .u64 e.id) := HE.out.cell 4 rfl
          have e_dl : W2.cell? ⟨be, 6, none⟩ = some (.int .u64 e.dl) := HE.out.cell 6 rfl
          have e_gen : W2.cell? ⟨be, 5, none⟩ = some (.int .u64 e.gen) := HE.out.cell 5 rfl
          have c_id : W2.cell? ⟨b, 4, none⟩ = some (.int .u64 c.bg.id) := HC.out.cell 4 rfl
          have c_dl : W2.cell? ⟨b, 6, none⟩ = some (.int .u64 c.bg.dl) := HC.out.cell 6 rfl
          have t_g : W2.cell? ⟨bt, 0, none⟩ = some (.int .u64 t.gen) := HT.out.cell 0 rfl
          repeat (go_big_quiet_step (fail))
          refine wpQuiet_nil ?_
          intro _ hw'
          obtain ⟨nq, hw''⟩ := hw'
          subst hw''
          go_wp2
          go_ret
          exact Ends.no rfl (below_drewN (HBW.out.mono hB) _) HP.out
      · have hi1' : (e.id != c.bg.id) = true := by simp [hi1]
        have HP := hid (show resetM G.ma i c e = none by unfold resetM; rw [hN]; simp [hw, hi1])
        clear hN
        have HE0 := hid HE.out
        refine wp_region_any (by kernel_rfl) ?_
        show wpAny _ _ _ _ 49 _ _ W1.drew
        refine wpAny_take (i := 0) (v := ptrV bm) rfl (by kernel_rfl) (by kernel_rfl) (by kernel_rfl) (fun _ _ _ h => h) (Or.inl ⟨by rfl, fun w => by go_simp⟩) ?_
        refine wpAny_step (k := 1) (by kernel_rfl) rfl (fun K hK => ?_)
        go_simp
        refine hK.out _ _ ?_
        clear hK K
        refine wpAny_step (k := 2) (by kernel_rfl) rfl (fun K hK => ?_)
        go_simp
        refine (what_any (c := c) [3] _ _ (Reads.built_at _ [.int .i64 3] 3 1 _ (by simp)) (by simp) (hc ▸ (HR.out.drew.alloc _).mach.cell 9 rfl) ((HC.out.drew.alloc _).cell 3 rfl)).mono ?_
        rintro x w' ⟨hx, rfl⟩
        rw [HW.out] at hx
        subst hx
        refine hK.out _ _ ?_
        clear hK K
        refine wpAny_quiet_rest (k := 3) _ (by kernel_rfl) (by kernel_rfl) rfl (by kernel_rfl) ?_
        simp only [List.drop_succ_cons, List.drop_zero]
        generalize hW2 : W1.drew.alloc _ = W2
        replace HR := hid (show Rep B W2 bm G from hW2 ▸ HR.out.drew.alloc _)
        replace HE := hid (show Blk W2 be 31 (evC e) from hW2 ▸ HE.out.drew.alloc _)
        replace HBW := hid (show Below be w W2 from hW2 ▸ (HBW.out.drew.alloc (Nat.le_trans (Nat.le_of_lt HE0.out.lt) (by simp)) _))
        replace HC := hid (show Blk W2 b 126 (clC c) from hW2 ▸ HC.out.drew.alloc _)
        clear hW2 HE0
        replace HT : Hid (Blk W2 bt 151 (tmC t)) := (HR.out.tm _ ((aget_mem HR.out.live.nodup).1 HG.out)).1
        have m_c : W2.cell? ⟨bm, 9, none⟩ = some (ptrV b) := hc ▸ HR.out.mach.cell 9 rfl
        have e_id : W2.cell? ⟨be, 4, none⟩ = some (.int .u64 e.id) := HE.out.cell 4 rfl
        have e_dl : W2.cell? ⟨be, 6, none⟩ = some (.int .u64 e.dl) := HE.out.cell 6 rfl
        have e_gen : W2.cell? ⟨be, 5, none⟩ = some (.int .u64 e.gen) := HE.out.cell 5 rfl
        have c_id : W2.cell? ⟨b, 4, none⟩ = some (.int .u64 c.bg.id) := HC.out.cell 4 rfl
        have c_dl : W2.cell? ⟨b, 6, none⟩ = some (.int .u64 c.bg.dl) := HC.out.cell 6 rfl
        have t_g : W2.cell? ⟨bt, 0, none⟩ = some (.int .u64 t.gen) := HT.out.cell 0 rfl
        repeat (go_big_quiet_step (fail))
        refine wpQuiet_nil ?_
        intro _ hw'
        obtain ⟨nq, hw''⟩ := hw'
        subst hw''
        go_wp2
        go_ret
        exact Ends.no rfl (below_drewN (HBW.out.mono hB) _) HP.out
    · have HW := hid (show decide (c.bg.what ∈ [3]) = false by simp [hw])
      have HP := hid (show resetM G.ma i c e = none by unfold resetM; rw [hN]; simp [hw])
      clear hN
      have HE0 := hid HE.out
      refine wp_region_any (by kernel_rfl) ?_
      show wpAny _ _ _ _ 49 _ _ W1.drew
      refine wpAny_take (i := 0) (v := ptrV bm) rfl (by kernel_rfl) (by kernel_rfl) (by kernel_rfl) (fun _ _ _ h => h) (Or.inl ⟨by rfl, fun w => by go_simp⟩) ?_
      refine wpAny_step (k := 1) (by kernel_rfl) rfl (fun K hK => ?_)
      go_simp
      refine hK.out _ _ ?_
      clear hK K
      refine wpAny_step (k := 2) (by kernel_rfl) rfl (fun K hK => ?_)
      go_simp
      refine (what_any (c := c) [3] _ _ (Reads.built_at _ [.int .i64 3] 3 1 _ (by simp)) (by simp) (hc ▸ (HR.out.drew.alloc _).mach.cell 9 rfl) ((HC.out.drew.alloc _).cell 3 rfl)).mono ?_
      rintro x w' ⟨hx, rfl⟩
      rw [HW.out] at hx
      subst hx
      refine hK.out _ _ ?_
      clear hK K
      refine wpAny_quiet_rest (k := 3) _ (by kernel_rfl) (by kernel_rfl) rfl (by kernel_rfl) ?_
      simp only [List.drop_succ_cons, List.drop_zero]
      generalize hW2 : W1.drew.alloc _ = W2
      replace HR := hid (show Rep B W2 bm G from hW2 ▸ HR.out.drew.alloc _)
      replace HE := hid (show Blk W2 be 31 (evC e) from hW2 ▸ HE.out.drew.alloc _)
      replace HBW := hid (show Below be w W2 from hW2 ▸ (HBW.out.drew.alloc (Nat.le_trans (Nat.le_of_lt HE0.out.lt) (by simp)) _))
      replace HC := hid (show Blk W2 b 126 (clC c) from hW2 ▸ HC.out.drew.alloc _)
      clear hW2 HE0
      replace HT : Hid (Blk W2 bt 151 (tmC t)) := (HR.out.tm _ ((aget_mem HR.out.live.nodup).1 HG.out)).1
      have m_c : W2.cell? ⟨bm, 9, none⟩ = some (ptrV b) := hc ▸ HR.out.mach.cell 9 rfl
      have e_id : W2.cell? ⟨be, 4, none⟩ = some (.int .u64 e.id) := HE.out.cell 4 rfl
      have e_dl : W2.cell? ⟨be, 6, none⟩ = some (.int .u64 e.dl) := HE.out.cell 6 rfl
      have e_gen : W2.cell? ⟨be, 5, none⟩ = some (.int .u64 e.gen) := HE.out.cell 5 rfl
      have c_id : W2.cell? ⟨b, 4, none⟩ = some (.int .u64 c.bg.id) := HC.out.cell 4 rfl
      have c_dl : W2.cell? ⟨b, 6, none⟩ = some (.int .u64 c.bg.dl) := HC.out.cell 6 rfl
      have t_g : W2.cell? ⟨bt, 0, none⟩ = some (.int .u64 t.gen) := HT.out.cell 0 rfl
      repeat (go_big_quiet_step (fail))
      refine wpQuiet_nil ?_
      intro _ hw'
      obtain ⟨nq, hw''⟩ := hw'
      subst hw''
      go_wp2
      go_ret
      exact Ends.no rfl (below_drewN (HBW.out.mono hB) _) HP.out
end Go.Proofs.Ytpnkkdpggofanaa
