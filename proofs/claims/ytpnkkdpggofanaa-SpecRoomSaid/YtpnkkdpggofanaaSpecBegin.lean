/- spec's rules by their walks: each does what the plain machine does. -/
import Derived.Test.YtpnkkdpggofanaaSpecC
namespace Go.Proofs.Ytpnkkdpggofanaa
open Go.RowKit

set_option maxRecDepth 20000 in
set_option maxHeartbeats 8000000 in
theorem begin_any (B : Nat) (w : World) {bm : Nat} {G : Gm} (h : Rep B w bm G) (hB : B ≤ w.heap.size) (hn : G.cs.length ≤ 1000000) (e : Ev) (he : e.wf) :
    Calls Try.prog 63 #[ptrV bm, evV e] w fun x w' => Ends B bm w (beginM G.ma e) x w' := by
  go_enter Try.func63, Try.ntmps63
  go_wp2
  generalize hW : w.alloc _ = W
  obtain ⟨hR, hE, hBW, hsz⟩ := h.boxed e hW
  clear hW h
  generalize hBE : w.heap.size = be at *
  have HR := hid hR
  have HE := hid hE
  have HBW := hid hBW
  clear hR hE hBW
  clear hsz
  obtain ⟨bo, cap, hvc⟩ := owns_shape HR.out.calls
  have HVC := hid hvc
  have m_open : W.cell? ⟨bm, 6, none⟩ = some (.map (some G.bo)) := HR.out.mach.cell 6 rfl
  have e_thr : W.cell? ⟨be, 1, none⟩ = some (.int .i64 e.thr) := HE.out.cell 1 rfl
  have e_call : W.cell? ⟨be, 2, none⟩ = some (.int .i64 e.call) := HE.out.cell 2 rfl
  have e_what : W.cell? ⟨be, 3, none⟩ = some (.int .i64 e.what) := HE.out.cell 3 rfl
  have m_calls : W.cell? ⟨bm, 5, none⟩ = some (.slice bo G.cs.length cap) := hvc ▸ HR.out.mach.cell 5 rfl
  have hl := fun n => (HR.out.drewN n).lookO e.thr
  clear hvc
  have hb1 : Int.bmod ((G.cs.length : Int) + 1) 18446744073709551616 = (G.cs.length : Int) + 1 := Int.bmod_eq_of_le (by omega) (by omega)
  by_cases hc : e.call = (G.cs.length : Int) + 1
  · have hc' : (e.call != (G.cs.length : Int) + 1) = false := by simp [hc]
    cases ho : hasK G.opn e.thr
    · by_cases h1 : 1 ≤ e.what
      · have h1' : decide (e.what < 1) = false := decide_eq_false (by omega)
        by_cases h7 : e.what ≤ 7
        · have h7' : decide (7 < e.what) = false := decide_eq_false (by omega)
          have HP := hid (show ∀ b v, beginM G.ma e = some ({ G with vc := v, cs := G.cs ++ [(b, (⟨e, true, false, 0, 0, 0⟩ : Cl))], opn := aput G.opn e.thr true } : Gm).ma by intro b v; unfold beginM; simp [hc, ho, Int.not_lt.2 h1, Int.not_lt.2 h7, cs_len, ma_opn, Gm.ma])
          clear hc h1 h7
          simp only [ho] at hl
          go_quiet (fail)
          clear hl m_calls m_open e_thr e_call e_what
          generalize hW1 : W.drewN _ = W1
          replace HR := hid (show Rep B W1 bm G from hW1 ▸ HR.out.drewN _)
          replace HE := hid (show Blk W1 be 31 (evC e) from hW1 ▸ HE.out)
          replace HBW := hid (show Below be w W1 from hW1 ▸ below_drewN HBW.out _)
          clear hW1
          have e_kind : W1.cell? ⟨be, 0, none⟩ = some (.int .i64 e.kind) := HE.out.cell 0 rfl
          have e_thr : W1.cell? ⟨be, 1, none⟩ = some (.int .i64 e.thr) := HE.out.cell 1 rfl
          have e_call : W1.cell? ⟨be, 2, none⟩ = some (.int .i64 e.call) := HE.out.cell 2 rfl
          have e_what : W1.cell? ⟨be, 3, none⟩ = some (.int .i64 e.what) := HE.out.cell 3 rfl
          have e_id : W1.cell? ⟨be, 4, none⟩ = some (.int .u64 e.id) := HE.out.cell 4 rfl
          have e_gen : W1.cell? ⟨be, 5, none⟩ = some (.int .u64 e.gen) := HE.out.cell 5 rfl
          have e_dl : W1.cell? ⟨be, 6, none⟩ = some (.int .u64 e.dl) := HE.out.cell 6 rfl
          have e_per : W1.cell? ⟨be, 7, none⟩ = some (.int .u64 e.per) := HE.out.cell 7 rfl
          have e_tk : W1.cell? ⟨be, 8, none⟩ = some (.int .u64 e.tk) := HE.out.cell 8 rfl
          have e_err : W1.cell? ⟨be, 9, none⟩ = some (.int .i64 e.err) := HE.out.cell 9 rfl
          have m_calls : W1.cell? ⟨bm, 5, none⟩ = some G.vc := HR.out.mach.cell 5 rfl
          have m_callsA : ∀ o, (W1.alloc o).cell? ⟨bm, 5, none⟩ = some G.vc := fun o => (HR.out.alloc o).mach.cell 5 rfl
          have m_callsB : ∀ o o', ((W1.alloc o).alloc o').cell? ⟨bm, 5, none⟩ = some G.vc := fun o o' => ((HR.out.alloc o).alloc o').mach.cell 5 rfl
          have hBw : B ≤ w.heap.size := Nat.le_trans hB (Nat.le_of_eq hBE.symm)
          have hW1 := hid (Nat.le_trans hBw HBW.out.size)
          have HX := hid (((HR.out.alloc (.cells (clC ⟨e, true, false, 0, 0, 0⟩).toArray 126)).alloc (.cells #[ptrV W1.heap.size] 101)).drew)
          obtain ⟨i0, hi, hz0, hz1, hz2⟩ := info_parts callp_info
          obtain ⟨v5, w5, hr5, hown5, hg5, hv5, _⟩ := run_append_own_at (P := Try.prog) _ B 99 99 101 i0 _ 1 8 Try.underlying99 hi hz0 hz1 hz2 rfl (by decide) _ _ _ HX.out.calls ⟨W1.heap.size + 1, 0, none⟩ 1 1 [ptrV W1.heap.size] rfl (fun j u hu => by have := cell_one_new (W1.alloc (.cells (clC ⟨e, true, false, 0, 0, 0⟩).toArray 126)) (ptrV W1.heap.size) 101 j u hu; simpa using this) (by intro u hu; simp at hu; subst hu; rfl) (by unfold maxLen; omega) (by omega) (Nat.le_trans hW1.out (by simp; omega))
          obtain ⟨bo5, cap5, hsh⟩ := owns_shape hown5
          subst hsh
          replace hr5 : (Builtin.append_ #[99, 99] 99 #[G.vc, .slice (some ⟨W1.heap.size + 1, 0, none⟩) 1 1]).run Try.prog ((W1.alloc (.cells #[.int .i64 e.kind, .int .i64 e.thr, .int .i64 e.call, .int .i64 e.what, .int .u64 e.id, .int .u64 e.gen, .int .u64 e.dl, .int .u64 e.per, .int .u64 e.tk, .int .i64 e.err, .bool true, .bool false, .int .u64 0, .int .u64 0, .int .i64 0] 126)).alloc (.cells #[ptrV W1.heap.size] 101)).drew = .ok (.slice bo5 (G.cs.length + 1) cap5) w5 := hr5
          have HG5 := hid hg5
          have hcm := HR.out.came hW1.out (c := ⟨e, true, false, 0, 0, 0⟩) ⟨he⟩ hown5 hg5
          have HR6 := hid hcm.1
          have HC6 := hid hcm.2
          have hg5c := hid (Chg.of_grown (S := fun k => G.vc.ownBlock = some k) hg5 (fun k hk => hk))
          have HE5 := hid (((HE.out.alloc (.cells (clC ⟨e, true, false, 0, 0, 0⟩).toArray 126)).alloc (.cells #[ptrV W1.heap.size] 101)).drew.chg hg5c.out (((HE.out.alloc (.cells (clC ⟨e, true, false, 0, 0, 0⟩).toArray 126)).alloc (.cells #[ptrV W1.heap.size] 101)).drew.ne_row HX.out.calls (by decide)))
          have HM5 := hid (HX.out.mach.chg hg5c.out (HX.out.mach.ne_row HX.out.calls (by decide)))
          have hne : be ≠ bm := fun h => HE.out.ne HR.out.mach (by decide) h
          have hne' := hne.symm
          have HE6 := hid (HE5.out.chg ((Chg.refl (· = bm) w5).sets rfl 5 (.slice bo5 (G.cs.length + 1) cap5)) hne)
          have hme := hid (show ∀ k, k = bm ∨ G.vc.ownBlock = some k → B ≤ k from fun k hk => hk.elim (fun h => h ▸ HR.out.base.1) (fun h => (HR.out.calls.lt k h).1))
          clear hcm hown5 hg5 hv5 hi hz0 hz1 hz2
          have e_kind5 : w5.cell? ⟨be, 0, none⟩ = some (.int .i64 e.kind) := HE5.out.cell 0 rfl
          have e_thr5 : w5.cell? ⟨be, 1, none⟩ = some (.int .i64 e.thr) := HE5.out.cell 1 rfl
          have e_call5 : w5.cell? ⟨be, 2, none⟩ = some (.int .i64 e.call) := HE5.out.cell 2 rfl
          have e_what5 : w5.cell? ⟨be, 3, none⟩ = some (.int .i64 e.what) := HE5.out.cell 3 rfl
          have e_id5 : w5.cell? ⟨be, 4, none⟩ = some (.int .u64 e.id) := HE5.out.cell 4 rfl
          have e_gen5 : w5.cell? ⟨be, 5, none⟩ = some (.int .u64 e.gen) := HE5.out.cell 5 rfl
          have e_dl5 : w5.cell? ⟨be, 6, none⟩ = some (.int .u64 e.dl) := HE5.out.cell 6 rfl
          have e_per5 : w5.cell? ⟨be, 7, none⟩ = some (.int .u64 e.per) := HE5.out.cell 7 rfl
          have e_tk5 : w5.cell? ⟨be, 8, none⟩ = some (.int .u64 e.tk) := HE5.out.cell 8 rfl
          have e_err5 : w5.cell? ⟨be, 9, none⟩ = some (.int .i64 e.err) := HE5.out.cell 9 rfl
          have m_calls5 : w5.cell? ⟨bm, 5, none⟩ = some G.vc := HM5.out.cell 5 rfl
          have f5 := HM5.out.frozen 5
          go_wp2
          refine wp_region_any (by kernel_rfl) ?_
          show wpAny _ _ _ _ 13 _ _ W1.drew
          refine wpAny_take (i := 0) (v := ptrV bm) rfl (by kernel_rfl) (by kernel_rfl) (by kernel_rfl) (fun _ _ _ h => h) (Or.inl ⟨by rfl, fun w => by go_simp⟩) ?_
          refine wpAny_take (i := 1) (v := ptrV bm) rfl (by kernel_rfl) (by kernel_rfl) (by kernel_rfl) (fun _ _ _ h => h) (Or.inl ⟨by rfl, fun w => by go_simp⟩) ?_
          refine wpAny_take (i := 2) (v := ptrV bm) rfl (by kernel_rfl) (by kernel_rfl) (by kernel_rfl) (fun _ _ _ h => h) (Or.inl ⟨by rfl, fun w => by go_simp⟩) ?_
          refine wpAny_take (i := 3) (v := .pointer (some ⟨bm, 5, none⟩)) rfl (by kernel_rfl) (by kernel_rfl) (by kernel_rfl) (fun _ _ _ h => h) (Or.inl ⟨by rfl, fun w => by go_simp⟩) ?_
          refine wpAny_two (k1 := 4) (k2 := 5) (by kernel_rfl) rfl rfl (fun K hK => ?_) (fun K hK => ?_)
          · go_simp
            refine hK.out _ _ ?_
            clear hK K
            refine wpAny_step (k := 5) (by kernel_rfl) rfl (fun K hK => ?_)
            go_simp
            refine hK.out _ _ ?_
            clear hK K
            refine wpAny_step (k := 6) (by kernel_rfl) rfl (fun K hK => ?_)
            go_simp
            refine hK.out _ _ ?_
            clear hK K
            refine wpAny_step (k := 7) (by kernel_rfl) rfl (fun K hK => ?_)
            go_simp
            refine hK.out _ _ ?_
            clear hK K
            refine wpAny_step (k := 8) (by kernel_rfl) rfl (fun K hK => ?_)
            go_simp
            refine hK.out _ _ ?_
            clear hK K
            refine wpAny_append (k := 9) (by kernel_rfl) rfl rfl rfl rfl rfl hr5 ?_
            refine wpAny_step (k := 10) (by kernel_rfl) rfl (fun K hK => ?_)
            go_simp
            refine hK.out _ _ ?_
            clear hK K
            refine wpAny_step (k := 11) (by kernel_rfl) rfl (fun K hK => ?_)
            go_simp
            refine hK.out _ _ ?_
            clear hK K
            refine wpAny_step (k := 12) (by kernel_rfl) rfl (fun K hK => ?_)
            go_simp
            refine hK.out _ _ ?_
            clear hK K
            refine wpAny_done (by kernel_rfl) ?_ _
            generalize hW6 : w5.setCell ⟨bm, 5, none⟩ (.slice bo5 (G.cs.length + 1) cap5) = W6
            rw [hW6] at HR6 HC6 HE6
            clear hW6 hr5
            clear e_kind e_thr e_call e_what e_id e_gen e_dl e_per e_tk e_err e_kind5 e_thr5 e_call5 e_what5 e_id5 e_gen5 e_dl5 e_per5 e_tk5 e_err5 m_calls m_callsA m_callsB m_calls5 f5
            have m_open : W6.cell? ⟨bm, 6, none⟩ = some (.map (some G.bo)) := HR6.out.mach.cell 6 rfl
            have e_thr : W6.cell? ⟨be, 1, none⟩ = some (.int .i64 e.thr) := HE6.out.cell 1 rfl
            have HB6 := hid (below_chg (HBW.out.mono hB) hBw HC6.out hme.out)
            go_wp2
            go_still_tail 6, (by kernel_rfl)
            refine (show wpList _ _ _ _ _ W6.drew from ?_)
            generalize hW3 : W6.drew = WD
            have HR3 := hid (show Rep B WD bm _ from hW3 ▸ HR6.out.drew)
            have HM := hid HR3.out.opn
            have HB3 := hid (show Below B w WD from hW3 ▸ HB6.out.drew)
            clear hW3
            go_wp2_with (refine wpList_update _ rfl 82 _ _ _ rfl (keyLaw_int Try.underlying3) Try.underlying82 G.bo G.opn HM.out rfl e.thr rfl true rfl ?_; intro w4 hm4 hg4 hs4; have HR4 := hid (HR3.out.oset (Chg.of_grown hg4 (fun k hk => (Option.some.inj hk).symm)) hm4); have HB4 := hid (HB3.out.trans ((Chg.of_grown (S := (· = G.bo)) hg4 (fun k hk => (Option.some.inj hk).symm)).below (Nat.le_trans hBw HB3.out.size) (fun k hk => hk ▸ HR3.out.base.2.1))); clear hm4 hg4 hs4)
            go_ret
            exact Ends.yes rfl HB4.out (HP.out _ _) HR4.out
          · go_simp
            refine hK.out _ _ ?_
            clear hK K
            refine wpAny_two (k1 := 4) (k2 := 6) (by kernel_rfl) rfl rfl (fun K hK => ?_) (fun K hK => ?_)
            · go_simp
              refine hK.out _ _ ?_
              clear hK K
              refine wpAny_step (k := 6) (by kernel_rfl) rfl (fun K hK => ?_)
              go_simp
              refine hK.out _ _ ?_
              clear hK K
              refine wpAny_step (k := 7) (by kernel_rfl) rfl (fun K hK => ?_)
              go_simp
              refine hK.out _ _ ?_
              clear hK K
              refine wpAny_step (k := 8) (by kernel_rfl) rfl (fun K hK => ?_)
              go_simp
              refine hK.out _ _ ?_
              clear hK K
              refine wpAny_append (k := 9) (by kernel_rfl) rfl rfl rfl rfl rfl hr5 ?_
              refine wpAny_step (k := 10) (by kernel_rfl) rfl (fun K hK => ?_)
              go_simp
              refine hK.out _ _ ?_
              clear hK K
              refine wpAny_step (k := 11) (by kernel_rfl) rfl (fun K hK => ?_)
              go_simp
              refine hK.out _ _ ?_
              clear hK K
              refine wpAny_step (k := 12) (by kernel_rfl) rfl (fun K hK => ?_)
              go_simp
              refine hK.out _ _ ?_
              clear hK K
              refine wpAny_done (by kernel_rfl) ?_ _
              generalize hW6 : w5.setCell ⟨bm, 5, none⟩ (.slice bo5 (G.cs.length + 1) cap5) = W6
              rw [hW6] at HR6 HC6 HE6
              clear hW6 hr5
              clear e_kind e_thr e_call e_what e_id e_gen e_dl e_per e_tk e_err e_kind5 e_thr5 e_call5 e_what5 e_id5 e_gen5 e_dl5 e_per5 e_tk5 e_err5 m_calls m_callsA m_callsB m_calls5 f5
              have m_open : W6.cell? ⟨bm, 6, none⟩ = some (.map (some G.bo)) := HR6.out.mach.cell 6 rfl
              have e_thr : W6.cell? ⟨be, 1, none⟩ = some (.int .i64 e.thr) := HE6.out.cell 1 rfl
              have HB6 := hid (below_chg (HBW.out.mono hB) hBw HC6.out hme.out)
              go_wp2
              go_still_tail 6, (by kernel_rfl)
              refine (show wpList _ _ _ _ _ W6.drew from ?_)
              generalize hW3 : W6.drew = WD
              have HR3 := hid (show Rep B WD bm _ from hW3 ▸ HR6.out.drew)
              have HM := hid HR3.out.opn
              have HB3 := hid (show Below B w WD from hW3 ▸ HB6.out.drew)
              clear hW3
              go_wp2_with (refine wpList_update _ rfl 82 _ _ _ rfl (keyLaw_int Try.underlying3) Try.underlying82 G.bo G.opn HM.out rfl e.thr rfl true rfl ?_; intro w4 hm4 hg4 hs4; have HR4 := hid (HR3.out.oset (Chg.of_grown hg4 (fun k hk => (Option.some.inj hk).symm)) hm4); have HB4 := hid (HB3.out.trans ((Chg.of_grown (S := (· = G.bo)) hg4 (fun k hk => (Option.some.inj hk).symm)).below (Nat.le_trans hBw HB3.out.size) (fun k hk => hk ▸ HR3.out.base.2.1))); clear hm4 hg4 hs4)
              go_ret
              exact Ends.yes rfl HB4.out (HP.out _ _) HR4.out
            · go_simp
              refine hK.out _ _ ?_
              clear hK K
              refine wpAny_two (k1 := 4) (k2 := 7) (by kernel_rfl) rfl rfl (fun K hK => ?_) (fun K hK => ?_)
              · go_simp
                refine hK.out _ _ ?_
                clear hK K
                refine wpAny_step (k := 7) (by kernel_rfl) rfl (fun K hK => ?_)
                go_simp
                refine hK.out _ _ ?_
                clear hK K
                refine wpAny_step (k := 8) (by kernel_rfl) rfl (fun K hK => ?_)
                go_simp
                refine hK.out _ _ ?_
                clear hK K
                refine wpAny_append (k := 9) (by kernel_rfl) rfl rfl rfl rfl rfl hr5 ?_
                refine wpAny_step (k := 10) (by kernel_rfl) rfl (fun K hK => ?_)
                go_simp
                refine hK.out _ _ ?_
                clear hK K
                refine wpAny_step (k := 11) (by kernel_rfl) rfl (fun K hK => ?_)
                go_simp
                refine hK.out _ _ ?_
                clear hK K
                refine wpAny_step (k := 12) (by kernel_rfl) rfl (fun K hK => ?_)
                go_simp
                refine hK.out _ _ ?_
                clear hK K
                refine wpAny_done (by kernel_rfl) ?_ _
                generalize hW6 : w5.setCell ⟨bm, 5, none⟩ (.slice bo5 (G.cs.length + 1) cap5) = W6
                rw [hW6] at HR6 HC6 HE6
                clear hW6 hr5
                clear e_kind e_thr e_call e_what e_id e_gen e_dl e_per e_tk e_err e_kind5 e_thr5 e_call5 e_what5 e_id5 e_gen5 e_dl5 e_per5 e_tk5 e_err5 m_calls m_callsA m_callsB m_calls5 f5
                have m_open : W6.cell? ⟨bm, 6, none⟩ = some (.map (some G.bo)) := HR6.out.mach.cell 6 rfl
                have e_thr : W6.cell? ⟨be, 1, none⟩ = some (.int .i64 e.thr) := HE6.out.cell 1 rfl
                have HB6 := hid (below_chg (HBW.out.mono hB) hBw HC6.out hme.out)
                go_wp2
                go_still_tail 6, (by kernel_rfl)
                refine (show wpList _ _ _ _ _ W6.drew from ?_)
                generalize hW3 : W6.drew = WD
                have HR3 := hid (show Rep B WD bm _ from hW3 ▸ HR6.out.drew)
                have HM := hid HR3.out.opn
                have HB3 := hid (show Below B w WD from hW3 ▸ HB6.out.drew)
                clear hW3
                go_wp2_with (refine wpList_update _ rfl 82 _ _ _ rfl (keyLaw_int Try.underlying3) Try.underlying82 G.bo G.opn HM.out rfl e.thr rfl true rfl ?_; intro w4 hm4 hg4 hs4; have HR4 := hid (HR3.out.oset (Chg.of_grown hg4 (fun k hk => (Option.some.inj hk).symm)) hm4); have HB4 := hid (HB3.out.trans ((Chg.of_grown (S := (· = G.bo)) hg4 (fun k hk => (Option.some.inj hk).symm)).below (Nat.le_trans hBw HB3.out.size) (fun k hk => hk ▸ HR3.out.base.2.1))); clear hm4 hg4 hs4)
                go_ret
                exact Ends.yes rfl HB4.out (HP.out _ _) HR4.out
              · go_simp
                refine hK.out _ _ ?_
                clear hK K
                refine wpAny_two (k1 := 4) (k2 := 8) (by kernel_rfl) rfl rfl (fun K hK => ?_) (fun K hK => ?_)
                · go_simp
                  refine hK.out _ _ ?_
                  clear hK K
                  refine wpAny_step (k := 8) (by kernel_rfl) rfl (fun K hK => ?_)
                  go_simp
                  refine hK.out _ _ ?_
                  clear hK K
                  refine wpAny_append (k := 9) (by kernel_rfl) rfl rfl rfl rfl rfl hr5 ?_
                  refine wpAny_step (k := 10) (by kernel_rfl) rfl (fun K hK => ?_)
                  go_simp
                  refine hK.out _ _ ?_
                  clear hK K
                  refine wpAny_step (k := 11) (by kernel_rfl) rfl (fun K hK => ?_)
                  go_simp
                  refine hK.out _ _ ?_
                  clear hK K
                  refine wpAny_step (k := 12) (by kernel_rfl) rfl (fun K hK => ?_)
                  go_simp
                  refine hK.out _ _ ?_
                  clear hK K
                  refine wpAny_done (by kernel_rfl) ?_ _
                  generalize hW6 : w5.setCell ⟨bm, 5, none⟩ (.slice bo5 (G.cs.length + 1) cap5) = W6
                  rw [hW6] at HR6 HC6 HE6
                  clear hW6 hr5
                  clear e_kind e_thr e_call e_what e_id e_gen e_dl e_per e_tk e_err e_kind5 e_thr5 e_call5 e_what5 e_id5 e_gen5 e_dl5 e_per5 e_tk5 e_err5 m_calls m_callsA m_callsB m_calls5 f5
                  have m_open : W6.cell? ⟨bm, 6, none⟩ = some (.map (some G.bo)) := HR6.out.mach.cell 6 rfl
                  have e_thr : W6.cell? ⟨be, 1, none⟩ = some (.int .i64 e.thr) := HE6.out.cell 1 rfl
                  have HB6 := hid (below_chg (HBW.out.mono hB) hBw HC6.out hme.out)
                  go_wp2
                  go_still_tail 6, (by kernel_rfl)
                  refine (show wpList _ _ _ _ _ W6.drew from ?_)
                  generalize hW3 : W6.drew = WD
                  have HR3 := hid (show Rep B WD bm _ from hW3 ▸ HR6.out.drew)
                  have HM := hid HR3.out.opn
                  have HB3 := hid (show Below B w WD from hW3 ▸ HB6.out.drew)
                  clear hW3
                  go_wp2_with (refine wpList_update _ rfl 82 _ _ _ rfl (keyLaw_int Try.underlying3) Try.underlying82 G.bo G.opn HM.out rfl e.thr rfl true rfl ?_; intro w4 hm4 hg4 hs4; have HR4 := hid (HR3.out.oset (Chg.of_grown hg4 (fun k hk => (Option.some.inj hk).symm)) hm4); have HB4 := hid (HB3.out.trans ((Chg.of_grown (S := (· = G.bo)) hg4 (fun k hk => (Option.some.inj hk).symm)).below (Nat.le_trans hBw HB3.out.size) (fun k hk => hk ▸ HR3.out.base.2.1))); clear hm4 hg4 hs4)
                  go_ret
                  exact Ends.yes rfl HB4.out (HP.out _ _) HR4.out
                · go_simp
                  refine hK.out _ _ ?_
                  clear hK K
                  refine wpAny_step (k := 4) (by kernel_rfl) rfl (fun K hK => ?_)
                  go_simp
                  refine hK.out _ _ ?_
                  clear hK K
                  refine wpAny_append (k := 9) (by kernel_rfl) rfl rfl rfl rfl rfl hr5 ?_
                  refine wpAny_step (k := 10) (by kernel_rfl) rfl (fun K hK => ?_)
                  go_simp
                  refine hK.out _ _ ?_
                  clear hK K
                  refine wpAny_step (k := 11) (by kernel_rfl) rfl (fun K hK => ?_)
                  go_simp
                  refine hK.out _ _ ?_
                  clear hK K
                  refine wpAny_step (k := 12) (by kernel_rfl) rfl (fun K hK => ?_)
                  go_simp
                  refine hK.out _ _ ?_
                  clear hK K
                  refine wpAny_done (by kernel_rfl) ?_ _
                  generalize hW6 : w5.setCell ⟨bm, 5, none⟩ (.slice bo5 (G.cs.length + 1) cap5) = W6
                  rw [hW6] at HR6 HC6 HE6
                  clear hW6 hr5
                  clear e_kind e_thr e_call e_what e_id e_gen e_dl e_per e_tk e_err e_kind5 e_thr5 e_call5 e_what5 e_id5 e_gen5 e_dl5 e_per5 e_tk5 e_err5 m_calls m_callsA m_callsB m_calls5 f5
                  have m_open : W6.cell? ⟨bm, 6, none⟩ = some (.map (some G.bo)) := HR6.out.mach.cell 6 rfl
                  have e_thr : W6.cell? ⟨be, 1, none⟩ = some (.int .i64 e.thr) := HE6.out.cell 1 rfl
                  have HB6 := hid (below_chg (HBW.out.mono hB) hBw HC6.out hme.out)
                  go_wp2
                  go_still_tail 6, (by kernel_rfl)
                  refine (show wpList _ _ _ _ _ W6.drew from ?_)
                  generalize hW3 : W6.drew = WD
                  have HR3 := hid (show Rep B WD bm _ from hW3 ▸ HR6.out.drew)
                  have HM := hid HR3.out.opn
                  have HB3 := hid (show Below B w WD from hW3 ▸ HB6.out.drew)
                  clear hW3
                  go_wp2_with (refine wpList_update _ rfl 82 _ _ _ rfl (keyLaw_int Try.underlying3) Try.underlying82 G.bo G.opn HM.out rfl e.thr rfl true rfl ?_; intro w4 hm4 hg4 hs4; have HR4 := hid (HR3.out.oset (Chg.of_grown hg4 (fun k hk => (Option.some.inj hk).symm)) hm4); have HB4 := hid (HB3.out.trans ((Chg.of_grown (S := (· = G.bo)) hg4 (fun k hk => (Option.some.inj hk).symm)).below (Nat.le_trans hBw HB3.out.size) (fun k hk => hk ▸ HR3.out.base.2.1))); clear hm4 hg4 hs4)
                  go_ret
                  exact Ends.yes rfl HB4.out (HP.out _ _) HR4.out
        · have h7' : decide (7 < e.what) = true := decide_eq_true (by omega)
          have HP := hid (show beginM G.ma e = none by unfold beginM; simp [hc, ho, Int.not_lt.2 h1, Int.not_le.1 h7, cs_len, ma_opn])
          clear hc h1 h7
          simp only [ho] at hl
          go_quiet (fail)
          go_wp2
          go_ret
          exact Ends.no rfl (below_drewN (HBW.out.mono hB) _) HP.out
      · have h1' : decide (e.what < 1) = true := decide_eq_true (by omega)
        have HP := hid (show beginM G.ma e = none by unfold beginM; simp [hc, ho, Int.not_le.1 h1, cs_len, ma_opn])
        clear hc h1
        simp only [ho] at hl
        go_quiet (fail)
        go_wp2
        go_ret
        exact Ends.no rfl (below_drewN (HBW.out.mono hB) _) HP.out
    · have HP := hid (show beginM G.ma e = none by unfold beginM; simp [hc, ho, cs_len, ma_opn])
      clear hc
      simp only [ho] at hl
      go_quiet (fail)
      go_wp2
      go_ret
      exact Ends.no rfl (below_drewN (HBW.out.mono hB) _) HP.out
  · have hc' : (e.call != (G.cs.length : Int) + 1) = true := by simp [hc]
    have HP := hid (show beginM G.ma e = none by unfold beginM; simp [hc, cs_len, ma_opn])
    clear hc
    go_quiet (fail)
    go_wp2
    go_ret
    exact Ends.no rfl (below_drewN (HBW.out.mono hB) _) HP.out
end Go.Proofs.Ytpnkkdpggofanaa
