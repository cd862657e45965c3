/- spec's rules by their walks: each does what the plain machine does. -/
import Derived.Test.YtpnkkdpggofanaaSpecC
namespace Go.Proofs.Ytpnkkdpggofanaa
open Go.RowKit

set_option maxRecDepth 4000 in
set_option maxHeartbeats 8000000 in
theorem addRule_any (B : Nat) (w : World) {bm b i : Nat} {c : Cl} {G : Gm} (h : Rep B w bm G) (hB : B ≤ w.heap.size) (hi : G.cs[i]? = some (b, c)) (hc : G.cp = ptrV b) (e : Ev) (he : e.wf) :
    Calls Try.prog 80 #[ptrV bm, evV e] w fun x w' => Ends B bm w (addM G.ma i c e) x w' := by
  go_enter Try.func80, Try.ntmps80
  go_wp2
  generalize hW : w.alloc _ = W
  obtain ⟨hR, hE, hBW, hsz⟩ := h.boxed e hW
  clear hW h
  generalize hBE : w.heap.size = be at *
  have HR := hid hR
  have HE := hid hE
  have HBW := hid hBW
  have HC : Hid (Blk W b 126 (clC c)) := (HR.out.cl _ (List.mem_of_getElem? hi)).1
  clear hR hE hBW
  clear hsz
  by_cases hw : c.bg.what = 1 ∨ c.bg.what = 2
  · have HW := hid (show decide (c.bg.what ∈ [1, 2]) = true by simp [hw])
    cases he1 : G.ended
    · cases ha : hasK G.added e.id
      · by_cases hr : (G.lv.length : Int) < G.room
        · have hr' : decide (G.room ≤ (G.lv.length : Int)) = false := decide_eq_false (by omega)
          have RAW := hid (And.intro he1 (And.intro ha (And.intro hr hw)))
          clear hw hr
          have HE0 := hid HE.out
          refine wp_region_any (by kernel_rfl) ?_
          show wpAny _ _ _ _ 32 _ _ W.drew
          refine wpAny_take (i := 0) (v := ptrV bm) rfl (by kernel_rfl) (by kernel_rfl) (by kernel_rfl) (fun _ _ _ h => h) (Or.inl ⟨by rfl, fun w => by go_simp⟩) ?_
          refine wpAny_step (k := 1) (by kernel_rfl) rfl (fun K hK => ?_)
          go_simp
          refine hK.out _ _ ?_
          clear hK K
          refine wpAny_step (k := 2) (by kernel_rfl) rfl (fun K hK => ?_)
          go_simp
          refine (what_any (c := c) [1, 2] _ _ (Reads.built_at _ [.int .i64 1, .int .i64 2] 3 2 _ (by simp)) (by simp) (hc ▸ (HR.out.drew.alloc _).mach.cell 9 rfl) ((HC.out.drew.alloc _).cell 3 rfl)).mono ?_
          rintro x w' ⟨hx, rfl⟩
          rw [HW.out] at hx
          subst hx
          refine hK.out _ _ ?_
          clear hK K
          refine wpAny_quiet_rest (k := 3) _ (by kernel_rfl) (by kernel_rfl) rfl (by kernel_rfl) ?_
          simp only [List.drop_succ_cons, List.drop_zero]
          generalize hW2 : W.drew.alloc _ = W2
          replace HR := hid (show Rep B W2 bm G from hW2 ▸ HR.out.drew.alloc _)
          replace HE := hid (show Blk W2 be 31 (evC e) from hW2 ▸ HE.out.drew.alloc _)
          replace HBW := hid (show Below be w W2 from hW2 ▸ (HBW.out.drew.alloc (Nat.le_trans (Nat.le_of_lt HE0.out.lt) (by simp)) _))
          replace HC := hid (show Blk W2 b 126 (clC c) from hW2 ▸ HC.out.drew.alloc _)
          clear hW2 HE0
          have m_ended : W2.cell? ⟨bm, 3, none⟩ = some (.bool G.ended) := HR.out.mach.cell 3 rfl
          have m_added : W2.cell? ⟨bm, 7, none⟩ = some (.map (some G.ba)) := HR.out.mach.cell 7 rfl
          have m_live : W2.cell? ⟨bm, 8, none⟩ = some (.map (some G.bl)) := HR.out.mach.cell 8 rfl
          have m_room : W2.cell? ⟨bm, 0, none⟩ = some (.int .i64 G.room) := HR.out.mach.cell 0 rfl
          have e_id : W2.cell? ⟨be, 4, none⟩ = some (.int .u64 e.id) := HE.out.cell 4 rfl
          have hl := fun n => (HR.out.drewN n).lookA e.id
          have hlen := fun n => (HR.out.drewN n).len
          rw [he1] at m_ended
          simp only [ha] at hl
          clear he1 ha
          repeat (go_big_quiet_step (fail))
          refine wpQuiet_nil ?_
          intro _ hw'
          obtain ⟨nq, hw''⟩ := hw'
          subst hw''
          clear hl hlen hr' m_ended m_added m_live m_room e_id
          generalize hW1 : W2.drewN _ = W3
          replace HR := hid (show Rep B W3 bm G from hW1 ▸ HR.out.drewN _)
          replace HE := hid (show Blk W3 be 31 (evC e) from hW1 ▸ HE.out)
          replace HBW := hid (show Below be w W3 from hW1 ▸ below_drewN HBW.out _)
          replace HC := hid (show Blk W3 b 126 (clC c) from hW1 ▸ HC.out)
          clear hW1
          have hBw : B ≤ w.heap.size := Nat.le_trans hB (Nat.le_of_eq hBE.symm)
          by_cases h2 : c.bg.what = 2
          · have HW2 := hid (show decide (c.bg.what ∈ [2]) = true by simp [h2])
            cases hp : perOk c
            · have HPer := hid hp
              have HP := hid (show addM G.ma i c e = none by unfold addM; simp [RAW.out.1, RAW.out.2.1, ma_ended, ma_added, lv_len, ma_room, h2, hp])
              clear h2
              go_wp2_with (first | (go_at_call 102; have HEp := hid HE.out; refine (what_any (c := c) [2] _ _ (Reads.built_at _ [.int .i64 2] 3 1 _ (by first | omega | simp)) (by simp) (hc ▸ (HR.out.alloc _).mach.cell 9 rfl) ((HC.out.alloc _).cell 3 rfl)).mono ?_; rintro x w' ⟨hx, rfl⟩; rw [HW2.out] at hx; subst hx; generalize hW2 : World.alloc _ _ = W4; replace HR := hid (show Rep B W4 bm G from hW2 ▸ HR.out.alloc _); replace HE := hid (show Blk W4 be 31 (evC e) from hW2 ▸ HE.out.alloc _); replace HBW := hid (show Below be w W4 from hW2 ▸ (HBW.out.alloc (Nat.le_of_lt HEp.out.lt) _)); replace HC := hid (show Blk W4 b 126 (clC c) from hW2 ▸ HC.out.alloc _); clear hW2; clear HEp; have m_c : W4.cell? ⟨bm, 9, none⟩ = some (ptrV b) := hc ▸ HR.out.mach.cell 9 rfl; have e_dl : W4.cell? ⟨be, 6, none⟩ = some (.int .u64 e.dl) := HE.out.cell 6 rfl; have e_per : W4.cell? ⟨be, 7, none⟩ = some (.int .u64 e.per) := HE.out.cell 7 rfl; have c_dl : W4.cell? ⟨b, 6, none⟩ = some (.int .u64 c.bg.dl) := HC.out.cell 6 rfl; have c_per : W4.cell? ⟨b, 7, none⟩ = some (.int .u64 c.bg.per) := HC.out.cell 7 rfl) | (go_at_call 104; refine (period_any (c := c) _ (HR.out.cl _ (List.mem_of_getElem? hi)).2.2.bg (hc ▸ HR.out.mach.cell 9 rfl) (HC.out.cell 6 rfl) (HC.out.cell 7 rfl)).mono ?_; rintro x w' ⟨hx, n, rfl⟩; rw [HPer.out] at hx; subst hx; generalize hW2 : World.drewN _ _ = W4; replace HR := hid (show Rep B W4 bm G from hW2 ▸ HR.out.drewN _); replace HE := hid (show Blk W4 be 31 (evC e) from hW2 ▸ HE.out); replace HBW := hid (show Below be w W4 from hW2 ▸ below_drewN HBW.out _); replace HC := hid (show Blk W4 b 126 (clC c) from hW2 ▸ HC.out); clear hW2; have m_c : W4.cell? ⟨bm, 9, none⟩ = some (ptrV b) := hc ▸ HR.out.mach.cell 9 rfl; have e_dl : W4.cell? ⟨be, 6, none⟩ = some (.int .u64 e.dl) := HE.out.cell 6 rfl; have e_per : W4.cell? ⟨be, 7, none⟩ = some (.int .u64 e.per) := HE.out.cell 7 rfl; have c_dl : W4.cell? ⟨b, 6, none⟩ = some (.int .u64 c.bg.dl) := HC.out.cell 6 rfl; have c_per : W4.cell? ⟨b, 7, none⟩ = some (.int .u64 c.bg.per) := HC.out.cell 7 rfl))
              go_ret
              exact Ends.no rfl (HBW.out.mono hB) HP.out
            · have HPer := hid hp
              have RAW2 := hid h2
              clear h2
              by_cases hd : e.dl = c.bg.dl
              · have hd' : (e.dl != c.bg.dl) = false := by simp [hd]
                by_cases hpe : e.per = c.bg.per
                · have hpe' : (e.per != c.bg.per) = false := by simp [hpe]
                  have HP := hid (show ∀ nb, addM G.ma i c e = some (fin ({ G with added := aput G.added e.id true, lv := aput G.lv e.id (nb, ⟨e.gen, e.dl, e.per, false, false, false⟩) } : Gm).ma i e.id e.gen 0) by intro nb; rw [add_ma]; unfold addM; simp [RAW.out.1, RAW.out.2.1, RAW.out.2.2.1, ma_ended, ma_added, lv_len, ma_room, RAW2.out, hp, hd, hpe])
                  clear hd hpe
                  go_wp2_with (first | (go_at_call 102; have HEp := hid HE.out; refine (what_any (c := c) [2] _ _ (Reads.built_at _ [.int .i64 2] 3 1 _ (by first | omega | simp)) (by simp) (hc ▸ (HR.out.alloc _).mach.cell 9 rfl) ((HC.out.alloc _).cell 3 rfl)).mono ?_; rintro x w' ⟨hx, rfl⟩; rw [HW2.out] at hx; subst hx; generalize hW2 : World.alloc _ _ = W4; replace HR := hid (show Rep B W4 bm G from hW2 ▸ HR.out.alloc _); replace HE := hid (show Blk W4 be 31 (evC e) from hW2 ▸ HE.out.alloc _); replace HBW := hid (show Below be w W4 from hW2 ▸ (HBW.out.alloc (Nat.le_of_lt HEp.out.lt) _)); replace HC := hid (show Blk W4 b 126 (clC c) from hW2 ▸ HC.out.alloc _); clear hW2; clear HEp; have m_c : W4.cell? ⟨bm, 9, none⟩ = some (ptrV b) := hc ▸ HR.out.mach.cell 9 rfl; have e_dl : W4.cell? ⟨be, 6, none⟩ = some (.int .u64 e.dl) := HE.out.cell 6 rfl; have e_per : W4.cell? ⟨be, 7, none⟩ = some (.int .u64 e.per) := HE.out.cell 7 rfl; have c_dl : W4.cell? ⟨b, 6, none⟩ = some (.int .u64 c.bg.dl) := HC.out.cell 6 rfl; have c_per : W4.cell? ⟨b, 7, none⟩ = some (.int .u64 c.bg.per) := HC.out.cell 7 rfl) | (go_at_call 104; refine (period_any (c := c) _ (HR.out.cl _ (List.mem_of_getElem? hi)).2.2.bg (hc ▸ HR.out.mach.cell 9 rfl) (HC.out.cell 6 rfl) (HC.out.cell 7 rfl)).mono ?_; rintro x w' ⟨hx, n, rfl⟩; rw [HPer.out] at hx; subst hx; generalize hW2 : World.drewN _ _ = W4; replace HR := hid (show Rep B W4 bm G from hW2 ▸ HR.out.drewN _); replace HE := hid (show Blk W4 be 31 (evC e) from hW2 ▸ HE.out); replace HBW := hid (show Below be w W4 from hW2 ▸ below_drewN HBW.out _); replace HC := hid (show Blk W4 b 126 (clC c) from hW2 ▸ HC.out); clear hW2; have m_c : W4.cell? ⟨bm, 9, none⟩ = some (ptrV b) := hc ▸ HR.out.mach.cell 9 rfl; have e_dl : W4.cell? ⟨be, 6, none⟩ = some (.int .u64 e.dl) := HE.out.cell 6 rfl; have e_per : W4.cell? ⟨be, 7, none⟩ = some (.int .u64 e.per) := HE.out.cell 7 rfl; have c_dl : W4.cell? ⟨b, 6, none⟩ = some (.int .u64 c.bg.dl) := HC.out.cell 6 rfl; have c_per : W4.cell? ⟨b, 7, none⟩ = some (.int .u64 c.bg.per) := HC.out.cell 7 rfl))
                  go_quiet (fail)
                  generalize hW1 : W4.drewN _ = W5
                  replace HR := hid (show Rep B W5 bm G from hW1 ▸ HR.out.drewN _)
                  replace HE := hid (show Blk W5 be 31 (evC e) from hW1 ▸ HE.out)
                  replace HBW := hid (show Below be w W5 from hW1 ▸ below_drewN HBW.out _)
                  replace HC := hid (show Blk W5 b 126 (clC c) from hW1 ▸ HC.out)
                  clear hW1
                  have m_added : W5.cell? ⟨bm, 7, none⟩ = some (.map (some G.ba)) := HR.out.mach.cell 7 rfl
                  have e_id : W5.cell? ⟨be, 4, none⟩ = some (.int .u64 e.id) := HE.out.cell 4 rfl
                  go_wp2
                  go_still_tail 6, (by kernel_rfl)
                  refine (show wpList _ _ _ _ _ W5.drew from ?_)
                  generalize hW3 : W5.drew = WD
                  have HR3 := hid (show Rep B WD bm G from hW3 ▸ HR.out.drew)
                  have HM := hid HR3.out.added
                  have HB3 := hid (show Below B w WD from hW3 ▸ (HBW.out.mono hB).drew)
                  have HE3 := hid (show Blk WD be 31 (evC e) from hW3 ▸ HE.out.drew)
                  clear hW3
                  go_wp2_with (refine wpList_update _ rfl 100 _ _ _ rfl (keyLaw_int Try.underlying29) Try.underlying100 G.ba G.added HM.out rfl e.id rfl true rfl ?_; intro w4 hm4 hg4 hs4; have hch4 := hid (Chg.of_grown (S := (· = G.ba)) hg4 (fun k hk => (Option.some.inj hk).symm)); have HR4 := hid (HR3.out.aset hch4.out hm4); have HE4 := hid (HE3.out.chg hch4.out (HE3.out.ne_map HM.out)); have HB4 := hid (HB3.out.trans (hch4.out.below (Nat.le_trans hBw HB3.out.size) (fun k hk => hk ▸ HR3.out.base.2.2.1))); clear hm4 hg4 hs4 hch4)
                  have hBb := hid (HR4.out.cl _ (List.mem_of_getElem? hi)).2.1
                  clear HR HE HBW HC HR3 HE3 HB3 HM m_added e_id
                  have e_id : w4.cell? ⟨be, 4, none⟩ = some (.int .u64 e.id) := HE4.out.cell 4 rfl
                  have e_gen : w4.cell? ⟨be, 5, none⟩ = some (.int .u64 e.gen) := HE4.out.cell 5 rfl
                  have e_dl : w4.cell? ⟨be, 6, none⟩ = some (.int .u64 e.dl) := HE4.out.cell 6 rfl
                  have e_per : w4.cell? ⟨be, 7, none⟩ = some (.int .u64 e.per) := HE4.out.cell 7 rfl
                  have m_live : w4.cell? ⟨bm, 8, none⟩ = some (.map (some G.bl)) := HR4.out.mach.cell 8 rfl
                  have HX := hid ((HR4.out.alloc (.cells (tmC ⟨e.gen, e.dl, e.per, false, false, false⟩).toArray 151)).drew)
                  obtain ⟨w5, hr5, hm5, hg5, hs5⟩ := HX.out.live.run_update (keyLaw_int Try.underlying29) Try.underlying97 e.id (w4.heap.size, (⟨e.gen, e.dl, e.per, false, false, false⟩ : Tm))
                  replace hr5 : (Instr.mapUpdate 97 (.map (some G.bl)) (.int .u64 e.id) (ptrV w4.heap.size)).run Try.prog (w4.alloc (.cells #[.int .u64 e.gen, .int .u64 e.dl, .int .u64 e.per, .bool false, .bool false, .bool false] 151)).drew = .ok () w5 := hr5
                  have hch5 := hid (Chg.of_grown (S := (· = G.bl)) hg5 (fun k hk => (Option.some.inj hk).symm))
                  have HM5 := hid hm5
                  clear hm5 hg5 hs5
                  have hw4 := hid (Nat.le_trans hBw HB4.out.size)
                  have hblk := hid (show Blk (w4.alloc (.cells (tmC ⟨e.gen, e.dl, e.per, false, false, false⟩).toArray 151)).drew w4.heap.size 151 (tmC ⟨e.gen, e.dl, e.per, false, false, false⟩) from Blk.new w4 _ _)
                  have HR5 := hid (HX.out.lput (t := ⟨e.gen, e.dl, e.per, false, false, false⟩) (fun p hp h => absurd (h ▸ (HR4.out.tm p hp).1.lt) (Nat.lt_irrefl _)) hblk.out hw4.out ⟨he.gen, he.dl, he.per⟩ hch5.out HM5.out)
                  have HE5 := hid (((HE4.out.alloc (.cells (tmC ⟨e.gen, e.dl, e.per, false, false, false⟩).toArray 151)).drew).chg hch5.out (((HE4.out.alloc (.cells (tmC ⟨e.gen, e.dl, e.per, false, false, false⟩).toArray 151)).drew).ne_map HX.out.live))
                  have HB := hid (show Below B w w5 from ((HB4.out.alloc hw4.out _).drew).trans (hch5.out.below (Nat.le_trans hw4.out (by simp)) (fun k hk => hk ▸ HR4.out.base.2.2.2)))
                  have e_id5 : w5.cell? ⟨be, 4, none⟩ = some (.int .u64 e.id) := HE5.out.cell 4 rfl
                  have e_gen5 : w5.cell? ⟨be, 5, none⟩ = some (.int .u64 e.gen) := HE5.out.cell 5 rfl
                  have e_dl5 : w5.cell? ⟨be, 6, none⟩ = some (.int .u64 e.dl) := HE5.out.cell 6 rfl
                  have e_per5 : w5.cell? ⟨be, 7, none⟩ = some (.int .u64 e.per) := HE5.out.cell 7 rfl
                  have m_live5 : w5.cell? ⟨bm, 8, none⟩ = some (.map (some G.bl)) := HR5.out.mach.cell 8 rfl
                  clear hch5 HM5 hblk HX HR4 HB4 HE4 HE5
                  go_region_held3 (fun W => W.cell? ⟨be, 4, none⟩ = some (.int .u64 e.id) ∧ W.cell? ⟨be, 5, none⟩ = some (.int .u64 e.gen) ∧ W.cell? ⟨be, 6, none⟩ = some (.int .u64 e.dl) ∧ W.cell? ⟨be, 7, none⟩ = some (.int .u64 e.per) ∧ W.cell? ⟨bm, 8, none⟩ = some (.map (some G.bl))) (go_keep) (fail)
                  all_goals go_wp2_with (go_at_call 105; refine (finish_any B _ (G := { G with added := aput G.added e.id true, lv := aput G.lv e.id (w4.heap.size, ⟨e.gen, e.dl, e.per, false, false, false⟩) }) HR5.out hi hc (e.id) (e.gen) (0)).mono ?_; rintro x w6 ⟨rfl, hr5, hc5⟩; have HR6 := hid hr5; have HB5 := hid (HB.out.trans (hc5.below (Nat.le_trans hBw HB.out.size) (fun k hk => hk ▸ hBb.out))); clear hr5 hc5)
                  all_goals go_ret
                  all_goals exact Ends.yes rfl HB5.out (by rw [HP.out w4.heap.size, ← fin_ma (G := { G with added := aput G.added e.id true, lv := aput G.lv e.id (w4.heap.size, ⟨e.gen, e.dl, e.per, false, false, false⟩) }) hi]) HR6.out
                · have hpe' : (e.per != c.bg.per) = true := by simp [hpe]
                  have HP := hid (show addM G.ma i c e = none by unfold addM; simp [RAW.out.1, RAW.out.2.1, ma_ended, ma_added, lv_len, ma_room, RAW2.out, hp, hd, hpe])
                  clear hd hpe
                  go_wp2_with (first | (go_at_call 102; have HEp := hid HE.out; refine (what_any (c := c) [2] _ _ (Reads.built_at _ [.int .i64 2] 3 1 _ (by first | omega | simp)) (by simp) (hc ▸ (HR.out.alloc _).mach.cell 9 rfl) ((HC.out.alloc _).cell 3 rfl)).mono ?_; rintro x w' ⟨hx, rfl⟩; rw [HW2.out] at hx; subst hx; generalize hW2 : World.alloc _ _ = W4; replace HR := hid (show Rep B W4 bm G from hW2 ▸ HR.out.alloc _); replace HE := hid (show Blk W4 be 31 (evC e) from hW2 ▸ HE.out.alloc _); replace HBW := hid (show Below be w W4 from hW2 ▸ (HBW.out.alloc (Nat.le_of_lt HEp.out.lt) _)); replace HC := hid (show Blk W4 b 126 (clC c) from hW2 ▸ HC.out.alloc _); clear hW2; clear HEp; have m_c : W4.cell? ⟨bm, 9, none⟩ = some (ptrV b) := hc ▸ HR.out.mach.cell 9 rfl; have e_dl : W4.cell? ⟨be, 6, none⟩ = some (.int .u64 e.dl) := HE.out.cell 6 rfl; have e_per : W4.cell? ⟨be, 7, none⟩ = some (.int .u64 e.per) := HE.out.cell 7 rfl; have c_dl : W4.cell? ⟨b, 6, none⟩ = some (.int .u64 c.bg.dl) := HC.out.cell 6 rfl; have c_per : W4.cell? ⟨b, 7, none⟩ = some (.int .u64 c.bg.per) := HC.out.cell 7 rfl) | (go_at_call 104; refine (period_any (c := c) _ (HR.out.cl _ (List.mem_of_getElem? hi)).2.2.bg (hc ▸ HR.out.mach.cell 9 rfl) (HC.out.cell 6 rfl) (HC.out.cell 7 rfl)).mono ?_; rintro x w' ⟨hx, n, rfl⟩; rw [HPer.out] at hx; subst hx; generalize hW2 : World.drewN _ _ = W4; replace HR := hid (show Rep B W4 bm G from hW2 ▸ HR.out.drewN _); replace HE := hid (show Blk W4 be 31 (evC e) from hW2 ▸ HE.out); replace HBW := hid (show Below be w W4 from hW2 ▸ below_drewN HBW.out _); replace HC := hid (show Blk W4 b 126 (clC c) from hW2 ▸ HC.out); clear hW2; have m_c : W4.cell? ⟨bm, 9, none⟩ = some (ptrV b) := hc ▸ HR.out.mach.cell 9 rfl; have e_dl : W4.cell? ⟨be, 6, none⟩ = some (.int .u64 e.dl) := HE.out.cell 6 rfl; have e_per : W4.cell? ⟨be, 7, none⟩ = some (.int .u64 e.per) := HE.out.cell 7 rfl; have c_dl : W4.cell? ⟨b, 6, none⟩ = some (.int .u64 c.bg.dl) := HC.out.cell 6 rfl; have c_per : W4.cell? ⟨b, 7, none⟩ = some (.int .u64 c.bg.per) := HC.out.cell 7 rfl))
                  go_quiet (fail)
                  go_wp2
                  go_ret
                  exact Ends.no rfl (below_drewN (HBW.out.mono hB) _) HP.out
              · have hd' : (e.dl != c.bg.dl) = true := by simp [hd]
                have HP := hid (show addM G.ma i c e = none by unfold addM; simp [RAW.out.1, RAW.out.2.1, ma_ended, ma_added, lv_len, ma_room, RAW2.out, hp, hd])
                clear hd
                go_wp2_with (first | (go_at_call 102; have HEp := hid HE.out; refine (what_any (c := c) [2] _ _ (Reads.built_at _ [.int .i64 2] 3 1 _ (by first | omega | simp)) (by simp) (hc ▸ (HR.out.alloc _).mach.cell 9 rfl) ((HC.out.alloc _).cell 3 rfl)).mono ?_; rintro x w' ⟨hx, rfl⟩; rw [HW2.out] at hx; subst hx; generalize hW2 : World.alloc _ _ = W4; replace HR := hid (show Rep B W4 bm G from hW2 ▸ HR.out.alloc _); replace HE := hid (show Blk W4 be 31 (evC e) from hW2 ▸ HE.out.alloc _); replace HBW := hid (show Below be w W4 from hW2 ▸ (HBW.out.alloc (Nat.le_of_lt HEp.out.lt) _)); replace HC := hid (show Blk W4 b 126 (clC c) from hW2 ▸ HC.out.alloc _); clear hW2; clear HEp; have m_c : W4.cell? ⟨bm, 9, none⟩ = some (ptrV b) := hc ▸ HR.out.mach.cell 9 rfl; have e_dl : W4.cell? ⟨be, 6, none⟩ = some (.int .u64 e.dl) := HE.out.cell 6 rfl; have e_per : W4.cell? ⟨be, 7, none⟩ = some (.int .u64 e.per) := HE.out.cell 7 rfl; have c_dl : W4.cell? ⟨b, 6, none⟩ = some (.int .u64 c.bg.dl) := HC.out.cell 6 rfl; have c_per : W4.cell? ⟨b, 7, none⟩ = some (.int .u64 c.bg.per) := HC.out.cell 7 rfl) | (go_at_call 104; refine (period_any (c := c) _ (HR.out.cl _ (List.mem_of_getElem? hi)).2.2.bg (hc ▸ HR.out.mach.cell 9 rfl) (HC.out.cell 6 rfl) (HC.out.cell 7 rfl)).mono ?_; rintro x w' ⟨hx, n, rfl⟩; rw [HPer.out] at hx; subst hx; generalize hW2 : World.drewN _ _ = W4; replace HR := hid (show Rep B W4 bm G from hW2 ▸ HR.out.drewN _); replace HE := hid (show Blk W4 be 31 (evC e) from hW2 ▸ HE.out); replace HBW := hid (show Below be w W4 from hW2 ▸ below_drewN HBW.out _); replace HC := hid (show Blk W4 b 126 (clC c) from hW2 ▸ HC.out); clear hW2; have m_c : W4.cell? ⟨bm, 9, none⟩ = some (ptrV b) := hc ▸ HR.out.mach.cell 9 rfl; have e_dl : W4.cell? ⟨be, 6, none⟩ = some (.int .u64 e.dl) := HE.out.cell 6 rfl; have e_per : W4.cell? ⟨be, 7, none⟩ = some (.int .u64 e.per) := HE.out.cell 7 rfl; have c_dl : W4.cell? ⟨b, 6, none⟩ = some (.int .u64 c.bg.dl) := HC.out.cell 6 rfl; have c_per : W4.cell? ⟨b, 7, none⟩ = some (.int .u64 c.bg.per) := HC.out.cell 7 rfl))
                go_quiet (fail)
                go_wp2
                go_ret
                exact Ends.no rfl (below_drewN (HBW.out.mono hB) _) HP.out
          · have HW2 := hid (show decide (c.bg.what ∈ [2]) = false by simp [h2])
            have h3 : c.bg.what = 1 := RAW.out.2.2.2.resolve_right h2
            have RAW2 := hid h3
            clear h2 h3
            by_cases hd : e.dl = c.bg.dl
            · have hd' : (e.dl != c.bg.dl) = false := by simp [hd]
              by_cases hpe : e.per = 0
              · have hpe' : (e.per != 0) = false := by simp [hpe]
                have HP := hid (show ∀ nb, addM G.ma i c e = some (fin ({ G with added := aput G.added e.id true, lv := aput G.lv e.id (nb, ⟨e.gen, e.dl, e.per, false, false, false⟩) } : Gm).ma i e.id e.gen 0) by intro nb; rw [add_ma]; unfold addM; simp [RAW.out.1, RAW.out.2.1, RAW.out.2.2.1, ma_ended, ma_added, lv_len, ma_room, RAW2.out, hd, hpe])
                clear hd hpe
                go_wp2_with (first | (go_at_call 102; have HEp := hid HE.out; refine (what_any (c := c) [2] _ _ (Reads.built_at _ [.int .i64 2] 3 1 _ (by first | omega | simp)) (by simp) (hc ▸ (HR.out.alloc _).mach.cell 9 rfl) ((HC.out.alloc _).cell 3 rfl)).mono ?_; rintro x w' ⟨hx, rfl⟩; rw [HW2.out] at hx; subst hx; generalize hW2 : World.alloc _ _ = W4; replace HR := hid (show Rep B W4 bm G from hW2 ▸ HR.out.alloc _); replace HE := hid (show Blk W4 be 31 (evC e) from hW2 ▸ HE.out.alloc _); replace HBW := hid (show Below be w W4 from hW2 ▸ (HBW.out.alloc (Nat.le_of_lt HEp.out.lt) _)); replace HC := hid (show Blk W4 b 126 (clC c) from hW2 ▸ HC.out.alloc _); clear hW2; clear HEp; have m_c : W4.cell? ⟨bm, 9, none⟩ = some (ptrV b) := hc ▸ HR.out.mach.cell 9 rfl; have e_dl : W4.cell? ⟨be, 6, none⟩ = some (.int .u64 e.dl) := HE.out.cell 6 rfl; have e_per : W4.cell? ⟨be, 7, none⟩ = some (.int .u64 e.per) := HE.out.cell 7 rfl; have c_dl : W4.cell? ⟨b, 6, none⟩ = some (.int .u64 c.bg.dl) := HC.out.cell 6 rfl; have c_per : W4.cell? ⟨b, 7, none⟩ = some (.int .u64 c.bg.per) := HC.out.cell 7 rfl))
                go_quiet (fail)
                generalize hW1 : W4.drewN _ = W5
                replace HR := hid (show Rep B W5 bm G from hW1 ▸ HR.out.drewN _)
                replace HE := hid (show Blk W5 be 31 (evC e) from hW1 ▸ HE.out)
                replace HBW := hid (show Below be w W5 from hW1 ▸ below_drewN HBW.out _)
                replace HC := hid (show Blk W5 b 126 (clC c) from hW1 ▸ HC.out)
                clear hW1
                have m_added : W5.cell? ⟨bm, 7, none⟩ = some (.map (some G.ba)) := HR.out.mach.cell 7 rfl
                have e_id : W5.cell? ⟨be, 4, none⟩ = some (.int .u64 e.id) := HE.out.cell 4 rfl
                go_wp2
                go_still_tail 6, (by kernel_rfl)
                refine (show wpList _ _ _ _ _ W5.drew from ?_)
                generalize hW3 : W5.drew = WD
                have HR3 := hid (show Rep B WD bm G from hW3 ▸ HR.out.drew)
                have HM := hid HR3.out.added
                have HB3 := hid (show Below B w WD from hW3 ▸ (HBW.out.mono hB).drew)
                have HE3 := hid (show Blk WD be 31 (evC e) from hW3 ▸ HE.out.drew)
                clear hW3
                go_wp2_with (refine wpList_update _ rfl 100 _ _ _ rfl (keyLaw_int Try.underlying29) Try.underlying100 G.ba G.added HM.out rfl e.id rfl true rfl ?_; intro w4 hm4 hg4 hs4; have hch4 := hid (Chg.of_grown (S := (· = G.ba)) hg4 (fun k hk => (Option.some.inj hk).symm)); have HR4 := hid (HR3.out.aset hch4.out hm4); have HE4 := hid (HE3.out.chg hch4.out (HE3.out.ne_map HM.out)); have HB4 := hid (HB3.out.trans (hch4.out.below (Nat.le_trans hBw HB3.out.size) (fun k hk => hk ▸ HR3.out.base.2.2.1))); clear hm4 hg4 hs4 hch4)
                have hBb := hid (HR4.out.cl _ (List.mem_of_getElem? hi)).2.1
                clear HR HE HBW HC HR3 HE3 HB3 HM m_added e_id
                have e_id : w4.cell? ⟨be, 4, none⟩ = some (.int .u64 e.id) := HE4.out.cell 4 rfl
                have e_gen : w4.cell? ⟨be, 5, none⟩ = some (.int .u64 e.gen) := HE4.out.cell 5 rfl
                have e_dl : w4.cell? ⟨be, 6, none⟩ = some (.int .u64 e.dl) := HE4.out.cell 6 rfl
                have e_per : w4.cell? ⟨be, 7, none⟩ = some (.int .u64 e.per) := HE4.out.cell 7 rfl
                have m_live : w4.cell? ⟨bm, 8, none⟩ = some (.map (some G.bl)) := HR4.out.mach.cell 8 rfl
                have HX := hid ((HR4.out.alloc (.cells (tmC ⟨e.gen, e.dl, e.per, false, false, false⟩).toArray 151)).drew)
                obtain ⟨w5, hr5, hm5, hg5, hs5⟩ := HX.out.live.run_update (keyLaw_int Try.underlying29) Try.underlying97 e.id (w4.heap.size, (⟨e.gen, e.dl, e.per, false, false, false⟩ : Tm))
                replace hr5 : (Instr.mapUpdate 97 (.map (some G.bl)) (.int .u64 e.id) (ptrV w4.heap.size)).run Try.prog (w4.alloc (.cells #[.int .u64 e.gen, .int .u64 e.dl, .int .u64 e.per, .bool false, .bool false, .bool false] 151)).drew = .ok () w5 := hr5
                have hch5 := hid (Chg.of_grown (S := (· = G.bl)) hg5 (fun k hk => (Option.some.inj hk).symm))
                have HM5 := hid hm5
                clear hm5 hg5 hs5
                have hw4 := hid (Nat.le_trans hBw HB4.out.size)
                have hblk := hid (show Blk (w4.alloc (.cells (tmC ⟨e.gen, e.dl, e.per, false, false, false⟩).toArray 151)).drew w4.heap.size 151 (tmC ⟨e.gen, e.dl, e.per, false, false, false⟩) from Blk.new w4 _ _)
                have HR5 := hid (HX.out.lput (t := ⟨e.gen, e.dl, e.per, false, false, false⟩) (fun p hp h => absurd (h ▸ (HR4.out.tm p hp).1.lt) (Nat.lt_irrefl _)) hblk.out hw4.out ⟨he.gen, he.dl, he.per⟩ hch5.out HM5.out)
                have HE5 := hid (((HE4.out.alloc (.cells (tmC ⟨e.gen, e.dl, e.per, false, false, false⟩).toArray 151)).drew).chg hch5.out (((HE4.out.alloc (.cells (tmC ⟨e.gen, e.dl, e.per, false, false, false⟩).toArray 151)).drew).ne_map HX.out.live))
                have HB := hid (show Below B w w5 from ((HB4.out.alloc hw4.out _).drew).trans (hch5.out.below (Nat.le_trans hw4.out (by simp)) (fun k hk => hk ▸ HR4.out.base.2.2.2)))
                have e_id5 : w5.cell? ⟨be, 4, none⟩ = some (.int .u64 e.id) := HE5.out.cell 4 rfl
                have e_gen5 : w5.cell? ⟨be, 5, none⟩ = some (.int .u64 e.gen) := HE5.out.cell 5 rfl
                have e_dl5 : w5.cell? ⟨be, 6, none⟩ = some (.int .u64 e.dl) := HE5.out.cell 6 rfl
                have e_per5 : w5.cell? ⟨be, 7, none⟩ = some (.int .u64 e.per) := HE5.out.cell 7 rfl
                have m_live5 : w5.cell? ⟨bm, 8, none⟩ = some (.map (some G.bl)) := HR5.out.mach.cell 8 rfl
                clear hch5 HM5 hblk HX HR4 HB4 HE4 HE5
                go_region_held3 (fun W => W.cell? ⟨be, 4, none⟩ = some (.int .u64 e.id) ∧ W.cell? ⟨be, 5, none⟩ = some (.int .u64 e.gen) ∧ W.cell? ⟨be, 6, none⟩ = some (.int .u64 e.dl) ∧ W.cell? ⟨be, 7, none⟩ = some (.int .u64 e.per) ∧ W.cell? ⟨bm, 8, none⟩ = some (.map (some G.bl))) (go_keep) (fail)
                all_goals go_wp2_with (go_at_call 105; refine (finish_any B _ (G := { G with added := aput G.added e.id true, lv := aput G.lv e.id (w4.heap.size, ⟨e.gen, e.dl, e.per, false, false, false⟩) }) HR5.out hi hc (e.id) (e.gen) (0)).mono ?_; rintro x w6 ⟨rfl, hr5, hc5⟩; have HR6 := hid hr5; have HB5 := hid (HB.out.trans (hc5.below (Nat.le_trans hBw HB.out.size) (fun k hk => hk ▸ hBb.out))); clear hr5 hc5)
                all_goals go_ret
                all_goals exact Ends.yes rfl HB5.out (by rw [HP.out w4.heap.size, ← fin_ma (G := { G with added := aput G.added e.id true, lv := aput G.lv e.id (w4.heap.size, ⟨e.gen, e.dl, e.per, false, false, false⟩) }) hi]) HR6.out
              · have hpe' : (e.per != 0) = true := by simp [hpe]
                have HP := hid (show addM G.ma i c e = none by unfold addM; simp [RAW.out.1, RAW.out.2.1, ma_ended, ma_added, lv_len, ma_room, RAW2.out, hd, hpe])
                clear hd hpe
                go_wp2_with (first | (go_at_call 102; have HEp := hid HE.out; refine (what_any (c := c) [2] _ _ (Reads.built_at _ [.int .i64 2] 3 1 _ (by first | omega | simp)) (by simp) (hc ▸ (HR.out.alloc _).mach.cell 9 rfl) ((HC.out.alloc _).cell 3 rfl)).mono ?_; rintro x w' ⟨hx, rfl⟩; rw [HW2.out] at hx; subst hx; generalize hW2 : World.alloc _ _ = W4; replace HR := hid (show Rep B W4 bm G from hW2 ▸ HR.out.alloc _); replace HE := hid (show Blk W4 be 31 (evC e) from hW2 ▸ HE.out.alloc _); replace HBW := hid (show Below be w W4 from hW2 ▸ (HBW.out.alloc (Nat.le_of_lt HEp.out.lt) _)); replace HC := hid (show Blk W4 b 126 (clC c) from hW2 ▸ HC.out.alloc _); clear hW2; clear HEp; have m_c : W4.cell? ⟨bm, 9, none⟩ = some (ptrV b) := hc ▸ HR.out.mach.cell 9 rfl; have e_dl : W4.cell? ⟨be, 6, none⟩ = some (.int .u64 e.dl) := HE.out.cell 6 rfl; have e_per : W4.cell? ⟨be, 7, none⟩ = some (.int .u64 e.per) := HE.out.cell 7 rfl; have c_dl : W4.cell? ⟨b, 6, none⟩ = some (.int .u64 c.bg.dl) := HC.out.cell 6 rfl; have c_per : W4.cell? ⟨b, 7, none⟩ = some (.int .u64 c.bg.per) := HC.out.cell 7 rfl))
                go_quiet (fail)
                go_wp2
                go_ret
                exact Ends.no rfl (below_drewN (HBW.out.mono hB) _) HP.out
            · have hd' : (e.dl != c.bg.dl) = true := by simp [hd]
              have HP := hid (show addM G.ma i c e = none by unfold addM; simp [RAW.out.1, RAW.out.2.1, ma_ended, ma_added, lv_len, ma_room, RAW2.out, hd])
              clear hd
              go_wp2_with (first | (go_at_call 102; have HEp := hid HE.out; refine (what_any (c := c) [2] _ _ (Reads.built_at _ [.int .i64 2] 3 1 _ (by first | omega | simp)) (by simp) (hc ▸ (HR.out.alloc _).mach.cell 9 rfl) ((HC.out.alloc _).cell 3 rfl)).mono ?_; rintro x w' ⟨hx, rfl⟩; rw [HW2.out] at hx; subst hx; generalize hW2 : World.alloc _ _ = W4; replace HR := hid (show Rep B W4 bm G from hW2 ▸ HR.out.alloc _); replace HE := hid (show Blk W4 be 31 (evC e) from hW2 ▸ HE.out.alloc _); replace HBW := hid (show Below be w W4 from hW2 ▸ (HBW.out.alloc (Nat.le_of_lt HEp.out.lt) _)); replace HC := hid (show Blk W4 b 126 (clC c) from hW2 ▸ HC.out.alloc _); clear hW2; clear HEp; have m_c : W4.cell? ⟨bm, 9, none⟩ = some (ptrV b) := hc ▸ HR.out.mach.cell 9 rfl; have e_dl : W4.cell? ⟨be, 6, none⟩ = some (.int .u64 e.dl) := HE.out.cell 6 rfl; have e_per : W4.cell? ⟨be, 7, none⟩ = some (.int .u64 e.per) := HE.out.cell 7 rfl; have c_dl : W4.cell? ⟨b, 6, none⟩ = some (.int .u64 c.bg.dl) := HC.out.cell 6 rfl; have c_per : W4.cell? ⟨b, 7, none⟩ = some (.int .u64 c.bg.per) := HC.out.cell 7 rfl))
              go_quiet (fail)
              go_wp2
              go_ret
              exact Ends.no rfl (below_drewN (HBW.out.mono hB) _) HP.out
        · have hr' : decide (G.room ≤ (G.lv.length : Int)) = true := decide_eq_true (by omega)
          have HP := hid (show addM G.ma i c e = none by unfold addM; rcases hw with h | h <;> simp [h, he1, ha, Int.not_lt.1 hr, ma_ended, ma_added, lv_len, ma_room])
          clear hw
          clear hr
          have HE0 := hid HE.out
          refine wp_region_any (by kernel_rfl) ?_
          show wpAny _ _ _ _ 32 _ _ W.drew
          refine wpAny_take (i := 0) (v := ptrV bm) rfl (by kernel_rfl) (by kernel_rfl) (by kernel_rfl) (fun _ _ _ h => h) (Or.inl ⟨by rfl, fun w => by go_simp⟩) ?_
          refine wpAny_step (k := 1) (by kernel_rfl) rfl (fun K hK => ?_)
          go_simp
          refine hK.out _ _ ?_
          clear hK K
          refine wpAny_step (k := 2) (by kernel_rfl) rfl (fun K hK => ?_)
          go_simp
          refine (what_any (c := c) [1, 2] _ _ (Reads.built_at _ [.int .i64 1, .int .i64 2] 3 2 _ (by simp)) (by simp) (hc ▸ (HR.out.drew.alloc _).mach.cell 9 rfl) ((HC.out.drew.alloc _).cell 3 rfl)).mono ?_
          rintro x w' ⟨hx, rfl⟩
          rw [HW.out] at hx
          subst hx
          refine hK.out _ _ ?_
          clear hK K
          refine wpAny_quiet_rest (k := 3) _ (by kernel_rfl) (by kernel_rfl) rfl (by kernel_rfl) ?_
          simp only [List.drop_succ_cons, List.drop_zero]
          generalize hW2 : W.drew.alloc _ = W2
          replace HR := hid (show Rep B W2 bm G from hW2 ▸ HR.out.drew.alloc _)
          replace HE := hid (show Blk W2 be 31 (evC e) from hW2 ▸ HE.out.drew.alloc _)
          replace HBW := hid (show Below be w W2 from hW2 ▸ (HBW.out.drew.alloc (Nat.le_trans (Nat.le_of_lt HE0.out.lt) (by simp)) _))
          replace HC := hid (show Blk W2 b 126 (clC c) from hW2 ▸ HC.out.drew.alloc _)
          clear hW2 HE0
          have m_ended : W2.cell? ⟨bm, 3, none⟩ = some (.bool G.ended) := HR.out.mach.cell 3 rfl
          have m_added : W2.cell? ⟨bm, 7, none⟩ = some (.map (some G.ba)) := HR.out.mach.cell 7 rfl
          have m_live : W2.cell? ⟨bm, 8, none⟩ = some (.map (some G.bl)) := HR.out.mach.cell 8 rfl
          have m_room : W2.cell? ⟨bm, 0, none⟩ = some (.int .i64 G.room) := HR.out.mach.cell 0 rfl
          have e_id : W2.cell? ⟨be, 4, none⟩ = some (.int .u64 e.id) := HE.out.cell 4 rfl
          have hl := fun n => (HR.out.drewN n).lookA e.id
          have hlen := fun n => (HR.out.drewN n).len
          rw [he1] at m_ended
          simp only [ha] at hl
          repeat (go_big_quiet_step (fail))
          refine wpQuiet_nil ?_
          intro _ hw'
          obtain ⟨nq, hw''⟩ := hw'
          subst hw''
          go_wp2
          go_ret
          exact Ends.no rfl (below_drewN (HBW.out.mono hB) _) HP.out
      · have HP := hid (show addM G.ma i c e = none by unfold addM; rcases hw with h | h <;> simp [h, he1, ha, ma_ended, ma_added, lv_len, ma_room])
        clear hw
        have HE0 := hid HE.out
        refine wp_region_any (by kernel_rfl) ?_
        show wpAny _ _ _ _ 32 _ _ W.drew
        refine wpAny_take (i := 0) (v := ptrV bm) rfl (by kernel_rfl) (by kernel_rfl) (by kernel_rfl) (fun _ _ _ h => h) (Or.inl ⟨by rfl, fun w => by go_simp⟩) ?_
        refine wpAny_step (k := 1) (by kernel_rfl) rfl (fun K hK => ?_)
        go_simp
        refine hK.out _ _ ?_
        clear hK K
        refine wpAny_step (k := 2) (by kernel_rfl) rfl (fun K hK => ?_)
        go_simp
        refine (what_any (c := c) [1, 2] _ _ (Reads.built_at _ [.int .i64 1, .int .i64 2] 3 2 _ (by simp)) (by simp) (hc ▸ (HR.out.drew.alloc _).mach.cell 9 rfl) ((HC.out.drew.alloc _).cell 3 rfl)).mono ?_
        rintro x w' ⟨hx, rfl⟩
        rw [HW.out] at hx
        subst hx
        refine hK.out _ _ ?_
        clear hK K
        refine wpAny_quiet_rest (k := 3) _ (by kernel_rfl) (by kernel_rfl) rfl (by kernel_rfl) ?_
        simp only [List.drop_succ_cons, List.drop_zero]
        generalize hW2 : W.drew.alloc _ = W2
        replace HR := hid (show Rep B W2 bm G from hW2 ▸ HR.out.drew.alloc _)
        replace HE := hid (show Blk W2 be 31 (evC e) from hW2 ▸ HE.out.drew.alloc _)
        replace HBW := hid (show Below be w W2 from hW2 ▸ (HBW.out.drew.alloc (Nat.le_trans (Nat.le_of_lt HE0.out.lt) (by simp)) _))
        replace HC := hid (show Blk W2 b 126 (clC c) from hW2 ▸ HC.out.drew.alloc _)
        clear hW2 HE0
        have m_ended : W2.cell? ⟨bm, 3, none⟩ = some (.bool G.ended) := HR.out.mach.cell 3 rfl
        have m_added : W2.cell? ⟨bm, 7, none⟩ = some (.map (some G.ba)) := HR.out.mach.cell 7 rfl
        have m_live : W2.cell? ⟨bm, 8, none⟩ = some (.map (some G.bl)) := HR.out.mach.cell 8 rfl
        have m_room : W2.cell? ⟨bm, 0, none⟩ = some (.int .i64 G.room) := HR.out.mach.cell 0 rfl
        have e_id : W2.cell? ⟨be, 4, none⟩ = some (.int .u64 e.id) := HE.out.cell 4 rfl
        have hl := fun n => (HR.out.drewN n).lookA e.id
        have hlen := fun n => (HR.out.drewN n).len
        rw [he1] at m_ended
        simp only [ha] at hl
        repeat (go_big_quiet_step (fail))
        refine wpQuiet_nil ?_
        intro _ hw'
        obtain ⟨nq, hw''⟩ := hw'
        subst hw''
        go_wp2
        go_ret
        exact Ends.no rfl (below_drewN (HBW.out.mono hB) _) HP.out
    · have HP := hid (show addM G.ma i c e = none by unfold addM; rcases hw with h | h <;> simp [h, he1, ma_ended, ma_added, lv_len, ma_room])
      clear hw
      have HE0 := hid HE.out
      refine wp_region_any (by kernel_rfl) ?_
      show wpAny _ _ _ _ 32 _ _ W.drew
      refine wpAny_take (i := 0) (v := ptrV bm) rfl (by kernel_rfl) (by kernel_rfl) (by kernel_rfl) (fun _ _ _ h => h) (Or.inl ⟨by rfl, fun w => by go_simp⟩) ?_
      refine wpAny_step (k := 1) (by kernel_rfl) rfl (fun K hK => ?_)
      go_simp
      refine hK.out _ _ ?_
      clear hK K
      refine wpAny_step (k := 2) (by kernel_rfl) rfl (fun K hK => ?_)
      go_simp
      refine (what_any (c := c) [1, 2] _ _ (Reads.built_at _ [.int .i64 1, .int .i64 2] 3 2 _ (by simp)) (by simp) (hc ▸ (HR.out.drew.alloc _).mach.cell 9 rfl) ((HC.out.drew.alloc _).cell 3 rfl)).mono ?_
      rintro x w' ⟨hx, rfl⟩
      rw [HW.out] at hx
      subst hx
      refine hK.out _ _ ?_
      clear hK K
      refine wpAny_quiet_rest (k := 3) _ (by kernel_rfl) (by kernel_rfl) rfl (by kernel_rfl) ?_
      simp only [List.drop_succ_cons, List.drop_zero]
      generalize hW2 : W.drew.alloc _ = W2
      replace HR := hid (show Rep B W2 bm G from hW2 ▸ HR.out.drew.alloc _)
      replace HE := hid (show Blk W2 be 31 (evC e) from hW2 ▸ HE.out.drew.alloc _)
      replace HBW := hid (show Below be w W2 from hW2 ▸ (HBW.out.drew.alloc (Nat.le_trans (Nat.le_of_lt HE0.out.lt) (by simp)) _))
      replace HC := hid (show Blk W2 b 126 (clC c) from hW2 ▸ HC.out.drew.alloc _)
      clear hW2 HE0
      have m_ended : W2.cell? ⟨bm, 3, none⟩ = some (.bool G.ended) := HR.out.mach.cell 3 rfl
      have m_added : W2.cell? ⟨bm, 7, none⟩ = some (.map (some G.ba)) := HR.out.mach.cell 7 rfl
      have m_live : W2.cell? ⟨bm, 8, none⟩ = some (.map (some G.bl)) := HR.out.mach.cell 8 rfl
      have m_room : W2.cell? ⟨bm, 0, none⟩ = some (.int .i64 G.room) := HR.out.mach.cell 0 rfl
      have e_id : W2.cell? ⟨be, 4, none⟩ = some (.int .u64 e.id) := HE.out.cell 4 rfl
      have hl := fun n => (HR.out.drewN n).lookA e.id
      have hlen := fun n => (HR.out.drewN n).len
      rw [he1] at m_ended
      repeat (go_big_quiet_step (fail))
      refine wpQuiet_nil ?_
      intro _ hw'
      obtain ⟨nq, hw''⟩ := hw'
      subst hw''
      go_wp2
      go_ret
      exact Ends.no rfl (below_drewN (HBW.out.mono hB) _) HP.out
  · have HW := hid (show decide (c.bg.what ∈ [1, 2]) = false by simp at hw ⊢; exact hw)
    have HP := hid (show addM G.ma i c e = none by unfold addM; simp only [not_or] at hw; simp [hw.1, hw.2])
    clear hw
    have HE0 := hid HE.out
    refine wp_region_any (by kernel_rfl) ?_
    show wpAny _ _ _ _ 32 _ _ W.drew
    refine wpAny_take (i := 0) (v := ptrV bm) rfl (by kernel_rfl) (by kernel_rfl) (by kernel_rfl) (fun _ _ _ h => h) (Or.inl ⟨by rfl, fun w => by go_simp⟩) ?_
    refine wpAny_step (k := 1) (by kernel_rfl) rfl (fun K hK => ?_)
    go_simp
    refine hK.out _ _ ?_
    clear hK K
    refine wpAny_step (k := 2) (by kernel_rfl) rfl (fun K hK => ?_)
    go_simp
    refine (what_any (c := c) [1, 2] _ _ (Reads.built_at _ [.int .i64 1, .int .i64 2] 3 2 _ (by simp)) (by simp) (hc ▸ (HR.out.drew.alloc _).mach.cell 9 rfl) ((HC.out.drew.alloc _).cell 3 rfl)).mono ?_
    rintro x w' ⟨hx, rfl⟩
    rw [HW.out] at hx
    subst hx
    refine hK.out _ _ ?_
    clear hK K
    refine wpAny_quiet_rest (k := 3) _ (by kernel_rfl) (by kernel_rfl) rfl (by kernel_rfl) ?_
    simp only [List.drop_succ_cons, List.drop_zero]
    generalize hW2 : W.drew.alloc _ = W2
    replace HR := hid (show Rep B W2 bm G from hW2 ▸ HR.out.drew.alloc _)
    replace HE := hid (show Blk W2 be 31 (evC e) from hW2 ▸ HE.out.drew.alloc _)
    replace HBW := hid (show Below be w W2 from hW2 ▸ (HBW.out.drew.alloc (Nat.le_trans (Nat.le_of_lt HE0.out.lt) (by simp)) _))
    replace HC := hid (show Blk W2 b 126 (clC c) from hW2 ▸ HC.out.drew.alloc _)
    clear hW2 HE0
    have m_ended : W2.cell? ⟨bm, 3, none⟩ = some (.bool G.ended) := HR.out.mach.cell 3 rfl
    have m_added : W2.cell? ⟨bm, 7, none⟩ = some (.map (some G.ba)) := HR.out.mach.cell 7 rfl
    have m_live : W2.cell? ⟨bm, 8, none⟩ = some (.map (some G.bl)) := HR.out.mach.cell 8 rfl
    have m_room : W2.cell? ⟨bm, 0, none⟩ = some (.int .i64 G.room) := HR.out.mach.cell 0 rfl
    have e_id : W2.cell? ⟨be, 4, none⟩ = some (.int .u64 e.id) := HE.out.cell 4 rfl
    have hl := fun n => (HR.out.drewN n).lookA e.id
    have hlen := fun n => (HR.out.drewN n).len
    repeat (go_big_quiet_step (fail))
    refine wpQuiet_nil ?_
    intro _ hw'
    obtain ⟨nq, hw''⟩ := hw'
    subst hw''
    go_wp2
    go_ret
    exact Ends.no rfl (below_drewN (HBW.out.mono hB) _) HP.out
end Go.Proofs.Ytpnkkdpggofanaa
