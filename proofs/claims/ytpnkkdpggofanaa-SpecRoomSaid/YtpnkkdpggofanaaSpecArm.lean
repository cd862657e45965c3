/- spec's rules by their walks: each does what the plain machine does. -/
import Derived.Test.YtpnkkdpggofanaaSpecC
namespace Go.Proofs.Ytpnkkdpggofanaa
open Go.RowKit

set_option maxRecDepth 4000 in
set_option maxHeartbeats 8000000 in
theorem arm_any (B : Nat) (w : World) {bm b i : Nat} {c : Cl} {G : Gm} (h : Rep B w bm G) (hB : B ≤ w.heap.size) (hi : G.cs[i]? = some (b, c)) (hc : G.cp = ptrV b) (e : Ev) (_he : e.wf) :
    Calls Try.prog 76 #[ptrV bm, evV e] w fun x w' => Ends B bm w (armM G.ma c e) x w' := by
  go_enter Try.func76, Try.ntmps76
  go_wp2
  generalize hW : w.alloc _ = W
  obtain ⟨hR, hE, hBW, hsz⟩ := h.boxed e hW
  clear hW h
  generalize hBE : w.heap.size = be at *
  have HR := hid hR
  have HE := hid hE
  have HBW := hid hBW
  have HC : Hid (Blk W b 126 (clC c)) := (HR.out.cl _ (List.mem_of_getElem? hi)).1
  clear hR hE hBW
  have hNow := hid HR.out.now
  cases hg : aget G.lv e.id with
  | none =>
    have hlp : liveP G e.id = .pointer none := by simp [liveP, hg]
    have HG := hid hg
    have m_live : W.cell? ⟨bm, 8, none⟩ = some (.map (some G.bl)) := HR.out.mach.cell 8 rfl
    have e_id : W.cell? ⟨be, 4, none⟩ = some (.int .u64 e.id) := HE.out.cell 4 rfl
    have hl := fun n => (HR.out.drewN n).look e.id
    rw [hlp] at hl
    clear hg hlp
    go_quiet (fail)
    clear m_live e_id hl
    generalize hW1 : W.drewN _ = W1
    replace HR := hid (show Rep B W1 bm G from hW1 ▸ HR.out.drewN _)
    replace HE := hid (show Blk W1 be 31 (evC e) from hW1 ▸ HE.out)
    replace HBW := hid (show Below be w W1 from hW1 ▸ below_drewN HBW.out _)
    replace HC := hid (show Blk W1 b 126 (clC c) from hW1 ▸ HC.out)
    clear hW1
    have HE0 := hid HE.out
    have HP := hid (show armM G.ma c e = none by unfold armM; rw [lv_none HG.out])
    by_cases hw : c.bg.what = 7
    · have HW := hid (show decide (c.bg.what ∈ [7]) = true by simp [hw])
      clear hw
      go_wp2_with (go_at_call 102; have HEp := hid HE.out; refine (what_any (c := c) [7] _ _ (Reads.built_at _ [.int .i64 7] 3 1 _ (by first | omega | simp)) (by simp) (hc ▸ (HR.out.alloc _).mach.cell 9 rfl) ((HC.out.alloc _).cell 3 rfl)).mono ?_; rintro x w' ⟨hx, rfl⟩; rw [HW.out] at hx; subst hx; generalize hW2 : World.alloc _ _ = W2; replace HR := hid (show Rep B W2 bm G from hW2 ▸ HR.out.alloc _); replace HE := hid (show Blk W2 be 31 (evC e) from hW2 ▸ HE.out.alloc _); replace HBW := hid (show Below be w W2 from hW2 ▸ (HBW.out.alloc (Nat.le_of_lt HEp.out.lt) _)); replace HC := hid (show Blk W2 b 126 (clC c) from hW2 ▸ HC.out.alloc _); clear hW2; clear HEp)
      go_ret
      exact Ends.no rfl (HBW.out.mono hB) HP.out
    · have HW := hid (show decide (c.bg.what ∈ [7]) = false by simp [hw])
      clear hw
      go_wp2_with (go_at_call 102; have HEp := hid HE.out; refine (what_any (c := c) [7] _ _ (Reads.built_at _ [.int .i64 7] 3 1 _ (by first | omega | simp)) (by simp) (hc ▸ (HR.out.alloc _).mach.cell 9 rfl) ((HC.out.alloc _).cell 3 rfl)).mono ?_; rintro x w' ⟨hx, rfl⟩; rw [HW.out] at hx; subst hx; generalize hW2 : World.alloc _ _ = W2; replace HR := hid (show Rep B W2 bm G from hW2 ▸ HR.out.alloc _); replace HE := hid (show Blk W2 be 31 (evC e) from hW2 ▸ HE.out.alloc _); replace HBW := hid (show Below be w W2 from hW2 ▸ (HBW.out.alloc (Nat.le_of_lt HEp.out.lt) _)); replace HC := hid (show Blk W2 b 126 (clC c) from hW2 ▸ HC.out.alloc _); clear hW2; clear HEp)
      go_ret
      exact Ends.no rfl (HBW.out.mono hB) HP.out
  | some p =>
    obtain ⟨bt, t⟩ := p
    have hlp : liveP G e.id = ptrV bt := by simp [liveP, hg]
    have HG := hid hg
    have m_live : W.cell? ⟨bm, 8, none⟩ = some (.map (some G.bl)) := HR.out.mach.cell 8 rfl
    have e_id : W.cell? ⟨be, 4, none⟩ = some (.int .u64 e.id) := HE.out.cell 4 rfl
    have hl := fun n => (HR.out.drewN n).look e.id
    rw [hlp] at hl
    clear hg hlp
    go_quiet (fail)
    clear m_live e_id hl
    generalize hW1 : W.drewN _ = W1
    replace HR := hid (show Rep B W1 bm G from hW1 ▸ HR.out.drewN _)
    replace HE := hid (show Blk W1 be 31 (evC e) from hW1 ▸ HE.out)
    replace HBW := hid (show Below be w W1 from hW1 ▸ below_drewN HBW.out _)
    replace HC := hid (show Blk W1 b 126 (clC c) from hW1 ▸ HC.out)
    clear hW1
    have HE0 := hid HE.out
    have HT : Hid (Blk W1 bt 151 (tmC t)) := (HR.out.tm _ ((aget_mem HR.out.live.nodup).1 HG.out)).1
    have he1 := hid (HR.out.tm _ ((aget_mem HR.out.live.nodup).1 HG.out)).2.2
    have hN := hid (lv_some HG.out)
    by_cases hw : c.bg.what = 7
    · have HW := hid (show decide (c.bg.what ∈ [7]) = true by simp [hw])
      have RAW := hid hw
      clear hw
      obtain ⟨mx, hmx⟩ : ∃ mx, Hid (max t.dl G.now = mx) := ⟨_, hid rfl⟩
      go_wp2_with (go_at_call 102; have HEp := hid HE.out; refine (what_any (c := c) [7] _ _ (Reads.built_at _ [.int .i64 7] 3 1 _ (by first | omega | simp)) (by simp) (hc ▸ (HR.out.alloc _).mach.cell 9 rfl) ((HC.out.alloc _).cell 3 rfl)).mono ?_; rintro x w' ⟨hx, rfl⟩; rw [HW.out] at hx; subst hx; generalize hW2 : World.alloc _ _ = W2; replace HR := hid (show Rep B W2 bm G from hW2 ▸ HR.out.alloc _); replace HE := hid (show Blk W2 be 31 (evC e) from hW2 ▸ HE.out.alloc _); replace HBW := hid (show Below be w W2 from hW2 ▸ (HBW.out.alloc (Nat.le_of_lt HEp.out.lt) _)); replace HC := hid (show Blk W2 b 126 (clC c) from hW2 ▸ HC.out.alloc _); clear hW2; clear HEp; replace HT : Hid (Blk W2 bt 151 (tmC t)) := (HR.out.tm _ ((aget_mem HR.out.live.nodup).1 HG.out)).1; have m_now : W2.cell? ⟨bm, 1, none⟩ = some (.int .u64 G.now) := HR.out.mach.cell 1 rfl; have t_g : W2.cell? ⟨bt, 0, none⟩ = some (.int .u64 t.gen) := HT.out.cell 0 rfl; have t_d : W2.cell? ⟨bt, 1, none⟩ = some (.int .u64 t.dl) := HT.out.cell 1 rfl; have hl : (if t.dl < G.now then G.now else t.dl) = mx := by rw [← hmx.out, Int.max_def]; split <;> split <;> omega)
      go_quiet (fail)
      clear hl m_now t_g t_d
      generalize hW1 : W2.drewN _ = W3
      replace HR := hid (show Rep B W3 bm G from hW1 ▸ HR.out.drewN _)
      replace HE := hid (show Blk W3 be 31 (evC e) from hW1 ▸ HE.out)
      replace HBW := hid (show Below be w W3 from hW1 ▸ below_drewN HBW.out _)
      replace HC := hid (show Blk W3 b 126 (clC c) from hW1 ▸ HC.out)
      clear hW1
      replace HT : Hid (Blk W3 bt 151 (tmC t)) := (HR.out.tm _ ((aget_mem HR.out.live.nodup).1 HG.out)).1
      have e_gen : W3.cell? ⟨be, 5, none⟩ = some (.int .u64 e.gen) := HE.out.cell 5 rfl
      have e_dl : W3.cell? ⟨be, 6, none⟩ = some (.int .u64 e.dl) := HE.out.cell 6 rfl
      have t_g : W3.cell? ⟨bt, 0, none⟩ = some (.int .u64 t.gen) := HT.out.cell 0 rfl
      have t_d : W3.cell? ⟨bt, 1, none⟩ = some (.int .u64 t.dl) := HT.out.cell 1 rfl
      have t_p : W3.cell? ⟨bt, 2, none⟩ = some (.int .u64 t.per) := HT.out.cell 2 rfl
      have t_a : W3.cell? ⟨bt, 4, none⟩ = some (.bool t.armed) := HT.out.cell 4 rfl
      have t_b : W3.cell? ⟨bt, 5, none⟩ = some (.bool t.btw) := HT.out.cell 5 rfl
      have hBw : B ≤ w.heap.size := Nat.le_trans hB (Nat.le_of_eq hBE.symm)
      cases hb : t.btw
      · rw [hb] at t_b
        cases ha : t.armed
        · by_cases hgn : e.gen = t.gen
          · have hgn' : (e.gen != t.gen) = false := by simp [hgn]
            by_cases hd : e.dl = mx
            · have hd' : (e.dl != mx) = false := by simp [hd]
              rw [ha] at t_a
              have f0 := HT.out.frozen 0
              have f1 := HT.out.frozen 1
              have f4 := HT.out.frozen 4
              have f5 := HT.out.frozen 5
              have HP := hid (show armM G.ma c e = some (setLive G.ma e.id { t with dl := mx, armed := true, btw := false }) by unfold armM; rw [hN.out]; simp [RAW.out, hb, ha, hgn, hd, hmx.out, Gm.ma])
              clear hgn hd
              go_wp2
              go_ret
              have hch := (((((Chg.refl (· = bt) W3).sets rfl 0 (.int .u64 (t.gen))).sets rfl 1 (.int .u64 (mx))).sets rfl 4 (.bool true)).sets rfl 5 (.bool false))
              exact Ends.yes (G' := { G with lv := aput G.lv e.id (bt, { t with dl := mx, armed := true, btw := false }) }) rfl (below_chg (HBW.out.mono hB) hBw hch (fun k hk => hk ▸ (HR.out.tm _ ((aget_mem HR.out.live.nodup).1 HG.out)).2.1)) (by rw [HP.out, setLive_ma]) (HR.out.tset HG.out hch (show Blk _ bt _ (tmC _) from ((((HT.out.set 0 (.int .u64 (t.gen))).set 1 (.int .u64 (mx))).set 4 (.bool true)).set 5 (.bool false))) ⟨he1.out.gen, hmx.out ▸ he1.out.dl.max hNow.out, he1.out.per⟩)
            · have hd' : (e.dl != mx) = true := by simp [hd]
              rw [ha] at t_a
              have HP := hid (show armM G.ma c e = none by unfold armM; rw [hN.out]; simp [RAW.out, hb, ha, hgn, hd, Gm.ma, hmx.out])
              clear hgn hd
              go_wp2
              go_ret
              exact Ends.no rfl (HBW.out.mono hB) HP.out
          · have hgn' : (e.gen != t.gen) = true := by simp [hgn]
            rw [ha] at t_a
            have HP := hid (show armM G.ma c e = none by unfold armM; rw [hN.out]; simp [RAW.out, hb, ha, hgn, Gm.ma, hmx.out])
            clear hgn
            go_wp2
            go_ret
            exact Ends.no rfl (HBW.out.mono hB) HP.out
        · rw [ha] at t_a
          have HP := hid (show armM G.ma c e = none by unfold armM; rw [hN.out]; simp [RAW.out, hb, ha, Gm.ma, hmx.out])
          go_wp2
          go_ret
          exact Ends.no rfl (HBW.out.mono hB) HP.out
      · rw [hb] at t_b
        by_cases hf1 : fitsB t.dl t.per = true
        · by_cases hf2 : fitsB t.gen 1 = true
          · by_cases hgn : e.gen = t.gen + 1
            · have hgn' : (e.gen != t.gen + 1) = false := by simp [hgn]
              by_cases hd : e.dl = t.dl + t.per
              · have hd' : (e.dl != t.dl + t.per) = false := by simp [hd]
                have HP := hid (show armM G.ma c e = some (setLive G.ma e.id { t with gen := t.gen + 1, dl := t.dl + t.per, armed := true, btw := false }) by unfold armM; rw [hN.out]; simp [RAW.out, hb, hf1, hf2, hgn, hd, Gm.ma])
                clear hgn hd
                go_wp2
                go_quiet ((go_at_call 42; exact quiet_of_eq (add_fits t.dl t.per _ he1.out.dl he1.out.per hf1)))
                clear t_g t_d t_p t_a t_b e_gen e_dl
                generalize hW1 : W3.drewN _ = W5
                replace HR := hid (show Rep B W5 bm G from hW1 ▸ HR.out.drewN _)
                replace HE := hid (show Blk W5 be 31 (evC e) from hW1 ▸ HE.out)
                replace HBW := hid (show Below be w W5 from hW1 ▸ below_drewN HBW.out _)
                replace HC := hid (show Blk W5 b 126 (clC c) from hW1 ▸ HC.out)
                clear hW1
                replace HT : Hid (Blk W5 bt 151 (tmC t)) := (HR.out.tm _ ((aget_mem HR.out.live.nodup).1 HG.out)).1
                have e_gen : W5.cell? ⟨be, 5, none⟩ = some (.int .u64 e.gen) := HE.out.cell 5 rfl
                have e_dl : W5.cell? ⟨be, 6, none⟩ = some (.int .u64 e.dl) := HE.out.cell 6 rfl
                have t_g : W5.cell? ⟨bt, 0, none⟩ = some (.int .u64 t.gen) := HT.out.cell 0 rfl
                have t_d : W5.cell? ⟨bt, 1, none⟩ = some (.int .u64 t.dl) := HT.out.cell 1 rfl
                have t_a : W5.cell? ⟨bt, 4, none⟩ = some (.bool t.armed) := HT.out.cell 4 rfl
                have t_b : W5.cell? ⟨bt, 5, none⟩ = some (.bool t.btw) := HT.out.cell 5 rfl
                rw [hb] at t_b
                have f0 := HT.out.frozen 0
                have f1 := HT.out.frozen 1
                have f4 := HT.out.frozen 4
                have f5 := HT.out.frozen 5
                go_wp2_with (go_at_call 42; refine (add_fits (t.gen) (1) _ he1.out.gen u64_one hf2).mono ?_; rintro x w' ⟨rfl, rfl⟩)
                go_ret
                have hch := (((((Chg.refl (· = bt) W5).sets rfl 0 (.int .u64 (t.gen + 1))).sets rfl 1 (.int .u64 (t.dl + t.per))).sets rfl 4 (.bool true)).sets rfl 5 (.bool false))
                exact Ends.yes (G' := { G with lv := aput G.lv e.id (bt, { t with gen := t.gen + 1, dl := t.dl + t.per, armed := true, btw := false }) }) rfl (below_chg (HBW.out.mono hB) hBw hch (fun k hk => hk ▸ (HR.out.tm _ ((aget_mem HR.out.live.nodup).1 HG.out)).2.1)) (by rw [HP.out, setLive_ma]) (HR.out.tset HG.out hch (show Blk _ bt _ (tmC _) from ((((HT.out.set 0 (.int .u64 (t.gen + 1))).set 1 (.int .u64 (t.dl + t.per))).set 4 (.bool true)).set 5 (.bool false))) ⟨he1.out.gen.add u64_one hf2, he1.out.dl.add he1.out.per hf1, he1.out.per⟩)
              · have hd' : (e.dl != t.dl + t.per) = true := by simp [hd]
                have HP := hid (show armM G.ma c e = none by unfold armM; rw [hN.out]; simp [RAW.out, hb, hf1, hf2, hgn, hd])
                clear hgn hd
                go_wp2
                go_quiet ((go_at_call 42; exact quiet_of_eq (add_fits t.dl t.per _ he1.out.dl he1.out.per hf1)))
                clear t_g t_d t_p t_a t_b e_gen e_dl
                generalize hW1 : W3.drewN _ = W5
                replace HR := hid (show Rep B W5 bm G from hW1 ▸ HR.out.drewN _)
                replace HE := hid (show Blk W5 be 31 (evC e) from hW1 ▸ HE.out)
                replace HBW := hid (show Below be w W5 from hW1 ▸ below_drewN HBW.out _)
                replace HC := hid (show Blk W5 b 126 (clC c) from hW1 ▸ HC.out)
                clear hW1
                replace HT : Hid (Blk W5 bt 151 (tmC t)) := (HR.out.tm _ ((aget_mem HR.out.live.nodup).1 HG.out)).1
                have e_gen : W5.cell? ⟨be, 5, none⟩ = some (.int .u64 e.gen) := HE.out.cell 5 rfl
                have e_dl : W5.cell? ⟨be, 6, none⟩ = some (.int .u64 e.dl) := HE.out.cell 6 rfl
                have t_g : W5.cell? ⟨bt, 0, none⟩ = some (.int .u64 t.gen) := HT.out.cell 0 rfl
                have t_d : W5.cell? ⟨bt, 1, none⟩ = some (.int .u64 t.dl) := HT.out.cell 1 rfl
                have t_a : W5.cell? ⟨bt, 4, none⟩ = some (.bool t.armed) := HT.out.cell 4 rfl
                have t_b : W5.cell? ⟨bt, 5, none⟩ = some (.bool t.btw) := HT.out.cell 5 rfl
                rw [hb] at t_b
                go_wp2_with (go_at_call 42; refine (add_fits (t.gen) (1) _ he1.out.gen u64_one hf2).mono ?_; rintro x w' ⟨rfl, rfl⟩)
                go_ret
                exact Ends.no rfl (HBW.out.mono hB) HP.out
            · have hgn' : (e.gen != t.gen + 1) = true := by simp [hgn]
              have HP := hid (show armM G.ma c e = none by unfold armM; rw [hN.out]; simp [RAW.out, hb, hf1, hf2, hgn])
              clear hgn
              go_wp2
              go_quiet ((go_at_call 42; exact quiet_of_eq (add_fits t.dl t.per _ he1.out.dl he1.out.per hf1)))
              clear t_g t_d t_p t_a t_b e_gen e_dl
              generalize hW1 : W3.drewN _ = W5
              replace HR := hid (show Rep B W5 bm G from hW1 ▸ HR.out.drewN _)
              replace HE := hid (show Blk W5 be 31 (evC e) from hW1 ▸ HE.out)
              replace HBW := hid (show Below be w W5 from hW1 ▸ below_drewN HBW.out _)
              replace HC := hid (show Blk W5 b 126 (clC c) from hW1 ▸ HC.out)
              clear hW1
              replace HT : Hid (Blk W5 bt 151 (tmC t)) := (HR.out.tm _ ((aget_mem HR.out.live.nodup).1 HG.out)).1
              have e_gen : W5.cell? ⟨be, 5, none⟩ = some (.int .u64 e.gen) := HE.out.cell 5 rfl
              have e_dl : W5.cell? ⟨be, 6, none⟩ = some (.int .u64 e.dl) := HE.out.cell 6 rfl
              have t_g : W5.cell? ⟨bt, 0, none⟩ = some (.int .u64 t.gen) := HT.out.cell 0 rfl
              have t_d : W5.cell? ⟨bt, 1, none⟩ = some (.int .u64 t.dl) := HT.out.cell 1 rfl
              have t_a : W5.cell? ⟨bt, 4, none⟩ = some (.bool t.armed) := HT.out.cell 4 rfl
              have t_b : W5.cell? ⟨bt, 5, none⟩ = some (.bool t.btw) := HT.out.cell 5 rfl
              rw [hb] at t_b
              go_wp2_with (go_at_call 42; refine (add_fits (t.gen) (1) _ he1.out.gen u64_one hf2).mono ?_; rintro x w' ⟨rfl, rfl⟩)
              go_ret
              exact Ends.no rfl (HBW.out.mono hB) HP.out
          · replace hf2 : fitsB t.gen 1 = false := by simpa using hf2
            have HP := hid (show armM G.ma c e = none by unfold armM; rw [hN.out]; simp [RAW.out, hb, hf2])
            go_wp2
            go_quiet ((go_at_call 42; exact quiet_of_eq (add_fits t.dl t.per _ he1.out.dl he1.out.per hf1)))
            clear t_g t_d t_p t_a t_b e_gen e_dl
            generalize hW1 : W3.drewN _ = W5
            replace HR := hid (show Rep B W5 bm G from hW1 ▸ HR.out.drewN _)
            replace HE := hid (show Blk W5 be 31 (evC e) from hW1 ▸ HE.out)
            replace HBW := hid (show Below be w W5 from hW1 ▸ below_drewN HBW.out _)
            replace HC := hid (show Blk W5 b 126 (clC c) from hW1 ▸ HC.out)
            clear hW1
            replace HT : Hid (Blk W5 bt 151 (tmC t)) := (HR.out.tm _ ((aget_mem HR.out.live.nodup).1 HG.out)).1
            have e_gen : W5.cell? ⟨be, 5, none⟩ = some (.int .u64 e.gen) := HE.out.cell 5 rfl
            have e_dl : W5.cell? ⟨be, 6, none⟩ = some (.int .u64 e.dl) := HE.out.cell 6 rfl
            have t_g : W5.cell? ⟨bt, 0, none⟩ = some (.int .u64 t.gen) := HT.out.cell 0 rfl
            have t_d : W5.cell? ⟨bt, 1, none⟩ = some (.int .u64 t.dl) := HT.out.cell 1 rfl
            have t_a : W5.cell? ⟨bt, 4, none⟩ = some (.bool t.armed) := HT.out.cell 4 rfl
            have t_b : W5.cell? ⟨bt, 5, none⟩ = some (.bool t.btw) := HT.out.cell 5 rfl
            rw [hb] at t_b
            go_wp2_with (go_at_call 42; refine (add_not (t.gen) (1) _ he1.out.gen u64_one hf2).mono ?_; rintro x w' ⟨rfl, rfl⟩)
            go_ret
            exact Ends.no rfl (HBW.out.mono hB) HP.out
        · replace hf1 : fitsB t.dl t.per = false := by simpa using hf1
          by_cases hf2 : fitsB t.gen 1 = true
          · have HP := hid (show armM G.ma c e = none by unfold armM; rw [hN.out]; simp [RAW.out, hb, hf1])
            go_wp2
            go_quiet ((go_at_call 42; exact quiet_of_eq (add_not t.dl t.per _ he1.out.dl he1.out.per hf1)))
            clear t_g t_d t_p t_a t_b e_gen e_dl
            generalize hW1 : W3.drewN _ = W5
            replace HR := hid (show Rep B W5 bm G from hW1 ▸ HR.out.drewN _)
            replace HE := hid (show Blk W5 be 31 (evC e) from hW1 ▸ HE.out)
            replace HBW := hid (show Below be w W5 from hW1 ▸ below_drewN HBW.out _)
            replace HC := hid (show Blk W5 b 126 (clC c) from hW1 ▸ HC.out)
            clear hW1
            replace HT : Hid (Blk W5 bt 151 (tmC t)) := (HR.out.tm _ ((aget_mem HR.out.live.nodup).1 HG.out)).1
            have e_gen : W5.cell? ⟨be, 5, none⟩ = some (.int .u64 e.gen) := HE.out.cell 5 rfl
            have e_dl : W5.cell? ⟨be, 6, none⟩ = some (.int .u64 e.dl) := HE.out.cell 6 rfl
            have t_g : W5.cell? ⟨bt, 0, none⟩ = some (.int .u64 t.gen) := HT.out.cell 0 rfl
            have t_d : W5.cell? ⟨bt, 1, none⟩ = some (.int .u64 t.dl) := HT.out.cell 1 rfl
            have t_a : W5.cell? ⟨bt, 4, none⟩ = some (.bool t.armed) := HT.out.cell 4 rfl
            have t_b : W5.cell? ⟨bt, 5, none⟩ = some (.bool t.btw) := HT.out.cell 5 rfl
            rw [hb] at t_b
            go_wp2_with (go_at_call 42; refine (add_fits (t.gen) (1) _ he1.out.gen u64_one hf2).mono ?_; rintro x w' ⟨rfl, rfl⟩)
            go_ret
            exact Ends.no rfl (HBW.out.mono hB) HP.out
          · replace hf2 : fitsB t.gen 1 = false := by simpa using hf2
            have HP := hid (show armM G.ma c e = none by unfold armM; rw [hN.out]; simp [RAW.out, hb, hf1])
            go_wp2
            go_quiet ((go_at_call 42; exact quiet_of_eq (add_not t.dl t.per _ he1.out.dl he1.out.per hf1)))
            clear t_g t_d t_p t_a t_b e_gen e_dl
            generalize hW1 : W3.drewN _ = W5
            replace HR := hid (show Rep B W5 bm G from hW1 ▸ HR.out.drewN _)
            replace HE := hid (show Blk W5 be 31 (evC e) from hW1 ▸ HE.out)
            replace HBW := hid (show Below be w W5 from hW1 ▸ below_drewN HBW.out _)
            replace HC := hid (show Blk W5 b 126 (clC c) from hW1 ▸ HC.out)
            clear hW1
            replace HT : Hid (Blk W5 bt 151 (tmC t)) := (HR.out.tm _ ((aget_mem HR.out.live.nodup).1 HG.out)).1
            have e_gen : W5.cell? ⟨be, 5, none⟩ = some (.int .u64 e.gen) := HE.out.cell 5 rfl
            have e_dl : W5.cell? ⟨be, 6, none⟩ = some (.int .u64 e.dl) := HE.out.cell 6 rfl
            have t_g : W5.cell? ⟨bt, 0, none⟩ = some (.int .u64 t.gen) := HT.out.cell 0 rfl
            have t_d : W5.cell? ⟨bt, 1, none⟩ = some (.int .u64 t.dl) := HT.out.cell 1 rfl
            have t_a : W5.cell? ⟨bt, 4, none⟩ = some (.bool t.armed) := HT.out.cell 4 rfl
            have t_b : W5.cell? ⟨bt, 5, none⟩ = some (.bool t.btw) := HT.out.cell 5 rfl
            rw [hb] at t_b
            go_wp2_with (go_at_call 42; refine (add_not (t.gen) (1) _ he1.out.gen u64_one hf2).mono ?_; rintro x w' ⟨rfl, rfl⟩)
            go_ret
            exact Ends.no rfl (HBW.out.mono hB) HP.out
    · have HW := hid (show decide (c.bg.what ∈ [7]) = false by simp [hw])
      have HP := hid (show armM G.ma c e = none by unfold armM; rw [hN.out]; simp [hw])
      clear hw
      go_wp2_with (go_at_call 102; have HEp := hid HE.out; refine (what_any (c := c) [7] _ _ (Reads.built_at _ [.int .i64 7] 3 1 _ (by first | omega | simp)) (by simp) (hc ▸ (HR.out.alloc _).mach.cell 9 rfl) ((HC.out.alloc _).cell 3 rfl)).mono ?_; rintro x w' ⟨hx, rfl⟩; rw [HW.out] at hx; subst hx; generalize hW2 : World.alloc _ _ = W2; replace HR := hid (show Rep B W2 bm G from hW2 ▸ HR.out.alloc _); replace HE := hid (show Blk W2 be 31 (evC e) from hW2 ▸ HE.out.alloc _); replace HBW := hid (show Below be w W2 from hW2 ▸ (HBW.out.alloc (Nat.le_of_lt HEp.out.lt) _)); replace HC := hid (show Blk W2 b 126 (clC c) from hW2 ▸ HC.out.alloc _); clear hW2; clear HEp)
      go_ret
      exact Ends.no rfl (HBW.out.mono hB) HP.out
end Go.Proofs.Ytpnkkdpggofanaa
