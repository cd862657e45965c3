/- The document's machine: begin by its walk. -/
import Derived.Test.YtpnkkdpggofanaaRmP
namespace Go.Proofs.Ytpnkkdpggofanaa
open Go.RowKit

set_option maxHeartbeats 4000000 in
set_option maxRecDepth 100000 in
theorem rbegin_any (B : Nat) (w : World) (bm : Nat) (R : Rm) (vc vt : Value) (h : RRep B w bm R vc vt) (hn : R.calls.length ≤ 1000000) (e : Ev) :
    Calls Try.prog 56 #[ptrV bm, evV e] w (StepEnds B w bm R (rbegin R e)) := by
  have HR0 := hid h
  clear h
  go_enter Try.func56, Try.ntmps56
  go_wp2
  refine named (w.alloc (.cells (evC e).toArray 31)) (fun W hW => ?_)
  obtain ⟨be, hbe⟩ : ∃ b, b = w.heap.size := ⟨_, rfl⟩
  have HE := hid (show Blk W be 31 (evC e) by rw [hW, hbe]; exact Blk.new _ _ _)
  have HBW := hid (show Below be w W by rw [hW, hbe]; exact (Below.refl _ _).alloc (Nat.le_refl _) _)
  have HR := hid (HR0.out.below (hbe ▸ HBW.out))
  have HBE := hid hbe
  rw [← hbe]
  clear hW hbe
  obtain ⟨ao, cap, hvc⟩ := owns_shape HR.out.calls
  subst hvc
  have m5 : W.cell? ⟨bm, 5, none⟩ = some (.slice ao R.calls.length cap) := HR.out.m.cell 5 rfl
  have e1 : W.cell? ⟨be, 1, none⟩ = some (.int .i64 e.thr) := HE.out.cell 1 rfl
  have e2 : W.cell? ⟨be, 2, none⟩ = some (.int .i64 e.call) := HE.out.cell 2 rfl
  have e3 : W.cell? ⟨be, 3, none⟩ = some (.int .i64 e.what) := HE.out.cell 3 rfl
  have hb1 : Int.bmod ((R.calls.length : Int) + 1) 18446744073709551616 = (R.calls.length : Int) + 1 := Int.bmod_eq_of_le (by omega) (by omega)
  have hBw : B ≤ w.heap.size := HR0.out.lt
  have HB := hid (HBW.out.mono (HBE.out ▸ hBw))
  clear hBw
  cases k1 : (e.call != (R.calls.length : Int) + 1) with
  | true =>
    have HV := hid (show rbegin R e = none by simp [rbegin, k1])
    go_quiet (fail)
    go_wp2
    go_ret
    rw [HV.out]
    exact rno (HR.out.below (below_drewN (Below.refl _ _) _)) (below_drewN HB.out _)
  | false =>
    cases k2 : decide (e.what < 1) with
    | true =>
      have HV := hid (show rbegin R e = none by simp [rbegin, k2])
      go_quiet (fail)
      go_wp2
      go_ret
      rw [HV.out]
      exact rno (HR.out.below (below_drewN (Below.refl _ _) _)) (below_drewN HB.out _)
    | false =>
      cases k3 : decide (e.what > 7) with
      | true =>
        have HV := hid (show rbegin R e = none by simp [rbegin, k3])
        go_quiet (fail)
        go_wp2
        go_ret
        rw [HV.out]
        exact rno (HR.out.below (below_drewN (Below.refl _ _) _)) (below_drewN HB.out _)
      | false =>
        have HV := hid (show rbegin R e = if rbusy R.calls e.thr then none else some { R with calls := R.calls ++ [⟨e, true, false, 0, 0, 0⟩] } by simp only [rbegin, k1, k2, k3, Bool.false_or])
        go_quiet (fail)
        go_wp2
        obtain ⟨W1, hW1⟩ : ∃ W1, W1 = W.drewN nq := ⟨_, rfl⟩
        have HI0 := hid (show RRep B W1 bm R (.slice ao R.calls.length cap) vt ∧ Blk W1 be 31 (evC e) ∧ Below B w W1 from hW1 ▸ ⟨HR.out.below (below_drewN (Below.refl _ _) _), HE.out.drewN _, below_drewN HB.out _⟩)
        rw [← hW1]
        clear hW1 m5 e1 e2 e3 HR HE HB HBW HR0 k1 k2 k3
        go_loopw [5] (fun i wr => ∃ k : Nat, k ≤ R.calls.length ∧ i = .int .i64 k ∧ Hid (∀ j (hj : j < R.calls.length), j < k → ¬ (R.calls[j].opn = true ∧ R.calls[j].bg.thr = e.thr)) ∧ Hid (RRep B wr bm R (.slice ao R.calls.length cap) vt ∧ Blk wr be 31 (evC e) ∧ Below B w wr)) (fun i _ => R.calls.length - (intOf i).toNat)
        case atStart => exact ⟨0, by omega, rfl, fun _ _ h => absurd h (by omega), HI0.out⟩
        case round =>
          obtain ⟨k, hk, rfl, HN, HI⟩ := hrel
          have m5 : wr.cell? ⟨bm, 5, none⟩ = some (.slice ao R.calls.length cap) := HI.out.1.m.cell 5 rfl
          have e1 : wr.cell? ⟨be, 1, none⟩ = some (.int .i64 e.thr) := HI.out.2.1.cell 1 rfl
          by_cases hlt : k < R.calls.length
          · obtain ⟨ao2, cap2, hv, hx⟩ := (Reads.of_owns HI.out.1.calls).enc (sz := 15) (fun _ => rfl) (by decide)
            simp only [Value.slice.injEq, true_and] at hv
            obtain ⟨rfl, rfl⟩ := hv
            obtain ⟨bc, oc, rfl, hc⟩ := hx k _ (List.getElem?_eq_getElem hlt)
            clear hx
            have q10 : wr.cell? ⟨bc, oc + k * 15 + 10, none⟩ = some (.bool R.calls[k].opn) := hc 10 _ rfl
            have q1 : wr.cell? ⟨bc, oc + k * 15 + 1, none⟩ = some (.int .i64 R.calls[k].bg.thr) := hc 1 _ rfl
            clear hc
            go_wp2
            cases ho : R.calls[k].opn with
            | false =>
              have HNo := hid (show ¬ (R.calls[k].opn = true ∧ R.calls[k].bg.thr = e.thr) by rw [ho]; simp)
              rw [ho] at q10
              clear ho
              go_quiet (fail)
              go_wp2
              go_roundw
              case rel => exact ⟨k + 1, by omega, by go_num, fun j hj hjk => by
                rcases Nat.lt_or_ge j k with h | h
                · exact HN.out j hj h
                · obtain rfl : j = k := by omega
                  exact HNo.out, ⟨HI.out.1.below (below_drewN (Below.refl _ _) _), HI.out.2.1.drewN _, below_drewN HI.out.2.2 _⟩⟩
              case measure => simp [intOf]; omega
            | true =>
              cases ht : (R.calls[k].bg.thr == e.thr) with
              | false =>
                have HNo := hid (show ¬ (R.calls[k].opn = true ∧ R.calls[k].bg.thr = e.thr) by rw [beq_eq_false_iff_ne] at ht; exact fun h => ht h.2)
                rw [ho] at q10
                clear ho
                go_quiet (fail)
                go_wp2
                go_roundw
                case rel => exact ⟨k + 1, by omega, by go_num, fun j hj hjk => by
                  rcases Nat.lt_or_ge j k with h | h
                  · exact HN.out j hj h
                  · obtain rfl : j = k := by omega
                    exact HNo.out, ⟨HI.out.1.below (below_drewN (Below.refl _ _) _), HI.out.2.1.drewN _, below_drewN HI.out.2.2 _⟩⟩
                case measure => simp [intOf]; omega
              | true =>
                have HV2 := hid (show rbegin R e = none by rw [HV.out, rbusy_upto hlt ho (by simpa using ht)]; rfl)
                rw [ho] at q10
                clear ho
                go_quiet (fail)
                go_wp2
                go_ret
                rw [HV2.out]
                exact rno (HI.out.1.below (below_drewN (Below.refl _ _) _)) (below_drewN HI.out.2.2 _)
          · obtain rfl : k = R.calls.length := by omega
            have HV2 := hid (show rbegin R e = some { R with calls := R.calls ++ [⟨e, true, false, 0, 0, 0⟩] } by rw [HV.out, rbusy_not (fun j hj => HN.out j hj hj)]; rfl)
            clear HV HN HI0
            go_wp2
            clear m5 e1
            obtain ⟨i0, hi, hz0, hz1, hz2⟩ := info_parts rm_call_info
            obtain ⟨Wx, hWx⟩ : ∃ Wx, Wx = (wr.alloc (.cells (clC' ⟨e, true, false, 0, 0, 0⟩).toArray 115)).drew := ⟨_, rfl⟩
            have hRx : RRep B Wx bm R (.slice ao R.calls.length cap) vt := hWx ▸ HI.out.1.below (((Below.refl _ wr).alloc (Nat.le_refl _) _).drew)
            have hEx : Blk Wx be 31 (evC e) := hWx ▸ (HI.out.2.1.alloc _).drew
            have hBx : Below B wr Wx := hWx ▸ ((Below.refl B wr).alloc HI.out.1.lt _).drew
            have hnew : ∀ j u, (clC' ⟨e, true, false, 0, 0, 0⟩)[j]? = some u → Wx.cell? ((⟨wr.heap.size, 0, none⟩ : Addr).add j) = some u := hWx ▸ cells_new wr (clC' ⟨e, true, false, 0, 0, 0⟩) 115
            obtain ⟨v5, w5, hr5, hown5, hg5, hv5, _⟩ := run_append_own_at (P := Try.prog) Wx B 88 88 115 i0 _ 15 112 Try.underlying88 hi hz0 hz1 hz2 rfl (by decide) _ _ _ hRx.calls ⟨wr.heap.size, 0, none⟩ 1 1 (clC' ⟨e, true, false, 0, 0, 0⟩) rfl hnew (by intro u hu; simp [clC'] at hu; rcases hu with rfl | rfl | rfl | rfl | rfl | rfl | rfl | rfl | rfl | rfl | rfl | rfl | rfl | rfl | rfl <;> rfl) (by unfold maxLen; omega) (by omega) hRx.lt
            obtain ⟨bo5, cap5, hsh⟩ := owns_shape hown5
            subst hsh
            have HC5 := hid (Chg.of_grown (S := fun k => (Value.slice ao R.calls.length cap).ownBlock = some k) hg5 (fun k hk => hk))
            have HX := hid (And.intro hRx (And.intro hEx hBx))
            have HW5 := hid hown5
            have hM5 := hid (hRx.m.chg HC5.out hRx.bm_calls)
            have c5 : w5.cell? ⟨bm, 5, none⟩ = some (.slice ao R.calls.length cap) := hM5.out.cell 5 rfl
            have f5 : w5.frozen? ⟨bm, 5, none⟩ = false := hM5.out.frozen 5
            have hgx := hid hv5
            clear hRx hEx hBx hnew hg5 hown5 hv5 hi hz0 hz1 hz2
            have HS0 := hid (show ∀ W', Chg (fun k => k = bm ∨ (Value.slice ao R.calls.length cap).ownBlock = some k) wr W' → Blk W' be 31 (evC e) from fun W' hc => HI.out.2.1.chg hc (by rintro (h | h); exact absurd h (HI.out.2.1.ne HI.out.1.m (by decide)); exact HI.out.2.1.ne_row HI.out.1.calls (by decide) h))
            have hS : Chg (fun k => k = bm ∨ (Value.slice ao R.calls.length cap).ownBlock = some k) wr wr.drew := (Chg.refl _ _).drew
            refine wp_region_held_drew (by kernel_rfl) hS (fun _ => ?_)
            simp only [List.size_toArray, List.length_cons, List.length_nil, Nat.reduceAdd, Array.replicate_succ, Array.replicate_zero, List.push_toArray, List.nil_append, List.cons_append]
            refine wpAnyH_take (i := 0) (v := ?_) rfl (by kernel_rfl) (by kernel_rfl) (by kernel_rfl) (fun _ _ _ h => h) (Or.inl ⟨by kernel_rfl, ?_⟩) hS ?_
            rotate_left
            · (intro W hW; go_simp; try with_reducible rfl)
            simp only [List.getElem_toArray, List.getElem_cons_zero, Act.put, List.setIfInBounds_toArray, List.set_cons_zero, List.set_cons_succ]
            refine wpAnyH_take (i := 1) (v := ?_) rfl (by kernel_rfl) (by kernel_rfl) (by kernel_rfl) (fun _ _ _ h => h) (Or.inl ⟨by kernel_rfl, ?_⟩) hS ?_
            rotate_left
            · (intro W hW; go_simp; try with_reducible rfl)
            simp only [List.getElem_toArray, List.getElem_cons_succ, List.getElem_cons_zero, Act.put, List.setIfInBounds_toArray, List.set_cons_zero, List.set_cons_succ]
            refine wpAnyH_take (i := 2) (v := ?_) rfl (by kernel_rfl) (by kernel_rfl) (by kernel_rfl) (fun _ _ _ h => h) (Or.inl ⟨by kernel_rfl, ?_⟩) hS ?_
            rotate_left
            · (intro W hW; go_simp; try with_reducible rfl)
            simp only [List.getElem_toArray, List.getElem_cons_succ, List.getElem_cons_zero, Act.put, List.setIfInBounds_toArray, List.set_cons_zero, List.set_cons_succ]
            refine wpAnyH_take (i := 3) (v := ?_) rfl (by kernel_rfl) (by kernel_rfl) (by kernel_rfl) (fun _ _ _ h => h) (Or.inl ⟨by kernel_rfl, ?_⟩) hS ?_
            rotate_left
            · (intro W hW; go_simp; try with_reducible rfl)
            simp only [List.getElem_toArray, List.getElem_cons_succ, List.getElem_cons_zero, Act.put, List.setIfInBounds_toArray, List.set_cons_zero, List.set_cons_succ]
            refine wpAnyH_take (i := 5) rfl (by kernel_rfl) (by kernel_rfl) (by kernel_rfl) (fun _ _ _ h => h) (yieldsIf_load_mid (by kernel_rfl) 31 _ rfl be 0 (by kernel_rfl) (evC e) _ (fun _ h => (HS0.out _ h).range) Try.underlying31 rfl (by kernel_rfl)) hS ?_
            simp only [List.getElem_toArray, List.getElem_cons_succ, List.getElem_cons_zero, Act.put, List.setIfInBounds_toArray, List.set_cons_zero, List.set_cons_succ]
            refine wpAnyH_take (i := 6) (v := clV ⟨e, true, false, 0, 0, 0⟩) rfl (by kernel_rfl) (by kernel_rfl) (by kernel_rfl) (fun _ _ _ h => h) (Or.inl ⟨by kernel_rfl, fun W hW => by simp only [evC]; go_simp⟩) hS ?_
            simp only [List.getElem_toArray, List.getElem_cons_succ, List.getElem_cons_zero, Act.put, List.setIfInBounds_toArray, List.set_cons_zero, List.set_cons_succ]
            subst hWx
            have md : wr.cell? ⟨bm, 5, none⟩ = some (.slice ao R.calls.length cap) := HI.out.1.m.cell 5 rfl
            have ma : ∀ o, (wr.alloc o).cell? ⟨bm, 5, none⟩ = some (.slice ao R.calls.length cap) := fun o => (HI.out.1.m.alloc o).cell 5 rfl
            have hSa : ∀ o, Chg (fun k => k = bm ∨ (Value.slice ao R.calls.length cap).ownBlock = some k) wr (wr.alloc o).drew := fun o => (Chg.alloc _ _ _).drew
            have hS5 : Chg (fun k => k = bm ∨ (Value.slice ao R.calls.length cap).ownBlock = some k) wr w5 := (hSa _).then HC5.out (fun _ _ h => .inr h)
            have hS6 : Chg (fun k => k = bm ∨ (Value.slice ao R.calls.length cap).ownBlock = some k) wr (w5.setCell ⟨bm, 5, none⟩ (.slice bo5 (R.calls.length + 1) cap5)) := hS5.then (S' := (· = bm)) (Chg.set (S := (· = bm)) w5 ⟨bm, 5, none⟩ (.slice bo5 (R.calls.length + 1) cap5) rfl) (fun _ _ h => .inl h)
            have HF := hid (show StepEnds B w bm R (rbegin R e) (.returned (.bool true)) (w5.setCell ⟨bm, 5, none⟩ (.slice bo5 (R.calls.length + 1) cap5)) from by
              rw [HV2.out]
              refine ⟨rfl, .slice bo5 (R.calls.length + 1) cap5, vt, ⟨HI.out.1.base, ?_, ?_, ?_⟩, ?_⟩
              · exact hM5.out.set 5 (.slice bo5 (R.calls.length + 1) cap5)
              · skip
                simpa using row_chg HW5.out (Chg.set (S := (· = bm)) w5 ⟨bm, 5, none⟩ (.slice bo5 (R.calls.length + 1) cap5) rfl) (fun g hg e => (hM5.out.ne_row HW5.out (by decide)) (e ▸ hg))
              · exact row_chg HI.out.1.tms hS6 (fun g hg h => by rcases h with h | h; exact HI.out.1.bm_tms (h ▸ hg); exact row_ne HI.out.1.tms HI.out.1.calls (by decide) hg h)
              · exact HI.out.2.2.trans (hS6.below HI.out.1.lt (fun k hk => by rcases hk with rfl | h; exact HI.out.1.base; exact (row_lt HI.out.1.calls h).1)))
            clear HC5 HX HW5 hM5 hgx HS0
            refine held_two (k1 := 4) (k2 := 7) (by kernel_rfl) rfl rfl (fun K hK => ?_) (fun K hK => ?_)
            · go_simp
              refine hK.out _ _ hS ?_
              clear hK K
              simp only [List.setIfInBounds_toArray, List.set_cons_zero, List.set_cons_succ]
              refine wpAnyH_one (k := 7) (by kernel_rfl) rfl (fun K hK => ?_)
              go_simp
              refine hK.out _ _ (hSa _) ?_
              clear hK K
              simp only [List.setIfInBounds_toArray, List.set_cons_zero, List.set_cons_succ]
              refine wpAnyH_append (k := 8) (by kernel_rfl) rfl rfl rfl (by kernel_rfl) (by kernel_rfl) hr5 hS5 ?_
              simp only [List.getElem_toArray, List.getElem_cons_succ, List.getElem_cons_zero, Act.put, List.setIfInBounds_toArray, List.set_cons_zero, List.set_cons_succ]
              refine wpAnyH_one (k := 9) (by kernel_rfl) rfl (fun K hK => ?_)
              go_simp
              refine hK.out _ _ hS5 ?_
              clear hK K
              simp only [List.setIfInBounds_toArray, List.set_cons_zero, List.set_cons_succ]
              refine wpAnyH_one (k := 10) (by kernel_rfl) rfl (fun K hK => ?_)
              go_simp
              refine hK.out _ _ hS5 ?_
              clear hK K
              simp only [List.setIfInBounds_toArray, List.set_cons_zero, List.set_cons_succ]
              refine wpAnyH_one (k := 11) (by kernel_rfl) rfl (fun K hK => ?_)
              go_simp
              refine hK.out _ _ hS6 ?_
              clear hK K
              simp only [List.setIfInBounds_toArray, List.set_cons_zero, List.set_cons_succ]
              refine wpAnyH_done (by kernel_rfl) ?_ _
              go_wp2
              go_ret
              exact HF.out
            · go_simp
              refine hK.out _ _ (hSa _) ?_
              clear hK K
              simp only [List.setIfInBounds_toArray, List.set_cons_zero, List.set_cons_succ]
              refine wpAnyH_one (k := 4) (by kernel_rfl) rfl (fun K hK => ?_)
              go_simp
              refine hK.out _ _ (hSa _) ?_
              clear hK K
              simp only [List.setIfInBounds_toArray, List.set_cons_zero, List.set_cons_succ]
              refine wpAnyH_append (k := 8) (by kernel_rfl) rfl rfl rfl (by kernel_rfl) (by kernel_rfl) hr5 hS5 ?_
              simp only [List.getElem_toArray, List.getElem_cons_succ, List.getElem_cons_zero, Act.put, List.setIfInBounds_toArray, List.set_cons_zero, List.set_cons_succ]
              refine wpAnyH_one (k := 9) (by kernel_rfl) rfl (fun K hK => ?_)
              go_simp
              refine hK.out _ _ hS5 ?_
              clear hK K
              simp only [List.setIfInBounds_toArray, List.set_cons_zero, List.set_cons_succ]
              refine wpAnyH_one (k := 10) (by kernel_rfl) rfl (fun K hK => ?_)
              go_simp
              refine hK.out _ _ hS5 ?_
              clear hK K
              simp only [List.setIfInBounds_toArray, List.set_cons_zero, List.set_cons_succ]
              refine wpAnyH_one (k := 11) (by kernel_rfl) rfl (fun K hK => ?_)
              go_simp
              refine hK.out _ _ hS6 ?_
              clear hK K
              simp only [List.setIfInBounds_toArray, List.set_cons_zero, List.set_cons_succ]
              refine wpAnyH_done (by kernel_rfl) ?_ _
              go_wp2
              go_ret
              exact HF.out
end Go.Proofs.Ytpnkkdpggofanaa
