/- The document's machine: Step by its walk. The document's machine: Step, all ways; what it keeps. The document's machine: Play by its walk. -/
import Derived.Test.YtpnkkdpggofanaaRmQ
import Derived.Test.YtpnkkdpggofanaaRmSa
import Derived.Test.YtpnkkdpggofanaaRmSb
import Derived.Test.YtpnkkdpggofanaaRmSc
import Derived.Test.YtpnkkdpggofanaaRmSd
namespace Go.Proofs.Ytpnkkdpggofanaa
open Go.RowKit

set_option maxHeartbeats 8000000 in
set_option maxRecDepth 100000 in
theorem rstep_begin (B : Nat) (w : World) (bm : Nat) (R : Rm) (vc vt : Value) (h : RRep B w bm R vc vt) (e : Ev) (hn : R.calls.length ≤ 1000000) (k1 : (e.kind == 1) = true) :
    Calls Try.prog 46 #[ptrV bm, evV e] w (StepEnds B w bm R (rstep R e)) := by
  have HR0 := hid h
  clear h
  have HV := hid (show rstep R e = rbegin R e by simp only [rstep, k1, if_true])
  go_enter Try.func46, Try.ntmps46
  go_wp2_with fail
  refine namedC (w.alloc (.cells (evC e).toArray 31)) (fun W hW => ?_)
  have hS : SL B w bm R vc vt w.heap.size e W := by rw [hW]; exact sl_new HR0.out e
  refine (rbegin_any B W bm R vc vt hS.rep hn e).mono ?_
  rintro x W2 ⟨rfl, vc2, vt2, hr2, hb2⟩
  have HF := hid (show StepEnds B w bm R (rstep R e) (.returned (.bool (rbegin R e).isSome)) W2 from by rw [HV.out]; exact ⟨rfl, vc2, vt2, hr2, hS.bel.trans hb2⟩)
  clear hW hS hr2 hb2
  go_wp2
  go_ret
  exact HF.out

set_option maxHeartbeats 8000000 in
set_option maxRecDepth 100000 in
theorem rstep_bad (B : Nat) (w : World) (bm : Nat) (R : Rm) (vc vt : Value) (h : RRep B w bm R vc vt) (e : Ev) (_hn : R.calls.length ≤ 1000000) (k1 : (e.kind == 1) = false) (k2 : (decide (e.call < 1) || decide (e.call > (R.calls.length : Int))) = true) :
    Calls Try.prog 46 #[ptrV bm, evV e] w (StepEnds B w bm R (rstep R e)) := by
  have HR0 := hid h
  clear h
  have HV := hid (show rstep R e = none by simp only [rstep, k1, k2]; simp)
  go_enter Try.func46, Try.ntmps46
  go_wp2
  refine named (w.alloc (.cells (evC e).toArray 31)) (fun W hW => ?_)
  have HS := hid (show SL B w bm R vc vt w.heap.size e W by rw [hW]; exact sl_new HR0.out e)
  clear hW
  obtain ⟨ao, cap, hvc⟩ := owns_shape HS.out.rep.calls
  subst hvc
  have m5 : W.cell? ⟨bm, 5, none⟩ = some (.slice ao R.calls.length cap) := HS.out.rep.m.cell 5 rfl
  have e2 : W.cell? ⟨w.heap.size, 2, none⟩ = some (.int .i64 e.call) := HS.out.e.cell 2 rfl
  cases k3 : decide (e.call < 1) with
  | true =>
    go_quiet (fail)
    go_wp2
    go_ret
    rw [HV.out]
    exact (HS.out.drewN _).no
  | false =>
    have k4 : decide (e.call > (R.calls.length : Int)) = true := by rw [k3] at k2; simpa using k2
    go_quiet (fail)
    go_wp2
    go_ret
    rw [HV.out]
    exact (HS.out.drewN _).no

set_option maxHeartbeats 8000000 in
set_option maxRecDepth 100000 in
theorem rstep_off (B : Nat) (w : World) (bm : Nat) (R : Rm) (vc vt : Value) (h : RRep B w bm R vc vt) (e : Ev) (hn : R.calls.length ≤ 1000000) (i : Nat) (c : Cl) (hi : R.calls[i]? = some c) (hk : e.call = (i : Int) + 1) (k1 : (e.kind == 1) = false) (kk : (!c.opn || c.bg.thr != e.thr || c.bg.what != e.what) = true) :
    Calls Try.prog 46 #[ptrV bm, evV e] w (StepEnds B w bm R (rstep R e)) := by
  have HV := hid (show rstep R e = none by simp only [rstep, k1]; rw [if_neg (by simp), if_neg (by rw [Bool.or_eq_true, decide_eq_true_eq, decide_eq_true_eq]; have := (List.getElem?_eq_some_iff.1 hi).1; omega), show (e.call - 1).toNat = i by omega, hi]; simp only [kk, if_true])
  have HR0 := hid h
  have hi2 : i < R.calls.length := (List.getElem?_eq_some_iff.1 hi).1
  have k3 : decide (e.call < 1) = false := decide_eq_false (by omega)
  have k4 : decide (e.call > (R.calls.length : Int)) = false := decide_eq_false (by omega)
  have HK := hid (And.intro hi hk)
  clear h hi hk
  go_enter Try.func46, Try.ntmps46
  go_wp2
  refine named (w.alloc (.cells (evC e).toArray 31)) (fun W hW => ?_)
  have HS := hid (show SL B w bm R vc vt w.heap.size e W by rw [hW]; exact sl_new HR0.out e)
  have hz : W.heap.size = w.heap.size + 1 := by rw [hW]; simp
  clear hW
  obtain ⟨ao, cap, hvc⟩ := owns_shape HS.out.rep.calls
  subst hvc
  have m5 : W.cell? ⟨bm, 5, none⟩ = some (.slice ao R.calls.length cap) := HS.out.rep.m.cell 5 rfl
  have e2 : W.cell? ⟨w.heap.size, 2, none⟩ = some (.int .i64 e.call) := HS.out.e.cell 2 rfl
  go_quiet (fail)
  go_wp2
  obtain ⟨W1, hW1⟩ : ∃ W1, W1 = W.drewN nq := ⟨_, rfl⟩
  have HS1 := hid (show SL B w bm R (.slice ao R.calls.length cap) vt w.heap.size e W1 from hW1 ▸ HS.out.drewN _)
  have hz1 : W1.heap.size = w.heap.size + 1 := by rw [hW1]; exact hz
  rw [← hW1]
  clear hW1 m5 e2 HS hz
  obtain ⟨ao2, cap2, hv, hx⟩ := (Reads.of_owns HS1.out.rep.calls).enc (sz := 15) (fun _ => rfl) (by decide)
  simp only [Value.slice.injEq, true_and] at hv
  obtain ⟨rfl, rfl⟩ := hv
  obtain ⟨g, og, rfl, hc⟩ := hx i _ HK.out.1
  clear hx
  have hog : og = 0 := by obtain ⟨_, ⟨h, _⟩ | ⟨g2, cap2, cur2, h, _⟩⟩ := HS1.out.rep.calls; simp at h; simp at h; exact h.1.2
  subst hog
  simp only [Nat.zero_add] at hc
  have HRG := hid (show ∀ W0, Chg (fun _ => False) W1 W0 → W0.rangeAt g (i * 15) (clC' c) from fun W0 hS j v hv => hS.cell (fun h => h) (hc j v hv))
  clear hc
  have m5 : W1.cell? ⟨bm, 5, none⟩ = some (.slice (some ⟨g, 0, none⟩) R.calls.length cap) := HS1.out.rep.m.cell 5 rfl
  have e2 : W1.cell? ⟨w.heap.size, 2, none⟩ = some (.int .i64 ((i : Int) + 1)) := by rw [← HK.out.2]; exact HS1.out.e.cell 2 rfl
  have hS : Chg (fun _ => False) W1 W1.drew := (Chg.refl _ _).drew
  have hwv : IntKind.i64.wrap ((i : Int) + 1 - 1) = (i : Int) := by rw [IntKind.wrap_i64]; omega
  have hwv2 : IntKind.i64.wrap (i : Int) = (i : Int) := by rw [IntKind.wrap_i64]; omega
  have hii : (i : Int) < (R.calls.length : Int) := by omega
  refine wp_region_held_drew (by kernel_rfl) hS (fun _ => ?_)
  simp only [List.size_toArray, List.length_cons, List.length_nil, Nat.reduceAdd, Array.replicate_succ, Array.replicate_zero, List.push_toArray, List.nil_append, List.cons_append]
  refine wpAnyH_take (i := 0) (v := ?_) rfl (by kernel_rfl) (by kernel_rfl) (by kernel_rfl) (fun _ _ _ h => h) (Or.inl ⟨by kernel_rfl, ?_⟩) hS ?_
  rotate_left
  · (intro W0 hW; go_simp; try with_reducible rfl)
  simp only [List.getElem_toArray, List.getElem_cons_zero, Act.put, List.setIfInBounds_toArray, List.set_cons_zero, List.set_cons_succ]
  refine wpAnyH_take (i := 1) (v := ?_) rfl (by kernel_rfl) (by kernel_rfl) (by kernel_rfl) (fun _ _ _ h => h) (Or.inl ⟨by kernel_rfl, ?_⟩) hS ?_
  rotate_left
  · (intro W0 hW; go_simp; try with_reducible rfl)
  simp only [List.getElem_toArray, List.getElem_cons_succ, List.getElem_cons_zero, Act.put, List.setIfInBounds_toArray, List.set_cons_zero, List.set_cons_succ]
  refine wpAnyH_take (i := 2) (v := ?_) rfl (by kernel_rfl) (by kernel_rfl) (by kernel_rfl) (fun _ _ _ h => h) (Or.inl ⟨by kernel_rfl, ?_⟩) hS ?_
  rotate_left
  · (intro W0 hW; go_simp; try with_reducible rfl)
  simp only [List.getElem_toArray, List.getElem_cons_succ, List.getElem_cons_zero, Act.put, List.setIfInBounds_toArray, List.set_cons_zero, List.set_cons_succ]
  refine wpAnyH_take (i := 3) (v := ?_) rfl (by kernel_rfl) (by kernel_rfl) (by kernel_rfl) (fun _ _ _ h => h) (Or.inl ⟨by kernel_rfl, ?_⟩) hS ?_
  rotate_left
  · (intro W0 hW; have q := hW.cell (fun h => h) m5; go_simp; try with_reducible rfl)
  simp only [List.getElem_toArray, List.getElem_cons_succ, List.getElem_cons_zero, Act.put, List.setIfInBounds_toArray, List.set_cons_zero, List.set_cons_succ]
  refine wpAnyH_take (i := 4) (v := ?_) rfl (by kernel_rfl) (by kernel_rfl) (by kernel_rfl) (fun _ _ _ h => h) (Or.inl ⟨by kernel_rfl, ?_⟩) hS ?_
  rotate_left
  · (intro W0 hW; go_simp; try with_reducible rfl)
  simp only [List.getElem_toArray, List.getElem_cons_succ, List.getElem_cons_zero, Act.put, List.setIfInBounds_toArray, List.set_cons_zero, List.set_cons_succ]
  refine wpAnyH_take (i := 5) (v := ?_) rfl (by kernel_rfl) (by kernel_rfl) (by kernel_rfl) (fun _ _ _ h => h) (Or.inl ⟨by kernel_rfl, ?_⟩) hS ?_
  rotate_left
  · (intro W0 hW; have q := hW.cell (fun h => h) e2; go_simp; try with_reducible rfl)
  simp only [List.getElem_toArray, List.getElem_cons_succ, List.getElem_cons_zero, Act.put, List.setIfInBounds_toArray, List.set_cons_zero, List.set_cons_succ]
  refine wpAnyH_take (i := 6) (v := .int .i64 i) rfl (by kernel_rfl) (by kernel_rfl) (by kernel_rfl) (fun _ _ _ h => h) (Or.inl ⟨by kernel_rfl, fun W0 hW => by go_simp⟩) hS ?_
  simp only [List.getElem_toArray, List.getElem_cons_succ, List.getElem_cons_zero, Act.put, List.setIfInBounds_toArray, List.set_cons_zero, List.set_cons_succ]
  refine wpAnyH_take (i := 7) (v := .pointer (some ⟨g, i * 15, none⟩)) rfl (by kernel_rfl) (by kernel_rfl) (by kernel_rfl) (fun _ _ _ h => h) (Or.inl ⟨by kernel_rfl, fun W0 hW => by go_simp⟩) hS ?_
  simp only [List.getElem_toArray, List.getElem_cons_succ, List.getElem_cons_zero, Act.put, List.setIfInBounds_toArray, List.set_cons_zero, List.set_cons_succ]
  refine wpAnyH_take (i := 8) rfl (by kernel_rfl) (by kernel_rfl) (by kernel_rfl) (fun _ _ _ h => h) (yieldsIf_load_mid (by kernel_rfl) 115 _ rfl g (i * 15) (by kernel_rfl) (clC' c) _ (fun _ h => HRG.out _ h) Try.underlying115 rfl (by kernel_rfl)) hS ?_
  simp only [List.getElem_toArray, List.getElem_cons_succ, List.getElem_cons_zero, Act.put, List.setIfInBounds_toArray, List.set_cons_zero, List.set_cons_succ]
  have hZ : Blk (W1.alloc (.cells clZ.toArray 115)).drew (w.heap.size + 1) 115 clZ := (Blk.newAt _ _ _ hz1).drew
  refine wpAnyH_one (k := 9) (by kernel_rfl) rfl (fun K hK => ?_)
  go_simp
  refine hK.out _ _ ((Chg.alloc _ _ _).drew) ?_
  clear hK K
  simp only [List.setIfInBounds_toArray, List.set_cons_zero, List.set_cons_succ]
  refine wpAnyH_one (k := 10) (by kernel_rfl) rfl (fun K hK => ?_)
  rw [if_pos (by kernel_rfl)]
  refine wp_store_row _ _ _ rfl (w.heap.size + 1) (clC' c).toArray (by kernel_rfl) (by kernel_rfl) _ _ hZ (by kernel_rfl) rfl (all_oneCell_toArray (clC_one c)) ?_
  have hC2 : Chg (fun _ => False) W1 ((W1.alloc (.cells clZ.toArray 115)).drew.setRow (w.heap.size + 1) (clC' c).toArray) := chg_row ((Chg.alloc _ _ _).drew) (by omega)
  refine hK.out _ _ hC2 ?_
  clear hK K
  simp only [List.getElem_toArray, List.getElem_cons_succ, List.getElem_cons_zero, Act.put, List.setIfInBounds_toArray, List.set_cons_zero, List.set_cons_succ]
  refine wpAnyH_done (by kernel_rfl) ?_ _
  have hB2 := hZ.rowNew (xs := clC' c)
  have hz2 : ((W1.alloc (.cells clZ.toArray 115)).drew.setRow (w.heap.size + 1) (clC' c).toArray).heap.size = w.heap.size + 1 + 1 := by simp [World.drew]; omega
  obtain ⟨W2, hW2⟩ : ∃ W2, W2 = (W1.alloc (.cells clZ.toArray 115)).drew.setRow (w.heap.size + 1) (clC' c).toArray := ⟨_, rfl⟩
  have HS2 := hid (hW2 ▸ HS1.out.fresh hC2 (fun _ h => h.elim) : SL B w bm R (.slice (some ⟨g, 0, none⟩) R.calls.length cap) vt w.heap.size e W2)
  have HC2 := hid (hW2 ▸ hB2 : Blk W2 (w.heap.size + 1) 115 (clC' c))
  have hz3 : W2.heap.size = w.heap.size + 1 + 1 := by rw [hW2]; exact hz2
  refine Hid.out ?_
  first | rw [← hW2] | (rw [show (#[.int .i64 0, .int .i64 0, .int .i64 0, .int .i64 0, .int .u64 0, .int .u64 0, .int .u64 0, .int .u64 0, .int .u64 0, .int .i64 0, .bool false, .bool false, .int .u64 0, .int .u64 0, .int .i64 0] : Array Value) = clZ.toArray from rfl, ← hW2])
  refine hid ?_
  clear hW2 hz2 hB2 hC2 hZ hS HS1 hz1 m5 e2 HRG hwv hwv2 hii k3 k4 HR0
  have c10 : W2.cell? ⟨w.heap.size + 1, 10, none⟩ = some (.bool c.opn) := HC2.out.cell 10 rfl
  have c1 : W2.cell? ⟨w.heap.size + 1, 1, none⟩ = some (.int .i64 c.bg.thr) := HC2.out.cell 1 rfl
  have c3 : W2.cell? ⟨w.heap.size + 1, 3, none⟩ = some (.int .i64 c.bg.what) := HC2.out.cell 3 rfl
  have x1 : W2.cell? ⟨w.heap.size, 1, none⟩ = some (.int .i64 e.thr) := HS2.out.e.cell 1 rfl
  have x3 : W2.cell? ⟨w.heap.size, 3, none⟩ = some (.int .i64 e.what) := HS2.out.e.cell 3 rfl
  cases k5 : c.opn with
  | false =>
    rw [k5] at c10
    go_wp2
    go_ret
    rw [HV.out]
    exact HS2.out.no
  | true =>
    rw [k5] at c10
    cases k6 : (c.bg.thr != e.thr) with
    | true =>
      go_wp2
      go_ret
      rw [HV.out]
      exact HS2.out.no
    | false =>
      have k7 : (c.bg.what != e.what) = true := by rw [k5, k6] at kk; simpa using kk
      go_wp2
      go_ret
      rw [HV.out]
      exact HS2.out.no

end Go.Proofs.Ytpnkkdpggofanaa

namespace Go.Proofs.Ytpnkkdpggofanaa
open Go.RowKit

theorem rt0_wf : RT.wf rt0 := ⟨⟨by decide, by decide⟩, ⟨by decide, by decide⟩, ⟨by decide, by decide⟩⟩
theorem Sim.rtm_wf {M : Ma} {R : Rm} (S : Sim M R) (id : Int) : (rtm R.tms id).wf := by
  unfold rtm
  cases h : rget R.tms id with
  | none => exact rt0_wf
  | some t => exact S.wfT t (rget_mem h)
theorem Sim.nodup {M : Ma} {R : Rm} (S : Sim M R) : (rlives R.tms).Nodup := S.ids.sublist (List.filter_sublist.map _)

theorem rstep_any (B : Nat) (w : World) (bm : Nat) (R : Rm) (vc vt : Value) (h : RRep B w bm R vc vt) {M : Ma} (S : Sim M R) (e : Ev) (hn : R.calls.length ≤ 1000000) (hnT : R.tms.length ≤ 1000000) :
    Calls Try.prog 46 #[ptrV bm, evV e] w (StepEnds B w bm R (rstep R e)) := by
  cases k1 : (e.kind == 1) with
  | true => exact rstep_begin B w bm R vc vt h e hn k1
  | false =>
    cases k2 : (decide (e.call < 1) || decide (e.call > (R.calls.length : Int))) with
    | true => exact rstep_bad B w bm R vc vt h e hn k1 k2
    | false =>
      rw [Bool.or_eq_false_iff, decide_eq_false_iff_not, decide_eq_false_iff_not] at k2
      obtain ⟨i, hk⟩ : ∃ i : Nat, e.call = (i : Int) + 1 := ⟨(e.call - 1).toNat, by omega⟩
      have hi : R.calls[i]? = some R.calls[i] := List.getElem?_eq_getElem (by omega)
      generalize R.calls[i] = c at hi
      have HCB := hid (show c.bg.wf from S.wfC c (by rw [← S.calls]; exact List.mem_of_getElem? hi))
      have HN := hid S.nodup
      have HNOW := hid (show U64 R.now by rw [S.now]; exact S.wfN)
      have HWT := hid (S.rtm_wf e.id)
      cases kk : (!c.opn || c.bg.thr != e.thr || c.bg.what != e.what) with
      | true => exact rstep_off B w bm R vc vt h e hn i c hi hk k1 kk
      | false =>
        simp only [Bool.or_eq_false_iff] at kk
        have k5 : c.opn = true := by simpa using kk.1.1
        cases kd : c.done with
        | true =>
          by_cases hl : rfindI R.tms e.id < 0
          · exact rstep_ld B w bm R vc vt h e hn i c hi hk hnT HN HCB HNOW HWT k1 k5 kk.1.2 kk.2 kd hl
          · exact rstep_fd B w bm R vc vt h e hn i c hi hk hnT HN HCB HNOW HWT k1 k5 kk.1.2 kk.2 kd hl
        | false =>
          by_cases hl : rfindI R.tms e.id < 0
          · exact rstep_ln B w bm R vc vt h e hn i c hi hk hnT HN HCB HNOW HWT k1 k5 kk.1.2 kk.2 kd hl
          · exact rstep_fn B w bm R vc vt h e hn i c hi hk hnT HN HCB HNOW HWT k1 k5 kk.1.2 kk.2 kd hl

theorem rset_len (l : List RT) (id : Int) (t : RT) : (rset l id t).length = l.length := by
  unfold rset; split <;> simp
theorem rstep_len {R R' : Rm} {e : Ev} (h : rstep R e = some R') : R'.calls.length ≤ R.calls.length + 1 ∧ R'.tms.length ≤ R.tms.length + 1 := by
  unfold rstep at h
  split at h
  · unfold rbegin at h
    split at h
    · cases h
    · cases h; simp
  · split at h
    · cases h
    · split at h
      · cases h
      · split at h
        · cases h
        · rename_i c _ _
          have hrow := rdoes_rows R c (rtm R.tms e.id) e
          split at h
          · cases h
          · rename_i m' c' t' hr
            cases h
            rw [hr] at hrow
            dsimp only at hrow
            refine ⟨by simp [hrow.1], ?_⟩
            dsimp only
            split
            · simp [hrow.2]
            · split
              · rw [rset_len, hrow.2]; omega
              · rw [hrow.2]; omega
theorem sim_next {M : Ma} {R R' : Rm} (S : Sim M R) {e : Ev} (he : e.wf) (h : rstep R e = some R') : ∃ M', Sim M' R' := by
  have := sim_step S he
  rw [h] at this
  cases hm : stepM M e with
  | none => rw [hm] at this; exact this.elim
  | some M' => rw [hm] at this; exact ⟨M', this⟩
end Go.Proofs.Ytpnkkdpggofanaa

namespace Go.Proofs.Ytpnkkdpggofanaa
open Go.RowKit

/-- Behind k events, all of which came. -/
def RAt (B : Nat) (w : World) (bm : Nat) (n : Int) (l : List Ev) (k : Nat) (wr : World) : Prop :=
  Below B w wr ∧ ∃ R vc vt, RRep B wr bm R vc vt ∧ (∃ M, Sim M R) ∧ R.calls.length ≤ k ∧ R.tms.length ≤ k ∧ rplay (rnew n) l = ((rplay R (l.drop k)).1, (rplay R (l.drop k)).2 + k)
def REnd (B : Nat) (w : World) (n : Int) (l : List Ev) (x : Ending) (w' : World) : Prop :=
  Below B w w' ∧ ∃ bm vc vt, x = .returned (.tuple #[ptrV bm, .int .i64 ((rplay (rnew n) l).2 : Int)]) ∧ RRep B w' bm (rplay (rnew n) l).1 vc vt ∧ (rplay (rnew n) l).1.tms.length ≤ l.length
theorem rplay_none {R : Rm} {e : Ev} {l : List Ev} (h : rstep R e = none) : rplay R (e :: l) = (R, 0) := by simp [rplay, h]
theorem rplay_some {R R' : Rm} {e : Ev} {l : List Ev} (h : rstep R e = some R') : rplay R (e :: l) = ((rplay R' l).1, (rplay R' l).2 + 1) := by simp [rplay, h]
theorem rrep_new (n : Int) (w : World) : RRep w.heap.size (w.alloc (.cells (mcC (rnew n) (.slice none 0 0) (.slice none 0 0)).toArray 91)) w.heap.size (rnew n) (.slice none 0 0) (.slice none 0 0) :=
  ⟨Nat.le_refl _, Blk.new _ _ _, World.ownsRow_nil _ _ _ _, World.ownsRow_nil _ _ _ _⟩

set_option maxRecDepth 100000 in
set_option maxHeartbeats 4000000 in
theorem rplay_any (n : Int) (l : List Ev) (v : Value) (w : World) (h1 : Reads w v l.length (l.flatMap evC)) (hwf : ∀ e ∈ l, e.wf) (hn : l.length ≤ 100000) :
    Calls Try.prog 34 #[.int .i64 n, v] w fun x w' => REnd w.heap.size w n l x w' := by
  have hrd := hid h1
  have HW := hid hwf
  obtain ⟨ao, c1, rfl, g1⟩ := h1.evs
  clear g1 h1 hwf
  go_enter Try.func34, Try.ntmps34
  go_wp2
  refine named (w.alloc (.cells (mcC (rnew n) (.slice none 0 0) (.slice none 0 0)).toArray 91)) (fun W hW => ?_)
  have HA := hid (show RAt w.heap.size w w.heap.size n l 0 W from hW ▸ ⟨(Below.refl _ _).alloc (Nat.le_refl _) _, rnew n, _, _, rrep_new n w, ⟨new n, sim_new n⟩, by simp [rnew], by simp [rnew], by simp⟩)
  clear hW
  generalize hbm : w.heap.size = bm at HA ⊢
  have HBM := hid hbm
  clear hbm
  go_loopw [7] (fun i wr => ∃ k : Nat, k ≤ l.length ∧ i = .int .i64 k ∧ Hid (RAt bm w bm n l k wr)) (fun i _ => l.length - (intOf i).toNat)
  case atStart => exact ⟨0, by omega, rfl, HA⟩
  case round =>
    obtain ⟨k, hk, rfl, HI⟩ := hrel
    clear HA
    by_cases hlt : k < l.length
    · obtain ⟨hb, R, vc, vt, hrep, hsim, hl1, hl2, hpl⟩ := HI.out
      have hrr := hrd.out.below hb (by rw [HBM.out]; exact Nat.le_refl _)
      obtain ⟨ao2, c2, hv, hx⟩ := hrr.evs
      simp only [Value.slice.injEq, true_and] at hv
      obtain ⟨rfl, rfl⟩ := hv
      obtain ⟨b, o, rfl, hc⟩ := hx k _ (List.getElem?_eq_getElem hlt)
      clear hx hrr
      have q0 : wr.cell? ⟨b, o + k * 10, none⟩ = some (.int .i64 l[k].kind) := hc 0 _ rfl
      have q1 : wr.cell? ⟨b, o + k * 10 + 1, none⟩ = some (.int .i64 l[k].thr) := hc 1 _ rfl
      have q2 : wr.cell? ⟨b, o + k * 10 + 2, none⟩ = some (.int .i64 l[k].call) := hc 2 _ rfl
      have q3 : wr.cell? ⟨b, o + k * 10 + 3, none⟩ = some (.int .i64 l[k].what) := hc 3 _ rfl
      have q4 : wr.cell? ⟨b, o + k * 10 + 4, none⟩ = some (.int .u64 l[k].id) := hc 4 _ rfl
      have q5 : wr.cell? ⟨b, o + k * 10 + 5, none⟩ = some (.int .u64 l[k].gen) := hc 5 _ rfl
      have q6 : wr.cell? ⟨b, o + k * 10 + 6, none⟩ = some (.int .u64 l[k].dl) := hc 6 _ rfl
      have q7 : wr.cell? ⟨b, o + k * 10 + 7, none⟩ = some (.int .u64 l[k].per) := hc 7 _ rfl
      have q8 : wr.cell? ⟨b, o + k * 10 + 8, none⟩ = some (.int .u64 l[k].tk) := hc 8 _ rfl
      have q9 : wr.cell? ⟨b, o + k * 10 + 9, none⟩ = some (.int .i64 l[k].err) := hc 9 _ rfl
      have HWE := hid (HW.out _ (List.getElem_mem hlt))
      have HDROP := hid (List.drop_eq_getElem_cons hlt)
      have HREP := hid hrep
      have HSIM := hid hsim
      have HB := hid hb
      have HPL := hid hpl
      have hc1 : R.calls.length ≤ 1000000 := by omega
      have hc2 : R.tms.length ≤ 1000000 := by omega
      have HLEN := hid (And.intro hl1 hl2)
      clear hb hrep hsim hpl hl1 hl2 HI hc
      generalize l[k] = e at *
      cases hs : rstep R e with
      | none =>
        go_wp2_with fail
        refine (rstep_any bm _ bm R vc vt HREP.out (Classical.choose_spec HSIM.out) e hc1 hc2).mono ?_
        rintro x w' ⟨rfl, vc2, vt2, hr2, hb2⟩
        rw [hs]
        rw [hs] at hr2
        have HF := hid (show REnd bm w n l (.returned (.tuple #[ptrV bm, .int .i64 k])) w' from by
          have hp := HPL.out
          rw [HDROP.out, rplay_none hs] at hp
          refine ⟨HB.out.trans hb2, bm, vc2, vt2, ?_, ?_⟩
          · rw [hp]; simp
          · rw [hp]; exact ⟨hr2, by have := HLEN.out; dsimp only; omega⟩)
        clear hr2 hb2
        go_wp2
        go_ret2
        rw [HBM.out]
        exact HF.out
      | some R' =>
        go_wp2_with fail
        refine (rstep_any bm _ bm R vc vt HREP.out (Classical.choose_spec HSIM.out) e hc1 hc2).mono ?_
        rintro x w' ⟨rfl, vc2, vt2, hr2, hb2⟩
        rw [hs]
        rw [hs] at hr2
        have HN2 := hid (show RAt bm w bm n l (k + 1) w' from by
          have hp := HPL.out
          rw [HDROP.out, rplay_some hs] at hp
          have hle := rstep_len hs
          obtain ⟨M', hM'⟩ := HSIM.out.elim (fun M hM => sim_next hM HWE.out hs)
          exact ⟨HB.out.trans hb2, R', vc2, vt2, hr2, ⟨M', hM'⟩, by have := HLEN.out; omega, by have := HLEN.out; omega, by rw [hp]; simp; omega⟩)
        clear hr2 hb2
        go_wp2
        go_roundw
        case rel => exact ⟨k + 1, by omega, by go_num, HN2⟩
        case measure => simp [intOf]; omega
    · obtain rfl : k = l.length := by omega
      have HF := hid (show REnd bm w n l (.returned (.tuple #[ptrV bm, .int .i64 (l.length : Int)])) wr from by
        obtain ⟨hb, R, vc, vt, hrep, _, _, hl2, hpl⟩ := HI.out
        rw [List.drop_length, show ∀ R, rplay R [] = (R, 0) from fun _ => rfl] at hpl
        refine ⟨hb, bm, vc, vt, ?_, ?_⟩
        · rw [hpl]; simp
        · rw [hpl]; exact ⟨hrep, hl2⟩)
      clear HI
      go_wp2
      go_ret2
      rw [HBM.out]
      exact HF.out
end Go.Proofs.Ytpnkkdpggofanaa
