/- The document's machine: Step by its walk. -/
import Derived.Test.YtpnkkdpggofanaaRmQ
namespace Go.Proofs.Ytpnkkdpggofanaa
open Go.RowKit

set_option maxHeartbeats 8000000 in
set_option maxRecDepth 100000 in
theorem rstep_ln (B : Nat) (w : World) (bm : Nat) (R : Rm) (vc vt : Value) (h : RRep B w bm R vc vt) (e : Ev) (hn : R.calls.length ≤ 1000000) (i : Nat) (c : Cl) (hi : R.calls[i]? = some c) (hk : e.call = (i : Int) + 1) (hnT : R.tms.length ≤ 1000000) (HN : Hid (rlives R.tms).Nodup) (HCB : Hid c.bg.wf) (HNOW : Hid (U64 R.now)) (HWT : Hid (rtm R.tms e.id).wf) (k1 : (e.kind == 1) = false) (k5 : c.opn = true) (k6 : (c.bg.thr != e.thr) = false) (k7 : (c.bg.what != e.what) = false) (kd : c.done = false) (hl : rfindI R.tms e.id < 0) :
    Calls Try.prog 46 #[ptrV bm, evV e] w (StepEnds B w bm R (rstep R e)) := by
  have HL := hid hl
  clear hl
  have HR0 := hid h
  have hi2 : i < R.calls.length := (List.getElem?_eq_some_iff.1 hi).1
  have k3 : decide (e.call < 1) = false := decide_eq_false (by omega)
  have k4 : decide (e.call > (R.calls.length : Int)) = false := decide_eq_false (by omega)
  have HK := hid (And.intro hi hk)
  clear h hi hk
  go_enter Try.func46, Try.ntmps46
  go_wp2
  refine named (w.alloc (.cells (evC e).toArray 31)) (fun W hW => ?_)
  have HS := hid (show SL B w bm R vc vt w.heap.size e W by rw [hW]; exact sl_new HR0.out e)
  have hz : W.heap.size = w.heap.size + 1 := by rw [hW]; simp
  clear hW
  obtain ⟨ao, cap, hvc⟩ := owns_shape HS.out.rep.calls
  subst hvc
  have m5 : W.cell? ⟨bm, 5, none⟩ = some (.slice ao R.calls.length cap) := HS.out.rep.m.cell 5 rfl
  have e2 : W.cell? ⟨w.heap.size, 2, none⟩ = some (.int .i64 e.call) := HS.out.e.cell 2 rfl
  go_quiet (fail)
  go_wp2
  obtain ⟨W1, hW1⟩ : ∃ W1, W1 = W.drewN nq := ⟨_, rfl⟩
  have HS1 := hid (show SL B w bm R (.slice ao R.calls.length cap) vt w.heap.size e W1 from hW1 ▸ HS.out.drewN _)
  have hz1 : W1.heap.size = w.heap.size + 1 := by rw [hW1]; exact hz
  rw [← hW1]
  clear hW1 m5 e2 HS hz
  obtain ⟨ao2, cap2, hv, hx⟩ := (Reads.of_owns HS1.out.rep.calls).enc (sz := 15) (fun _ => rfl) (by decide)
  simp only [Value.slice.injEq, true_and] at hv
  obtain ⟨rfl, rfl⟩ := hv
  obtain ⟨g, og, rfl, hc⟩ := hx i _ HK.out.1
  clear hx
  have hog : og = 0 := by obtain ⟨_, ⟨h, _⟩ | ⟨g2, cap2, cur2, h, _⟩⟩ := HS1.out.rep.calls; simp at h; simp at h; exact h.1.2
  subst hog
  simp only [Nat.zero_add] at hc
  have HRG := hid (show ∀ W0, Chg (fun _ => False) W1 W0 → W0.rangeAt g (i * 15) (clC' c) from fun W0 hS j v hv => hS.cell (fun h => h) (hc j v hv))
  clear hc
  have m5 : W1.cell? ⟨bm, 5, none⟩ = some (.slice (some ⟨g, 0, none⟩) R.calls.length cap) := HS1.out.rep.m.cell 5 rfl
  have e2 : W1.cell? ⟨w.heap.size, 2, none⟩ = some (.int .i64 ((i : Int) + 1)) := by rw [← HK.out.2]; exact HS1.out.e.cell 2 rfl
  have hS : Chg (fun _ => False) W1 W1.drew := (Chg.refl _ _).drew
  have hwv : IntKind.i64.wrap ((i : Int) + 1 - 1) = (i : Int) := by rw [IntKind.wrap_i64]; omega
  have hwv2 : IntKind.i64.wrap (i : Int) = (i : Int) := by rw [IntKind.wrap_i64]; omega
  have hii : (i : Int) < (R.calls.length : Int) := by omega
  refine wp_region_held_drew (by kernel_rfl) hS (fun _ => ?_)
  simp only [List.size_toArray, List.length_cons, List.length_nil, Nat.reduceAdd, Array.replicate_succ, Array.replicate_zero, List.push_toArray, List.nil_append, List.cons_append]
  refine tk 0 (v := ?_) rfl (by kernel_rfl) hS ?_ ?_
  rotate_left
  · (intro W0 hW; go_simp; try rfl)
  simp only [nA,nC,Act.put,nD,nE,nF]
  refine tk 1 (v := ?_) rfl (by kernel_rfl) hS ?_ ?_
  rotate_left
  · (intro W0 hW; go_simp; try rfl)
  simp only [nA,nB,nC,Act.put,nD,nE,nF]
  refine tk 2 (v := ?_) rfl (by kernel_rfl) hS ?_ ?_
  rotate_left
  · (intro W0 hW; go_simp; try rfl)
  simp only [nA,nB,nC,Act.put,nD,nE,nF]
  refine tk 3 (v := ?_) rfl (by kernel_rfl) hS ?_ ?_
  rotate_left
  · (intro W0 hW; have q := hW.cell (fun h => h) m5; go_simp; try rfl)
  simp only [nA,nB,nC,Act.put,nD,nE,nF]
  refine tk 4 (v := ?_) rfl (by kernel_rfl) hS ?_ ?_
  rotate_left
  · (intro W0 hW; go_simp; try rfl)
  simp only [nA,nB,nC,Act.put,nD,nE,nF]
  refine tk 5 (v := ?_) rfl (by kernel_rfl) hS ?_ ?_
  rotate_left
  · (intro W0 hW; have q := hW.cell (fun h => h) e2; go_simp; try rfl)
  simp only [nA,nB,nC,Act.put,nD,nE,nF]
  refine wpAnyH_take (i := 6) (v := .int .i64 i) rfl (by kernel_rfl) (by kernel_rfl) (by kernel_rfl) (fun _ _ _ h => h) (Or.inl ⟨by kernel_rfl, fun W0 hW => by go_simp⟩) hS ?_
  simp only [nA,nB,nC,Act.put,nD,nE,nF]
  refine wpAnyH_take (i := 7) (v := .pointer (some ⟨g, i * 15, none⟩)) rfl (by kernel_rfl) (by kernel_rfl) (by kernel_rfl) (fun _ _ _ h => h) (Or.inl ⟨by kernel_rfl, fun W0 hW => by go_simp⟩) hS ?_
  simp only [nA,nB,nC,Act.put,nD,nE,nF]
  refine wpAnyH_take (i := 8) rfl (by kernel_rfl) (by kernel_rfl) (by kernel_rfl) (fun _ _ _ h => h) (yieldsIf_load_mid (by kernel_rfl) 115 _ rfl g (i * 15) (by kernel_rfl) (clC' c) _ (fun _ h => HRG.out _ h) Try.underlying115 rfl (by kernel_rfl)) hS ?_
  simp only [nA,nB,nC,Act.put,nD,nE,nF]
  have hZ : Blk (W1.alloc (.cells clZ.toArray 115)).drew (w.heap.size + 1) 115 clZ := (Blk.newAt _ _ _ hz1).drew
  refine wpAnyH_one (k := 9) (by kernel_rfl) rfl (fun K hK => ?_)
  go_simp
  refine hK.out _ _ ((Chg.alloc _ _ _).drew) ?_
  clear hK K
  simp only [nD,nE,nF]
  refine wpAnyH_one (k := 10) (by kernel_rfl) rfl (fun K hK => ?_)
  rw [if_pos (by kernel_rfl)]
  refine wp_store_row _ _ _ rfl (w.heap.size + 1) (clC' c).toArray (by kernel_rfl) (by kernel_rfl) _ _ hZ (by kernel_rfl) rfl (all_oneCell_toArray (clC_one c)) ?_
  have hC2 : Chg (fun _ => False) W1 ((W1.alloc (.cells clZ.toArray 115)).drew.setRow (w.heap.size + 1) (clC' c).toArray) := chg_row ((Chg.alloc _ _ _).drew) (by omega)
  refine hK.out _ _ hC2 ?_
  clear hK K
  simp only [nA,nB,nC,Act.put,nD,nE,nF]
  refine wpAnyH_done (by kernel_rfl) ?_ _
  have hB2 := hZ.rowNew (xs := clC' c)
  have hz2 : ((W1.alloc (.cells clZ.toArray 115)).drew.setRow (w.heap.size + 1) (clC' c).toArray).heap.size = w.heap.size + 1 + 1 := by simp [World.drew]; omega
  obtain ⟨W2, hW2⟩ : ∃ W2, W2 = (W1.alloc (.cells clZ.toArray 115)).drew.setRow (w.heap.size + 1) (clC' c).toArray := ⟨_, rfl⟩
  have HS2 := hid (hW2 ▸ HS1.out.fresh hC2 (fun _ h => h.elim) : SL B w bm R (.slice (some ⟨g, 0, none⟩) R.calls.length cap) vt w.heap.size e W2)
  have HC2 := hid (hW2 ▸ hB2 : Blk W2 (w.heap.size + 1) 115 (clC' c))
  have hz3 : W2.heap.size = w.heap.size + 1 + 1 := by rw [hW2]; exact hz2
  refine Hid.out ?_
  first | rw [← hW2] | (rw [show (#[.int .i64 0, .int .i64 0, .int .i64 0, .int .i64 0, .int .u64 0, .int .u64 0, .int .u64 0, .int .u64 0, .int .u64 0, .int .i64 0, .bool false, .bool false, .int .u64 0, .int .u64 0, .int .i64 0] : Array Value) = clZ.toArray from rfl, ← hW2])
  refine hid ?_
  clear hW2 hz2 hB2 hC2 hZ hS HS1 hz1 m5 e2 HRG hwv hwv2 hii k3 k4 HR0
  have K5 := hid (And.intro k5 kd)
  obtain ⟨cb, co, cd, ci, cg, ce⟩ := c
  dsimp only at k5 kd
  subst k5
  subst kd
  have c0 := HC2.out.cell 0 rfl
  have c1 := HC2.out.cell 1 rfl
  have c2 := HC2.out.cell 2 rfl
  have c3 := HC2.out.cell 3 rfl
  have c4 := HC2.out.cell 4 rfl
  have c5 := HC2.out.cell 5 rfl
  have c6 := HC2.out.cell 6 rfl
  have c7 := HC2.out.cell 7 rfl
  have c8 := HC2.out.cell 8 rfl
  have c9 := HC2.out.cell 9 rfl
  have c10 := HC2.out.cell 10 rfl
  have c11 := HC2.out.cell 11 rfl
  have c12 := HC2.out.cell 12 rfl
  have c13 := HC2.out.cell 13 rfl
  have c14 := HC2.out.cell 14 rfl
  have x0 := HS2.out.e.cell 0 rfl
  have x1 := HS2.out.e.cell 1 rfl
  have x2 := HS2.out.e.cell 2 rfl
  have x3 := HS2.out.e.cell 3 rfl
  have x4 := HS2.out.e.cell 4 rfl
  have x5 := HS2.out.e.cell 5 rfl
  have x6 := HS2.out.e.cell 6 rfl
  have x7 := HS2.out.e.cell 7 rfl
  have x8 := HS2.out.e.cell 8 rfl
  have x9 := HS2.out.e.cell 9 rfl
  have m6 := HS2.out.rep.m.cell 6 rfl
  have n1 : bm < w.heap.size + 1 + 1 := by have := HS2.out.ltm; omega
  go_wp2_with fail
  obtain ⟨hfi, hrt⟩ := rlost HL.out
  have HRT := hid hrt
  clear hrt
  refine (rfind_any R.tms e.id bm _ _ ((HS2.out.rep.m.alloc _).cell 6 rfl) (Reads.of_owns (HS2.out.rep.tms.alloc _)) hnT).mono ?_
  rintro x w' ⟨rfl, rfl⟩
  rw [hfi]
  clear hfi
  go_wp2_with fail
  refine namedC (W2.alloc (.cells (rtC rt0).toArray 105)) (fun W4 hW4 => ?_)
  have HS4 := hid (show SL B w bm R _ _ w.heap.size e W4 from hW4 ▸ HS2.out.below ((Below.refl _ _).alloc (Nat.le_refl _) _))
  have HC4 := hid (show Blk W4 (w.heap.size + 1) 115 (clC' ⟨cb, true, false, ci, cg, ce⟩) from hW4 ▸ HC2.out.alloc _)
  have HT4 := hid (show Blk W4 (w.heap.size + 1 + 1) 105 (rtC rt0) from hW4 ▸ Blk.newAt _ _ _ hz3)
  clear hW4 hz3 HS2 HC2 m6 n1 c0 c1 c2 c3 c4 c5 c6 c7 c8 c9 c10 c11 c12 c13 c14 x0 x1 x2 x3 x4 x5 x6 x7 x8 x9
  have hwt : RT.wf rt0 := by rw [← HRT.out]; exact HWT.out
  refine (rfirst_any R ⟨cb, true, false, ci, cg, ce⟩ rt0 e bm _ _ W4 (hid HS4.out.rep.m) (hid HS4.out.rep.reads) HN hnT HCB.out.dl HCB.out.per hwt.gen HNOW.out).mono ?_
  rintro x W5 ⟨rfl, hm5, hc5⟩
  obtain ⟨r1, r2, r3, r4, hr⟩ : ∃ r1 r2 r3 r4, rdoes R ⟨cb, true, false, ci, cg, ce⟩ rt0 e = (r1, r2, r3, r4) := ⟨_, _, _, _, rfl⟩
  have E : rfirst R ⟨cb, true, false, ci, cg, ce⟩ rt0 e = (r1, r2, r3, r4) := hr
  rw [E] at hm5 ⊢
  clear E
  dsimp only at hm5 ⊢
  have hrow := rdoes_rows R ⟨cb, true, false, ci, cg, ce⟩ rt0 e
  rw [hr] at hrow
  dsimp only at hrow
  have HS5 := hid (HS4.out.after hm5 hc5 hrow.1 hrow.2)
  have HC5 := hid (HC4.out.chg hc5 (by have := HS4.out.ltm; omega))
  have HT5 := hid (HT4.out.chg hc5 (by have := HS4.out.ltm; omega))
  have HROW := hid hrow
  have HR := hid hr
  clear hm5 hc5 HS4 HC4 HT4 hrow hr hwt
  rename_i hK
  refine hK _ _ ?_
  clear hK
  refine list_take (.tuple #[clV r2, rtV r3, .bool r4]) (by kernel_rfl) (by go_simp) ?_
  simp only [Act.put,nD,nE,nF]
  refine list_take (clV r2) (by kernel_rfl) (by go_simp) ?_
  simp only [Act.put,nD,nE,nF]
  refine list_take (rtV r3) (by kernel_rfl) (by go_simp) ?_
  simp only [Act.put,nD,nE,nF]
  refine list_take (.bool r4) (by kernel_rfl) (by go_simp) ?_
  simp only [Act.put,nD,nE,nF]
  refine HC5.out.listPut (cells := clC' r2) rfl (clC_one r2) (by kernel_rfl) rfl rfl (by kernel_rfl) (by kernel_rfl) ?_
  simp only [Act.put]
  have HT6 := hid (HT5.out.row (b' := w.heap.size + 1) (xs := (clC' r2).toArray) (by omega))
  refine HT6.out.listPut (cells := rtC r3) rfl (rtC_one r3) (by kernel_rfl) rfl rfl (by kernel_rfl) (by kernel_rfl) ?_
  simp only [Act.put]
  refine list_take (.bool r4) (by kernel_rfl) (by go_simp) ?_
  simp only [Act.put,nD,nE,nF]
  have hC6 : Chg (fun k => k = w.heap.size + 1 ∨ k = w.heap.size + 1 + 1) W5 ((W5.setRow (w.heap.size + 1) (clC' r2).toArray).setRow (w.heap.size + 1 + 1) (rtC r3).toArray) := ⟨rfl, rfl, rfl, by simp, fun k _ hk => (setRow_other _ _ _ _ (fun e => hk (.inr e))).trans (setRow_other _ _ _ _ (fun e => hk (.inl e)))⟩
  obtain ⟨W7, hW7⟩ : ∃ W7, W7 = (W5.setRow (w.heap.size + 1) (clC' r2).toArray).setRow (w.heap.size + 1 + 1) (rtC r3).toArray := ⟨_, rfl⟩
  have HS7 := hid (hW7 ▸ HS5.out.fresh hC6 (fun k hk => by rcases hk with rfl | rfl <;> omega) : SL B w bm r1 _ _ w.heap.size e W7)
  have HC7 := hid (hW7 ▸ HC5.out.rowNew.row (by omega) : Blk W7 (w.heap.size + 1) 115 (clC' r2))
  have HT7 := hid (hW7 ▸ HT6.out.rowNew : Blk W7 (w.heap.size + 1 + 1) 105 (rtC r3))
  rw [← hW7]
  clear hW7 hC6 HS5 HC5 HT5 HT6
  unfold wpList
  have HV := hid (show rstep R e = if r4 = true then some { r1 with calls := r1.calls.set i r2, tms := if e.kind == 3 then r1.tms ++ [r3] else if decide (rfindI R.tms e.id ≥ 0) && e.kind != 2 then rset r1.tms e.id r3 else r1.tms } else none by
    rw [rstep_eq, k1, if_neg (by simp), if_neg (by rw [Bool.or_eq_true, decide_eq_true_eq, decide_eq_true_eq]; have := (List.getElem?_eq_some_iff.1 HK.out.1).1; have := HK.out.2; omega), show (e.call - 1).toNat = i by have := HK.out.2; omega, HK.out.1]
    simp only [HRT.out, HR.out, k6, k7, Bool.not_true, Bool.or_self, Bool.false_eq_true, if_false]
    cases r4 <;> rfl)
  cases r4 with
  | false =>
    have hsame : r1 = R := by have := rdoes_false (R := R) (c := ⟨cb, true, false, ci, cg, ce⟩) (t := rt0) (e := e) (by rw [HR.out]); rw [HR.out] at this; exact this
    subst hsame
    go_wp2
    go_ret
    rw [HV.out, if_neg (by simp)]
    exact HS7.out.no
  | true =>
    have HV2 := hid (HV.out.trans (if_pos rfl))
    clear HV
    have hi7 : i < r1.calls.length := by rw [HROW.out.1]; exact (List.getElem?_eq_some_iff.1 HK.out.1).1
    go_wp2
    obtain ⟨g3, cap3, W8, hv, hrun, hc8, hS8⟩ := HS7.out.drew.callSet hi7 r2
    obtain ⟨rfl, hcl, rfl⟩ : g = g3 ∧ R.calls.length = r1.calls.length ∧ cap = cap3 := by simpa using hv
    clear hv
    have hgm : bm ≠ g := fun h => HS7.out.rep.bm_calls (h ▸ rfl)
    have hge : w.heap.size ≠ g := by have := HS7.out.ltc g rfl; omega
    have hgc : w.heap.size + 1 ≠ g := by have := HS7.out.ltc g rfl; omega
    have hgt : w.heap.size + 1 + 1 ≠ g := by have := HS7.out.ltc g rfl; omega
    have m5 : W7.cell? ⟨bm, 5, none⟩ = some (.slice (some ⟨g, 0, none⟩) R.calls.length cap) := HS7.out.rep.m.cell 5 rfl
    have e2 : W7.cell? ⟨w.heap.size, 2, none⟩ = some (.int .i64 ((i : Int) + 1)) := by rw [← HK.out.2]; exact HS7.out.e.cell 2 rfl
    have hwv : IntKind.i64.wrap ((i : Int) + 1 - 1) = (i : Int) := by rw [IntKind.wrap_i64]; omega
    have hwv2 : IntKind.i64.wrap (i : Int) = (i : Int) := by rw [IntKind.wrap_i64]; omega
    have hii : (i : Int) < (R.calls.length : Int) := by omega
    have hS : Chg (· = g) W7 W7.drew := (Chg.refl _ _).drew
    refine wp_region_held_drew (by kernel_rfl) hS (fun _ => ?_)
    simp only [List.size_toArray, List.length_cons, List.length_nil, Nat.reduceAdd, Array.replicate_succ, Array.replicate_zero, List.push_toArray, List.nil_append, List.cons_append]
    refine tk 0 (v := ?_) rfl (by kernel_rfl) hS ?_ ?_
    rotate_left
    · (intro W0 hW; go_simp; try rfl)
    simp only [nA,nC,Act.put,nD,nE,nF]
    refine tk 1 (v := ?_) rfl (by kernel_rfl) hS ?_ ?_
    rotate_left
    · (intro W0 hW; go_simp; try rfl)
    simp only [nA,nB,nC,Act.put,nD,nE,nF]
    refine tk 2 (v := ?_) rfl (by kernel_rfl) hS ?_ ?_
    rotate_left
    · (intro W0 hW; go_simp; try rfl)
    simp only [nA,nB,nC,Act.put,nD,nE,nF]
    refine tk 3 (v := ?_) rfl (by kernel_rfl) hS ?_ ?_
    rotate_left
    · (intro W0 hW; have q := hW.cell hgm m5; go_simp; try rfl)
    simp only [nA,nB,nC,Act.put,nD,nE,nF]
    refine tk 4 (v := ?_) rfl (by kernel_rfl) hS ?_ ?_
    rotate_left
    · (intro W0 hW; go_simp; try rfl)
    simp only [nA,nB,nC,Act.put,nD,nE,nF]
    refine tk 5 (v := ?_) rfl (by kernel_rfl) hS ?_ ?_
    rotate_left
    · (intro W0 hW; have q := hW.cell hge e2; go_simp; try rfl)
    simp only [nA,nB,nC,Act.put,nD,nE,nF]
    refine wpAnyH_take (i := 6) (v := .int .i64 i) rfl (by kernel_rfl) (by kernel_rfl) (by kernel_rfl) (fun _ _ _ h => h) (Or.inl ⟨by kernel_rfl, fun W0 hW => by go_simp⟩) hS ?_
    simp only [nA,nB,nC,Act.put,nD,nE,nF]
    refine wpAnyH_take (i := 7) rfl (by kernel_rfl) (by kernel_rfl) (by kernel_rfl) (fun _ _ _ h => h) (yieldsIf_load_mid (by kernel_rfl) 115 _ rfl (w.heap.size + 1) 0 (by kernel_rfl) (clC' r2) _ (fun _ h => (HC7.out.chg h hgc).range) Try.underlying115 rfl (by kernel_rfl)) hS ?_
    simp only [nA,nB,nC,Act.put,nD,nE,nF]
    refine wpAnyH_take (i := 8) (v := .pointer (some ⟨g, i * 15, none⟩)) rfl (by kernel_rfl) (by kernel_rfl) (by kernel_rfl) (fun _ _ _ h => h) (Or.inl ⟨by kernel_rfl, fun W0 hW => by go_simp⟩) hS ?_
    simp only [nA,nB,nC,Act.put,nD,nE,nF]
    refine wpAnyH_one (k := 9) (by kernel_rfl) rfl (fun K hK => ?_)
    rw [if_pos (by kernel_rfl)]
    refine wp_store_run rfl (by kernel_rfl) (by kernel_rfl) hrun ?_
    refine hK.out _ _ (hS.trans hc8) ?_
    clear hK K
    simp only [nA,nB,nC,Act.put,nD,nE,nF]
    refine wpAnyH_done (by kernel_rfl) ?_ _
    have HS8 := hid hS8
    have HT8 := hid (HT7.out.drew.chg hc8 hgt)
    have HII := hid hi7
    clear hS8 hc8 hrun hS m5 e2 hwv hwv2 hii HS7 HC7 HT7 hi7 hge hgc hgt hgm hcl
    have x0 : W8.cell? ⟨w.heap.size, 0, none⟩ = some (.int .i64 e.kind) := HS8.out.e.cell 0 rfl
    cases k3 : (e.kind == 3) with
    | true =>
      have HV3 := hid (show rstep R e = some { r1 with calls := r1.calls.set i r2, tms := r1.tms ++ [r3] } by rw [HV2.out]; simp only [k3, if_true])
      go_wp2
      obtain ⟨a9, p9, hvt9⟩ := owns_shape HS8.out.rep.tms
      have hvt9 : vt = .slice a9 r1.tms.length p9 := hvt9
      subst hvt9
      obtain ⟨i0, hi0, hz0, hz1, hz2⟩ := info_parts rtm_info
      have hn1 : r1.tms.length ≤ 1000000 := by rw [HROW.out.2]; exact hnT
      obtain ⟨Wx, hWx⟩ : ∃ Wx, Wx = (W8.alloc (.cells (rtC r3).toArray 105)).drew := ⟨_, rfl⟩
      have hX := hWx ▸ HS8.out.below (((Below.refl _ W8).alloc (Nat.le_refl _) (.cells (rtC r3).toArray 105)).drew)
      have htm : Wx.ownsRow B 105 8 (Value.slice a9 r1.tms.length p9) r1.tms.length (r1.tms.flatMap rtC) := hX.rep.tms
      have hnew : ∀ q u, (rtC r3)[q]? = some u → Wx.cell? ((⟨W8.heap.size, 0, none⟩ : Addr).add q) = some u := hWx ▸ cells_new W8 (rtC r3) 105
      obtain ⟨v5, w5, hr5, hown5, hg5, hv5, _⟩ := run_append_own_at (P := Try.prog) Wx B 89 89 105 i0 _ 8 48 Try.underlying89 hi0 hz0 hz1 hz2 rfl (by decide) _ _ _ htm ⟨W8.heap.size, 0, none⟩ 1 1 (rtC r3) rfl hnew (rtC_one r3) (by unfold maxLen; omega) (by omega) hX.rep.lt
      obtain ⟨bo5, cap5, hsh⟩ := owns_shape hown5
      subst hsh
      have hc5 := Chg.of_grown (S := fun k => (Value.slice a9 r1.tms.length p9).ownBlock = some k) hg5 (fun k hk => hk)
      have hM5 := hX.rep.m.chg hc5 hX.rep.bm_tms
      have c6 : w5.cell? ⟨bm, 6, none⟩ = some (Value.slice a9 r1.tms.length p9) := hM5.cell 6 rfl
      have f6 : w5.frozen? ⟨bm, 6, none⟩ = false := hM5.frozen 6
      subst hWx
      have m6 : W8.cell? ⟨bm, 6, none⟩ = some (Value.slice a9 r1.tms.length p9) := HS8.out.rep.m.cell 6 rfl
      have ma : ∀ o, (W8.alloc o).cell? ⟨bm, 6, none⟩ = some (Value.slice a9 r1.tms.length p9) := fun o => (HS8.out.rep.m.alloc o).cell 6 rfl
      have hS : Chg (fun k => k = bm ∨ (Value.slice a9 r1.tms.length p9).ownBlock = some k) W8 W8.drew := (Chg.refl _ _).drew
      have hSa : ∀ o, Chg (fun k => k = bm ∨ (Value.slice a9 r1.tms.length p9).ownBlock = some k) W8 (W8.alloc o).drew := fun o => (Chg.alloc _ _ _).drew
      have hS5 : Chg (fun k => k = bm ∨ (Value.slice a9 r1.tms.length p9).ownBlock = some k) W8 w5 := (hSa _).then hc5 (fun _ _ h => .inr h)
      have hS6 : Chg (fun k => k = bm ∨ (Value.slice a9 r1.tms.length p9).ownBlock = some k) W8 (w5.setCell ⟨bm, 6, none⟩ (.slice bo5 (r1.tms.length + 1) cap5)) := hS5.then (S' := (· = bm)) (Chg.set (S := (· = bm)) w5 ⟨bm, 6, none⟩ (.slice bo5 (r1.tms.length + 1) cap5) rfl) (fun _ _ h => .inl h)
      have HF := hid (show StepEnds B w bm R (rstep R e) (.returned (.bool true)) (w5.setCell ⟨bm, 6, none⟩ (.slice bo5 (r1.tms.length + 1) cap5)) from by
        rw [HV3.out]
        refine ⟨rfl, .slice (some ⟨g, 0, none⟩) R.calls.length cap, .slice bo5 (r1.tms.length + 1) cap5, ⟨HS8.out.rep.base, ?_, ?_, ?_⟩, ?_⟩
        rotate_left
        · exact row_chg HS8.out.rep.calls hS6 (fun q hq h => by rcases h with h | h; exact HS8.out.rep.bm_calls (h ▸ hq); exact row_ne HS8.out.rep.calls HS8.out.rep.tms (by decide) hq h)
        · simpa using row_chg hown5 (Chg.set (S := (· = bm)) w5 ⟨bm, 6, none⟩ (.slice bo5 (r1.tms.length + 1) cap5) rfl) (fun q hq h => (hM5.ne_row hown5 (by decide)) (h ▸ hq))
        · exact HS8.out.bel.trans (hS6.below HS8.out.rep.lt (fun k hk => by rcases hk with rfl | h; exact HS8.out.rep.base; exact (row_lt HS8.out.rep.tms h).1))
        · exact hM5.set 6 (.slice bo5 (r1.tms.length + 1) cap5))
      have hgt : ¬ (w.heap.size + 1 + 1 = bm ∨ (Value.slice a9 r1.tms.length p9).ownBlock = some (w.heap.size + 1 + 1)) := by
        rintro (h | h)
        · have := HS8.out.ltm; omega
        · have := HS8.out.ltt _ h; omega
      clear hX htm hnew hown5 hg5 hv5 hc5 hM5 hi0 hz0 hz1 hz2 hn1
      refine wp_region_held_drew (by kernel_rfl) hS (fun _ => ?_)
      simp only [List.size_toArray, List.length_cons, List.length_nil, Nat.reduceAdd, Array.replicate_succ, Array.replicate_zero, List.push_toArray, List.nil_append, List.cons_append]
      refine tk 0 (v := ?_) rfl (by kernel_rfl) hS ?_ ?_
      rotate_left
      · (intro W0 hW; go_simp; try rfl)
      simp only [nA,nC,Act.put,nD,nE,nF]
      refine tk 1 (v := ?_) rfl (by kernel_rfl) hS ?_ ?_
      rotate_left
      · (intro W0 hW; go_simp; try rfl)
      simp only [nA,nB,nC,Act.put,nD,nE,nF]
      refine tk 2 (v := ?_) rfl (by kernel_rfl) hS ?_ ?_
      rotate_left
      · (intro W0 hW; go_simp; try rfl)
      simp only [nA,nB,nC,Act.put,nD,nE,nF]
      refine tk 3 (v := ?_) rfl (by kernel_rfl) hS ?_ ?_
      rotate_left
      · (intro W0 hW; go_simp; try rfl)
      simp only [nA,nB,nC,Act.put,nD,nE,nF]
      refine wpAnyH_take (i := 5) rfl (by kernel_rfl) (by kernel_rfl) (by kernel_rfl) (fun _ _ _ h => h) (yieldsIf_load_mid (by kernel_rfl) 105 _ rfl (w.heap.size + 1 + 1) 0 (by kernel_rfl) (rtC r3) _ (fun _ h => (HT8.out.chg h hgt).range) Try.underlying105 rfl (by kernel_rfl)) hS ?_
      simp only [nA,nB,nC,Act.put,nD,nE,nF]
      refine held_two (k1 := 4) (k2 := 6) (by kernel_rfl) rfl rfl (fun K hK => ?_) (fun K hK => ?_)
      · go_simp
        refine hK.out _ _ hS ?_
        clear hK K
        simp only [nD,nE,nF]
        refine wpAnyH_one (k := 6) (by kernel_rfl) rfl (fun K hK => ?_)
        skip
        go_simp
        refine hK.out _ _ (hSa _) ?_
        clear hK K
        simp only [Act.put,nD,nE,nF]
        refine wpAnyH_append (k := 7) (by kernel_rfl) rfl rfl rfl (by kernel_rfl) (by kernel_rfl) hr5 hS5 ?_
        simp only [nA,nB,nC,Act.put,nD,nE,nF]
        refine wpAnyH_one (k := 8) (by kernel_rfl) rfl (fun K hK => ?_)
        go_simp
        refine hK.out _ _ hS5 ?_
        clear hK K
        simp only [nD,nE,nF]
        refine wpAnyH_one (k := 9) (by kernel_rfl) rfl (fun K hK => ?_)
        go_simp
        refine hK.out _ _ hS5 ?_
        clear hK K
        simp only [nD,nE,nF]
        refine wpAnyH_one (k := 10) (by kernel_rfl) rfl (fun K hK => ?_)
        go_simp
        refine hK.out _ _ hS6 ?_
        clear hK K
        simp only [nD,nE,nF]
        refine wpAnyH_done (by kernel_rfl) ?_ _
        go_wp2
        go_ret
        exact HF.out
      · simp only [rtC]
        go_simp
        refine hK.out _ _ (hSa _) ?_
        clear hK K
        simp only [nD,nE,nF]
        refine wpAnyH_one (k := 4) (by kernel_rfl) rfl (fun K hK => ?_)
        skip
        go_simp
        refine hK.out _ _ (hSa _) ?_
        clear hK K
        simp only [nD,nE,nF]
        refine wpAnyH_append (k := 7) (by kernel_rfl) rfl rfl rfl (by kernel_rfl) (by kernel_rfl) hr5 hS5 ?_
        simp only [nA,nB,nC,Act.put,nD,nE,nF]
        refine wpAnyH_one (k := 8) (by kernel_rfl) rfl (fun K hK => ?_)
        go_simp
        refine hK.out _ _ hS5 ?_
        clear hK K
        simp only [nD,nE,nF]
        refine wpAnyH_one (k := 9) (by kernel_rfl) rfl (fun K hK => ?_)
        go_simp
        refine hK.out _ _ hS5 ?_
        clear hK K
        simp only [nD,nE,nF]
        refine wpAnyH_one (k := 10) (by kernel_rfl) rfl (fun K hK => ?_)
        go_simp
        refine hK.out _ _ hS6 ?_
        clear hK K
        simp only [nD,nE,nF]
        refine wpAnyH_done (by kernel_rfl) ?_ _
        go_wp2
        go_ret
        exact HF.out
    | false =>
      have HV3 := hid (show rstep R e = some { r1 with calls := r1.calls.set i r2, tms := r1.tms } by rw [HV2.out]; simp only [k3]; rw [if_neg (by simp), if_neg (by have := HL.out; simp; omega)])
      go_wp2
      go_ret
      exact HS8.out.yes HV3.out

end Go.Proofs.Ytpnkkdpggofanaa
