/- order.Respects, by its walk. -/
import Derived.Test.YtpnkkdpggofanaaLine
import Derived.Test.YtpnkkdpggofanaaSerM
namespace Go.Proofs.Ytpnkkdpggofanaa
open Go.RowKit Go.Shelf Go.Sort
attribute [local go_sem] Oper.semAt_some

def rspStep (s : Int × Bool) (o : OpD) : Int × Bool := (max s.1 o.beg, s.2 && !(decide (0 ≤ o.fin) && decide (o.fin < s.1)))
def rsp (ds : List OpD) : Int × Bool := ds.foldl rspStep (-1, true)
theorem rsp_snoc (ds : List OpD) (o : OpD) : rsp (ds ++ [o]) = rspStep (rsp ds) o := by simp [rsp]
theorem rsp_false (ds : List OpD) : ∀ s : Int × Bool, s.2 = false → (ds.foldl rspStep s).2 = false := by
  induction ds with
  | nil => intro s h; exact h
  | cons o ds ih => intro s h; exact ih _ (by simp [rspStep, h])
theorem rsp_prefix {pre ds : List OpD} (h : pre <+: ds) (hf : (rsp pre).2 = false) : (rsp ds).2 = false := by
  obtain ⟨r, rfl⟩ := h
  unfold rsp at *
  rw [List.foldl_append]
  exact rsp_false _ _ hf
theorem load_bool {W : World} {b : Nat} {x : Bool} (h : Boxed W b 4 (.bool x)) : (loadVar 4 ⟨b, 0, none⟩).run Try.prog W = .ok (.bool x) W := by
  have c0 := h.cell
  simp [go_sem, loadVar, c0]

set_option maxRecDepth 100000 in
set_option maxHeartbeats 4000000 in
theorem resp_any (evs : List Ev) (v : Value) (w : World) (hr : Reads w v evs.length (evs.flatMap evC)) (hn : evs.length ≤ 1000000) :
    Calls Try.prog 27 #[v] w fun e w' => e = .returned (.bool (rsp (doneOf evs)).2) ∧ Below w.heap.size w w' := by
  refine (callsIn_wide (n := 9)).1 ?_
  have HRD := hid hr
  obtain ⟨ao, c, rfl, _⟩ := hr.evs
  obtain ⟨w2, hw2⟩ : ∃ w2, w2 = ((w.alloc (.cells #[.bool false] 4)).alloc (.cells #[.int .i64 (-1)] 3)).alloc (.cells #[.slice ao evs.length c] 22) := ⟨_, rfl⟩
  have hs2 : w2.heap.size = w.heap.size + 3 := by rw [hw2]; simp
  have hb2 : Below w.heap.size w w2 := by rw [hw2]; exact ((((Below.refl _ _).alloc (Nat.le_refl _) _).alloc (by simp) _).alloc (by simp; omega) _)
  have bR : Boxed w2 w.heap.size 4 (.bool false) := by rw [hw2]; exact ((Boxed.new w _ _).alloc _).alloc _
  have bM : Boxed w2 (w.heap.size + 1) 3 (.int .i64 (-1)) := by
    have := Boxed.new (w.alloc (.cells #[.bool false] 4)) 3 (.int .i64 (-1))
    rw [World.size_alloc] at this; rw [hw2]; exact this.alloc _
  have bL : Boxed w2 (w.heap.size + 2) 22 (.slice ao evs.length c) := by
    have := Boxed.new ((w.alloc (.cells #[.bool false] 4)).alloc (.cells #[.int .i64 (-1)] 3)) 22 (.slice ao evs.length c)
    rw [hw2]; simpa using this
  have HSEQ := hid (fun n hn' => done_stops n hn' (w.heap.size + 2) (.slice ao evs.length c) evs hn w2 bL.cell (HRD.out.below hb2 (Nat.le_refl _)))
  generalize doneOf evs = ds at *
  have HPRE := hid (fun pre (h : pre <+: ds) => rsp_prefix h)
  have HW := hid hw2
  have HR := hid bR
  have HM := hid bM
  have HB2 := hid hb2
  have HS2 := hid hs2
  clear hw2 bR bM bL hb2 hs2 hr
  refine callsIn_of_wp_marks Try.func27 rfl trivial ?_ rfl
  simp only [Try.ntmps27, List.size_toArray, List.length_cons, List.length_nil, Nat.reduceAdd, Nat.reduceSub, Array.replicate_succ, Array.replicate_zero, List.push_toArray, List.append_toArray, List.nil_append, List.cons_append]
  gi_wp2
  refine ⟨trivial, (callsIn_wide.2 (done_any _ _ _ _)).mono ?_⟩
  rintro e w' ⟨rfl, rfl⟩
  gi_wp2
  rw [← HW.out]
  refine wpIn_rangeFunc_ownH rfl (by omega) (gf := 50) (lb := #[.pointer (some ⟨w.heap.size + 2, 0, none⟩)]) rfl trivial (enters_of Try.func50 (by kernel_rfl) rfl) (HSEQ.out 8 (by omega)) KeepsOps.trans keepsOps_b (Below.refl _ _) (fun _ => rfl)
    (fun pre W => ((Boxed W w.heap.size 4 (.bool false) ∧ Boxed W (w.heap.size + 1) 3 (.int .i64 (rsp pre).1)) ∧ (rsp pre).2 = true) ∧ Below w.heap.size w W)
    (fun c pre W => ((Boxed W w.heap.size 4 (.bool false) ∧ c = .ret) ∧ (rsp pre).2 = false) ∧ Below w.heap.size w W)
    (OwnFrom.and (OwnFrom.and (OwnFrom.and (ownFrom_box _ _ _ (fun _ => .bool false)) (ownFrom_box _ _ _ (fun pre : List OpD => .int .i64 (rsp pre).1))) (ownFrom_pure _ (fun pre : List OpD => (rsp pre).2 = true))) (ownFrom_below (Nat.le_refl _) (by rw [HS2.out]; omega)))
    (fun c => OwnFrom.and (OwnFrom.and (OwnFrom.and (ownFrom_box _ _ _ (fun _ => .bool false)) (ownFrom_pure _ (fun _ => c = .ret))) (ownFrom_pure _ (fun pre : List OpD => (rsp pre).2 = false))) (ownFrom_below (Nat.le_refl _) (by rw [HS2.out]; omega)))
    ⟨⟨⟨HR.out, HM.out⟩, rfl⟩, HB2.out⟩
    (fun x a' W => ∃ Bx, w.heap.size + 1 < Bx ∧ W.heap[Bx]? = some (.cells (opC x).toArray 40 (0, 0)) ∧ a' = { tmps := #[.slice ao evs.length c, undef, .pointer (some ⟨w.heap.size, 0, none⟩), .pointer (some ⟨w.heap.size + 1, 0, none⟩), .pointer (some ⟨Bx, 0, none⟩), .slice ao evs.length c, .func (.func 50) #[] #[.pointer (some ⟨w.heap.size + 2, 0, none⟩)], opV x, undef, undef, undef, undef, undef, undef, undef, undef, undef, undef, undef, undef, undef], defers := [] })
    (fun x a' => ?hax) ?assign ?body ?done ?stop
  case hax =>
    intro _ W W' row ⟨Bx, h1, h2, h3⟩ hg hr
    exact ⟨Bx, h1, ownFrom_block _ Bx _ _ _ () W W' row h2 hg hr, h3⟩
  case assign =>
    rintro l pre x W K ⟨⟨⟨hR, hM⟩, hok⟩, hB⟩ hK
    have hsz := hB.size
    have hml := hM.lt
    simp only [opV] at hK ⊢
    gi_wp2
    exact hK _ _ ((KeepsOthers.alloc _ _).from _) (KeepsOps.of_below ((Below.refl _ _).alloc (Nat.le_refl _) _)) ⟨⟨⟨hR.alloc _, hM.alloc _⟩, hok⟩, hB.alloc hsz _⟩ ⟨W.heap.size, hml, heap_alloc_new W _, rfl⟩
  case body =>
    rintro l pre x a' W hl ⟨r, hr⟩ ⟨⟨⟨hR, hM⟩, hok⟩, hB⟩ ⟨Bx, hBx, hX, rfl⟩ hlt
    have hsz := hB.size
    have hrc := hR.cell
    have hrf := hR.frozen
    have hmc := hM.cell
    have hmf := hM.frozen
    have hXlt : Bx < W.heap.size := (Array.getElem?_eq_some_iff.1 hX).1
    have x3 : W.cell? ⟨Bx, 3, none⟩ = some (.int .i64 x.beg) := by simp [World.cell?, hX, opC]
    have x5 : W.cell? ⟨Bx, 5, none⟩ = some (.int .i64 x.fin) := by simp [World.cell?, hX, opC]
    have HSN := hid (rsp_snoc pre x)
    have HB := hid hB
    have HRB := hid hR
    have HMB := hid hM
    have HOK := hid hok
    clear hX hB hr hR hM
    generalize hm : (rsp pre).1 = m at *
    have hp : rsp pre = (m, true) := Prod.ext hm hok
    have HP := hid hp
    clear hm hp hok
    obtain ⟨no, thr, what, beg, did, fin⟩ := x
    simp only at x3 x5
    have HADV := hid (fun (hs : (rsp (pre ++ [⟨no, thr, what, beg, did, fin⟩])).2 = true) => show (((Boxed (W.setCell ⟨w.heap.size + 1, 0, none⟩ (.int .i64 (max m beg))) w.heap.size 4 (.bool false) ∧ Boxed (W.setCell ⟨w.heap.size + 1, 0, none⟩ (.int .i64 (max m beg))) (w.heap.size + 1) 3 (.int .i64 (rsp (pre ++ [⟨no, thr, what, beg, did, fin⟩])).1)) ∧ (rsp (pre ++ [⟨no, thr, what, beg, did, fin⟩])).2 = true) ∧ Below w.heap.size w (W.setCell ⟨w.heap.size + 1, 0, none⟩ (.int .i64 (max m beg)))) from
      ⟨⟨⟨HRB.out.other (by omega) _, by rw [HSN.out, HP.out]; exact HMB.out.set _⟩, hs⟩, HB.out.setCell (by simp) _⟩)
    have HKO := hid (show KeepsOps W (W.setCell ⟨w.heap.size + 1, 0, none⟩ (.int .i64 (max m beg))) from keepsOps_box HMB.out (by decide))
    have HST := hid (show (rsp (pre ++ [⟨no, thr, what, beg, did, fin⟩])).2 = !(decide (0 ≤ fin) && decide (fin < m)) by rw [HSN.out, HP.out]; simp [rspStep])
    by_cases t1 : 0 ≤ fin
    · by_cases t2 : fin < m
      · have HV := hid (HST.out.trans (show _ = false by simp [t1, t2]))
        have u1 : decide (0 ≤ fin) = true := by simp [t1]
        have u2 : decide (fin < m) = true := by simp [t2]
        clear t1 t2
        gi_wp2
        exact ⟨(KeepsOthers.setCell _ _ _).from _, ⟨⟨HRB.out.set _, rfl⟩, HV.out⟩, HB.out.setCell (Nat.le_refl _) _⟩
      · have HV := hid (HADV.out (HST.out.trans (show _ = true by simp [t2])))
        have u1 : decide (0 ≤ fin) = true := by simp [t1]
        have u2 : decide (fin < m) = false := by simp [t2]
        clear t1 t2
        gi_wp2
        exact ⟨(KeepsOthers.setCell _ _ _).from _, HKO.out, HV.out⟩
    · have HV := hid (HADV.out (HST.out.trans (show _ = true by simp [t1])))
      have u1 : decide (0 ≤ fin) = false := by simp [t1]
      clear t1
      gi_wp2
      exact ⟨(KeepsOthers.setCell _ _ _).from _, HKO.out, HV.out⟩
  case done =>
    rintro D ys W hD rfl ⟨⟨⟨hR, hM⟩, hok⟩, hB⟩ hK
    have hrc := hR.cell
    have hrf := hR.frozen
    have hK2 := (KeepsOthers.setCell W ⟨w.heap.size, 0, none⟩ (.bool true)).same D _ hK rfl
    gi_wp2
    refine ⟨by simp, .inl ⟨_, _, rfl, run_takeDeferred hK2, ?_⟩⟩
    refine ⟨_, results_cell rfl _ _ ⟨w.heap.size, 0, none⟩ (.bool true) rfl (load_bool ((hR.set _).kept (grownBy_putObj' _ D _) (fun e => by cases e; rw [HS2.out] at hD; omega))), by rw [hok], ?_⟩
    exact (hB.setCell (Nat.le_refl _) _).grown (grownBy_putObj' _ D _) (Nat.le_trans hB.size (by simp)) (fun j e => by cases e; rw [HS2.out] at hD; omega)
  case stop =>
    rintro D c pre W hD hpre ⟨⟨⟨hR, rfl⟩, hok⟩, hB⟩ hK
    gi_wp2
    refine ⟨by simp, .inl ⟨_, _, rfl, run_takeDeferred hK, ?_⟩⟩
    refine ⟨_, results_cell rfl _ _ ⟨w.heap.size, 0, none⟩ (.bool false) rfl (load_bool (hR.kept (grownBy_putObj' _ D _) (fun e => by cases e; rw [HS2.out] at hD; omega))), by rw [HPRE.out pre hpre hok], ?_⟩
    exact hB.grown (grownBy_putObj' _ D _) hB.size (fun j e => by cases e; rw [HS2.out] at hD; omega)
end Go.Proofs.Ytpnkkdpggofanaa
