/- order.serial: how it lies in memory; put. order.serial: answer, by its walk. -/
import Derived.Test.YtpnkkdpggofanaaLine
import Derived.Test.YtpnkkdpggofanaaOrder2
import Derived.StillTailTactics
namespace Go.Proofs.Ytpnkkdpggofanaa
open Go.RowKit Go.Shelf Go.Sort

structure SRep (W : World) (B bs mO mN : Nat) (fv ov : Value) (O : List (Int × OpD)) (N : List (Int × Int)) (out : List Ev) : Prop where
  ser : Blk W bs 86 [.map (some mO), .map (some mN), fv, ov]
  ops : MapIs (Value.int .i64) opV W mO O
  no : mII W mN N
  row : W.ownsRow B 31 10 ov out.length (out.flatMap evC)
  ne : mO ≠ mN
  bs_le : B ≤ bs
  mN_le : B ≤ mN

section
variable {W W' : World} {B bs mO mN : Nat} {fv ov : Value} {O : List (Int × OpD)} {N : List (Int × Int)} {out : List Ev}
theorem row_ne_map {κ ν : Type} {enc : κ → Value} {encV : ν → Value} {w : World} {b base size n : Nat} {e : TypeId} {v : Value} {xs : List Value} {m : List (κ × ν)} (h : w.ownsRow base e size v n xs) (h' : MapIs enc encV w b m) : v.ownBlock ≠ some b := by
  rcases h.2 with ⟨rfl, _⟩ | ⟨g, cap, cur, rfl, _, hb, _⟩
  · intro h; cases h
  · intro e
    simp only [Value.ownBlock, Option.some.injEq] at e
    subst e
    obtain ⟨es, cl, hm, _⟩ := h'.obj
    rw [hb] at hm
    cases hm
theorem SRep.chg {S : Nat → Prop} (h : SRep W B bs mO mN fv ov O N out) (hc : Chg S W W') (h1 : ¬ S bs) (h2 : ¬ S mO) (h3 : ¬ S mN) (h4 : ∀ k, ov.ownBlock = some k → ¬ S k) : SRep W' B bs mO mN fv ov O N out :=
  ⟨h.ser.chg hc h1, h.ops.kept (hc.block _ h.ops.lt h2), h.no.kept (hc.block _ h.no.lt h3), hc.owns h.row h4, h.ne, h.bs_le, h.mN_le⟩
theorem SRep.drew (h : SRep W B bs mO mN fv ov O N out) : SRep W.drew B bs mO mN fv ov O N out := ⟨h.ser, h.ops, h.no, h.row, h.ne, h.bs_le, h.mN_le⟩
theorem SRep.drewN (h : SRep W B bs mO mN fv ov O N out) (n : Nat) : SRep (W.drewN n) B bs mO mN fv ov O N out := ⟨h.ser, h.ops, h.no, h.row, h.ne, h.bs_le, h.mN_le⟩
theorem SRep.alloc (h : SRep W B bs mO mN fv ov O N out) (o : Obj) : SRep (W.alloc o) B bs mO mN fv ov O N out :=
  h.chg (Chg.alloc (fun _ => False) W o) (fun h => h) (fun h => h) (fun h => h) (fun _ _ h => h)
theorem SRep.nset (h : SRep W B bs mO mN fv ov O N out) {N' : List (Int × Int)} (hg : W.grownBy W' (some mN)) (hm : mII W' mN N') : SRep W' B bs mO mN fv ov O N' out := by
  have hc := Chg.of_grown (S := fun j => j = mN) hg (fun k e => by cases e; rfl)
  exact ⟨h.ser.chg hc (h.ser.ne_map h.no), h.ops.kept (hc.block _ h.ops.lt h.ne), hm, hc.owns h.row (fun k e hk => row_ne_map h.row h.no (by rw [e, hk])), h.ne, h.bs_le, h.mN_le⟩
theorem SRep.push (h : SRep W B bs mO mN fv ov O N out) {x : Ev} {v5 : Value} (hg : W.grownBy W' ov.ownBlock) (hown : W'.ownsRow B 31 10 v5 (out.length + 1) (out.flatMap evC ++ evC x)) :
    SRep (W'.setCell ⟨bs, 3, none⟩ v5) B bs mO mN fv v5 O N (out ++ [x]) := by
  have hc := Chg.of_grown (S := fun k => ov.ownBlock = some k) hg (fun k e => e)
  have hs := h.ser.chg hc (h.ser.ne_row h.row (by decide))
  have hne := hs.ne_row hown (by decide)
  have hs2 := hs.set 3 v5
  have hc2 : Chg (fun k => k = bs) W' (W'.setCell ⟨bs, 3, none⟩ v5) := Chg.set _ _ _ rfl
  refine ⟨hs2, ?_, ?_, ?_, h.ne, h.bs_le, h.mN_le⟩
  · have h1 : MapIs (Value.int .i64) opV W' mO O := h.ops.kept (hc.block _ h.ops.lt (row_ne_map h.row h.ops))
    exact h1.kept (hc2.block _ h1.lt (fun e => h.ser.ne_map h.ops e.symm))
  · have h1 : mII W' mN N := h.no.kept (hc.block _ h.no.lt (row_ne_map h.row h.no))
    exact h1.kept (hc2.block _ h1.lt (fun e => h.ser.ne_map h.no e.symm))
  · have := hc2.owns hown (fun k e hk => hne (by rw [e, hk]))
    simpa using this
theorem mII_len (h : mII W mN N) (ty : TypeId) : (Builtin.len_ #[37] ty #[.map (some mN)]).run Try.prog W = .ok (.int .i64 (N.length : Int)) W := by
  obtain ⟨es, cl, hb, hs⟩ := h.obj
  rw [← hs]
  simp [Builtin.len_, run_underlying Try.underlying37, run_getObj_map W _ es cl hb]; rfl
theorem mII_look1 (h : mII W mN N) (c : Int) : (Instr.lookup 37 (.map (some mN)) (.int .i64 c) false).run Try.prog W = .ok (.int .i64 ((aget N c).getD 0)) W := by
  have := h.run_lookup (keyLaw_int Try.underlying3) Try.underlying37 int_zero c false
  rw [this]
  cases aget N c <;> rfl
end

theorem evC_ones (e : Ev) : ∀ u ∈ evC e, u.oneCell' = true := by
  intro u hu
  simp [evC] at hu
  rcases hu with rfl | rfl | rfl | rfl | rfl | rfl | rfl | rfl | rfl | rfl <;> rfl
def putN (N : List (Int × Int)) (e : Ev) : List (Int × Int) := if e.kind = 1 then aput N e.call ((N.length : Int) + 1) else N
def putE (N : List (Int × Int)) (e : Ev) : Ev := { e with call := (aget N e.call).getD 0 }
theorem ev_info' : (Try.prog.info? 31).map (fun i => (i.zero, i.size, i.bytes)) = some (some (evV ⟨0, 0, 0, 0, 0, 0, 0, 0, 0, 0⟩), 10, 80) := by kernel_rfl

set_option maxRecDepth 1000000 in
set_option maxHeartbeats 8000000 in
theorem put_any (W : World) (B bs mO mN : Nat) (fv ov : Value) (O : List (Int × OpD)) (N : List (Int × Int)) (out : List Ev) (e : Ev) (h : SRep W B bs mO mN fv ov O N out) (hN : N.length ≤ 1000000) (ho : out.length ≤ 4000000) :
    Calls Try.prog 54 #[.pointer (some ⟨bs, 0, none⟩), evV e] W fun x W' => x = .returned (.tuple #[]) ∧ Chg (fun k => k = bs ∨ k = mN ∨ ov.ownBlock = some k) W W' ∧
      ∃ ov', (∀ k, ov'.ownBlock = some k → ov.ownBlock = some k ∨ W.heap.size ≤ k) ∧ SRep W' B bs mO mN fv ov' O (putN N e) (out ++ [putE (putN N e) e]) := by
  go_enter Try.func54, Try.ntmps54
  obtain ⟨W1, hW1⟩ : ∃ W1, W1 = W.alloc (.cells (evC e).toArray 31) := ⟨_, rfl⟩
  obtain ⟨be, hbe⟩ : ∃ be, be = W.heap.size := ⟨_, rfl⟩
  have hR := h.alloc (.cells (evC e).toArray 31)
  have hE := Blk.new W 31 (evC e)
  have hC := Chg.alloc (fun k => k = bs ∨ k = mN ∨ ov.ownBlock = some k) W (.cells (evC e).toArray 31)
  rw [← hW1] at hR hE hC
  rw [← hbe] at hE
  have HW1 := hid hW1
  have HBE := hid hbe
  have HR := hid hR
  have HE := hid hE
  have HC := hid hC
  have HNR := hid (show ∀ k, ov.ownBlock = some k → k ≠ be from fun k e => by have := (h.row.lt k e).2; omega)
  have HNEW := hid (show ∀ k, k = be → ¬ (k < W.heap.size) from fun k h => by omega)
  have HP0 := hid (show putN N e = if e.kind = 1 then aput N e.call ((N.length : Int) + 1) else N from rfl)
  generalize putN N e = N1 at *
  clear hW1 hbe hR hE hC h
  have HRS : Hid (∃ W2, SRep W2 B bs mO mN fv ov O N1 out ∧ Blk W2 be 31 (evC e) ∧ Chg (fun k => k = bs ∨ k = mN ∨ ov.ownBlock = some k) W W2 → True) := ⟨W1, fun _ => trivial⟩
  clear HRS
  by_cases hk : e.kind = 1
  · have hk' : (e.kind == 1) = true := by simp [hk]
    have HP := hid (show N1 = aput N e.call ((N.length : Int) + 1) by rw [HP0.out, if_pos hk])
    clear hk HP0
    go_wp2_with fail
    refine Hid.out ?_
    rw [show (#[Value.int IntKind.i64 e.kind, Value.int IntKind.i64 e.thr, Value.int IntKind.i64 e.call, Value.int IntKind.i64 e.what, Value.int IntKind.u64 e.id, Value.int IntKind.u64 e.gen, Value.int IntKind.u64 e.dl, Value.int IntKind.u64 e.per, Value.int IntKind.u64 e.tk, Value.int IntKind.i64 e.err] : Array Value) = (evC e).toArray from rfl, ← HW1.out, ← HBE.out]
    refine hid ?_
    have m_no : W1.cell? ⟨bs, 1, none⟩ = some (.map (some mN)) := HR.out.ser.cell 1 rfl
    have e_call : W1.cell? ⟨be, 2, none⟩ = some (.int .i64 e.call) := HE.out.cell 2 rfl
    have hlen := fun n ty => mII_len (HR.out.no.kept (show (W1.drewN n).heap[mN]? = W1.heap[mN]? from rfl)) ty
    have hlen1 := fun ty => mII_len (HR.out.no.kept (show W1.drew.heap[mN]? = W1.heap[mN]? from rfl)) ty
    have HRD := hid HR.out.drew
    have hwr : IntKind.i64.wrap ((N.length : Int) + 1) = (N.length : Int) + 1 := by rw [IntKind.wrap_i64]; omega
    go_still_tail 12, (by kernel_rfl)
    refine (show wpList _ _ _ _ _ W1.drew from ?_)
    clear hlen hlen1 m_no e_call
    refine wpList_update _ rfl 37 _ _ _ rfl (keyLaw_int Try.underlying3) Try.underlying37 mN N HRD.out.no rfl e.call rfl ((N.length : Int) + 1) rfl ?_
    intro w2 hm2 hg2 hs2
    have HR2 := hid (HRD.out.nset (N' := N1) hg2 (by rw [HP.out]; exact hm2))
    have HC2 := hid ((HC.out.trans (show Chg _ W1 W1.drew from ⟨rfl, rfl, rfl, Nat.le_refl _, fun _ _ _ => rfl⟩)).trans (Chg.of_grown hg2 (fun k e => by cases e; exact .inr (.inl rfl))))
    have HE2 := hid ((show Blk W1.drew be 31 (evC e) from HE.out).chg (Chg.of_grown (S := fun k => k = mN) hg2 (fun k e => by cases e; rfl)) (HE.out.ne_map HR.out.no))
    clear hm2 hg2 hs2
    clear HP HR HE HC HRD
    go_wp2_with fail
    refine Hid.out ?_
    revert HR2 HC2 HE2
    generalize w2 = wx
    intro HR2 HC2 HE2
    refine hid ?_
    have m_no : wx.cell? ⟨bs, 1, none⟩ = some (.map (some mN)) := HR2.out.ser.cell 1 rfl
    have e_call : wx.cell? ⟨be, 2, none⟩ = some (.int .i64 e.call) := HE2.out.cell 2 rfl
    have e_fr : wx.frozen? ⟨be, 2, none⟩ = false := HE2.out.frozen 2
    have hlk := fun n => mII_look1 (HR2.out.drewN n).no e.call
    have hlk1 := mII_look1 HR2.out.drew.no e.call
    go_still_tail 8, (by kernel_rfl)
    go_wp2_with fail
    refine Hid.out ?_
    clear m_no e_call e_fr hlk hlk1
    have hE3 := (HE2.out.set 2 (.int .i64 ((aget N1 e.call).getD 0))).drew
    have hcb : Chg (fun k => k = be) wx (wx.setCell ⟨be, 2, none⟩ (.int .i64 ((aget N1 e.call).getD 0))) := Chg.set _ _ _ rfl
    have hR3 := SRep.drew <| HR2.out.chg hcb (fun h => HE2.out.ne HR2.out.ser (by decide) h.symm) (fun h => HE2.out.ne_map HR2.out.ops h.symm) (fun h => HE2.out.ne_map HR2.out.no h.symm) (fun k e h => HNR.out k e h)
    have hC3 := (HC2.out.then hcb (fun j hj e => absurd hj (HNEW.out j e))).trans (show Chg _ _ (wx.setCell ⟨be, 2, none⟩ (.int .i64 ((aget N1 e.call).getD 0))).drew from ⟨rfl, rfl, rfl, Nat.le_refl _, fun _ _ _ => rfl⟩)
    generalize (wx.setCell ⟨be, 2, none⟩ (.int .i64 ((aget N1 e.call).getD 0))).drew = w3 at *
    clear hcb
    obtain ⟨e1, he1⟩ : ∃ e1, e1 = putE N1 e := ⟨_, rfl⟩
    replace hE3 : Blk w3 be 31 (evC e1) := by rw [he1]; exact hE3
    have HE3 := hid hE3
    have HR3 := hid hR3
    have HC3 := hid hC3
    have HE1 := hid he1
    clear hE3 hR3 hC3 he1 HR2 HE2 HC2
    have e_kind : w3.cell? ⟨be, 0, none⟩ = some (.int .i64 e1.kind) := HE3.out.cell 0 rfl
    have e_thr : w3.cell? ⟨be, 1, none⟩ = some (.int .i64 e1.thr) := HE3.out.cell 1 rfl
    have e_call : w3.cell? ⟨be, 2, none⟩ = some (.int .i64 e1.call) := HE3.out.cell 2 rfl
    have e_what : w3.cell? ⟨be, 3, none⟩ = some (.int .i64 e1.what) := HE3.out.cell 3 rfl
    have e_id : w3.cell? ⟨be, 4, none⟩ = some (.int .u64 e1.id) := HE3.out.cell 4 rfl
    have e_gen : w3.cell? ⟨be, 5, none⟩ = some (.int .u64 e1.gen) := HE3.out.cell 5 rfl
    have e_dl : w3.cell? ⟨be, 6, none⟩ = some (.int .u64 e1.dl) := HE3.out.cell 6 rfl
    have e_per : w3.cell? ⟨be, 7, none⟩ = some (.int .u64 e1.per) := HE3.out.cell 7 rfl
    have e_tk : w3.cell? ⟨be, 8, none⟩ = some (.int .u64 e1.tk) := HE3.out.cell 8 rfl
    have e_err : w3.cell? ⟨be, 9, none⟩ = some (.int .i64 e1.err) := HE3.out.cell 9 rfl
    have m_out : w3.cell? ⟨bs, 3, none⟩ = some ov := HR3.out.ser.cell 3 rfl
    have m_outA : ∀ o, (w3.alloc o).cell? ⟨bs, 3, none⟩ = some ov := fun o => (HR3.out.alloc o).ser.cell 3 rfl
    have hBw : B ≤ w3.heap.size := by have h1 := HR3.out.bs_le; have h2 := HR3.out.ser.lt; omega
    have HX := hid ((HR3.out.alloc (.cells (evC e1).toArray 31)).drew)
    obtain ⟨i0, hi, hz0, hz1, hz2⟩ := info_parts ev_info'
    obtain ⟨v5, w5, hr5, hown5, hg5, _, hv5⟩ := run_append_own_at (P := Try.prog) _ B 22 22 31 i0 _ 10 80 Try.underlying22 hi hz0 hz1 hz2 rfl (by decide) _ _ _ HX.out.row ⟨w3.heap.size, 0, none⟩ 1 1 (evC e1) rfl (fun j u hu => cells_new w3 (evC e1) 31 j u hu) (evC_ones e1) (by unfold maxLen; omega) (by omega) (Nat.le_trans hBw (by show w3.heap.size ≤ (w3.alloc _).heap.size; simp))
    obtain ⟨bo5, cap5, rfl⟩ := owns_shape hown5
    replace hr5 : (Builtin.append_ #[22, 22] 22 #[ov, .slice (some ⟨w3.heap.size, 0, none⟩) 1 1]).run Try.prog (w3.alloc (.cells #[.int .i64 e1.kind, .int .i64 e1.thr, .int .i64 e1.call, .int .i64 e1.what, .int .u64 e1.id, .int .u64 e1.gen, .int .u64 e1.dl, .int .u64 e1.per, .int .u64 e1.tk, .int .i64 e1.err] 31)).drew = .ok (.slice bo5 (out.length + 1) cap5) w5 := hr5
    have HV5 := hid (show ∀ k, (Value.slice bo5 (out.length + 1) cap5).ownBlock = some k → ov.ownBlock = some k ∨ W.heap.size ≤ k from fun k e => by
      rcases hv5 with h | h
      · exact .inl (h ▸ e)
      · rw [h] at e
        have hsz := HC3.out.size
        have : (w3.alloc (.cells (evC e1).toArray 31)).drew.heap.size = w3.heap.size + 1 := by show (w3.alloc _).heap.size = _; simp
        rw [this] at e
        simp only [Option.some.injEq] at e
        exact .inr (by omega))
    clear hv5
    have hc5 := Chg.of_grown (S := fun k => ov.ownBlock = some k) hg5 (fun k e => e)
    have HS5 := hid (HX.out.ser.chg hc5 (HX.out.ser.ne_row HX.out.row (by decide)))
    have HP5 := hid (HX.out.push (x := e1) hg5 hown5)
    have HC5 := hid ((((HC3.out.trans (Chg.alloc _ w3 (.cells (evC e1).toArray 31))).trans (show Chg _ _ (w3.alloc (.cells (evC e1).toArray 31)).drew from ⟨rfl, rfl, rfl, Nat.le_refl _, fun _ _ _ => rfl⟩)).trans (Chg.of_grown (S := fun k => k = bs ∨ k = mN ∨ ov.ownBlock = some k) hg5 (fun k e => .inr (.inr e)))).trans (Chg.set w5 ⟨bs, 3, none⟩ (.slice bo5 (out.length + 1) cap5) (.inl rfl)))
    clear hown5 hg5 hc5 hi hz0 hz1 hz2
    have m_out5 : w5.cell? ⟨bs, 3, none⟩ = some ov := HS5.out.cell 3 rfl
    have f5 := HS5.out.frozen 3
    refine hid ?_
    refine wp_region_any (by kernel_rfl) ?_
    show wpAny _ _ _ _ 11 _ _ w3.drew
    refine wpAny_take (i := 0) (v := .pointer (some ⟨bs, 0, none⟩)) rfl (by kernel_rfl) (by kernel_rfl) (by kernel_rfl) (fun _ _ _ h => h) (Or.inl ⟨by rfl, fun w => by go_simp⟩) ?_
    refine wpAny_take (i := 1) (v := .pointer (some ⟨bs, 0, none⟩)) rfl (by kernel_rfl) (by kernel_rfl) (by kernel_rfl) (fun _ _ _ h => h) (Or.inl ⟨by rfl, fun w => by go_simp⟩) ?_
    refine wpAny_take (i := 2) (v := .pointer (some ⟨bs, 0, none⟩)) rfl (by kernel_rfl) (by kernel_rfl) (by kernel_rfl) (fun _ _ _ h => h) (Or.inl ⟨by rfl, fun w => by go_simp⟩) ?_
    refine wpAny_take (i := 3) (v := .pointer (some ⟨bs, 3, none⟩)) rfl (by kernel_rfl) (by kernel_rfl) (by kernel_rfl) (fun _ _ _ h => h) (Or.inl ⟨by rfl, fun w => by go_simp⟩) ?_
    refine wpAny_two (k1 := 4) (k2 := 5) (by kernel_rfl) rfl rfl (fun K hK => ?_) (fun K hK => ?_)
    · go_simp
      refine hK.out _ _ ?_
      clear hK K
      refine wpAny_step (k := 5) (by kernel_rfl) rfl (fun K hK => ?_)
      go_simp
      refine hK.out _ _ ?_
      clear hK K
      refine wpAny_step (k := 6) (by kernel_rfl) rfl (fun K hK => ?_)
      go_simp
      refine hK.out _ _ ?_
      clear hK K
      refine wpAny_append (k := 7) (by kernel_rfl) rfl rfl rfl rfl rfl hr5 ?_
      refine wpAny_step (k := 8) (by kernel_rfl) rfl (fun K hK => ?_)
      go_simp
      refine hK.out _ _ ?_
      clear hK K
      refine wpAny_step (k := 9) (by kernel_rfl) rfl (fun K hK => ?_)
      go_simp
      refine hK.out _ _ ?_
      clear hK K
      refine wpAny_step (k := 10) (by kernel_rfl) rfl (fun K hK => ?_)
      go_simp
      refine hK.out _ _ ?_
      clear hK K
      refine wpAny_done (by kernel_rfl) ?_ _
      go_wp2
      go_end0
      exact ⟨rfl, HC5.out, _, HV5.out, by rw [← HE1.out]; exact HP5.out⟩
    · go_simp
      refine hK.out _ _ ?_
      clear hK K
      refine wpAny_two (k1 := 4) (k2 := 6) (by kernel_rfl) rfl rfl (fun K hK => ?_) (fun K hK => ?_)
      · go_simp
        refine hK.out _ _ ?_
        clear hK K
        refine wpAny_step (k := 6) (by kernel_rfl) rfl (fun K hK => ?_)
        go_simp
        refine hK.out _ _ ?_
        clear hK K
        refine wpAny_append (k := 7) (by kernel_rfl) rfl rfl rfl rfl rfl hr5 ?_
        refine wpAny_step (k := 8) (by kernel_rfl) rfl (fun K hK => ?_)
        go_simp
        refine hK.out _ _ ?_
        clear hK K
        refine wpAny_step (k := 9) (by kernel_rfl) rfl (fun K hK => ?_)
        go_simp
        refine hK.out _ _ ?_
        clear hK K
        refine wpAny_step (k := 10) (by kernel_rfl) rfl (fun K hK => ?_)
        go_simp
        refine hK.out _ _ ?_
        clear hK K
        refine wpAny_done (by kernel_rfl) ?_ _
        go_wp2
        go_end0
        exact ⟨rfl, HC5.out, _, HV5.out, by rw [← HE1.out]; exact HP5.out⟩
      · go_simp
        refine hK.out _ _ ?_
        clear hK K
        refine wpAny_step (k := 4) (by kernel_rfl) rfl (fun K hK => ?_)
        go_simp
        refine hK.out _ _ ?_
        clear hK K
        refine wpAny_append (k := 7) (by kernel_rfl) rfl rfl rfl rfl rfl hr5 ?_
        refine wpAny_step (k := 8) (by kernel_rfl) rfl (fun K hK => ?_)
        go_simp
        refine hK.out _ _ ?_
        clear hK K
        refine wpAny_step (k := 9) (by kernel_rfl) rfl (fun K hK => ?_)
        go_simp
        refine hK.out _ _ ?_
        clear hK K
        refine wpAny_step (k := 10) (by kernel_rfl) rfl (fun K hK => ?_)
        go_simp
        refine hK.out _ _ ?_
        clear hK K
        refine wpAny_done (by kernel_rfl) ?_ _
        go_wp2
        go_end0
        exact ⟨rfl, HC5.out, _, HV5.out, by rw [← HE1.out]; exact HP5.out⟩
  · have hk' : (e.kind == 1) = false := by simp [hk]
    have HP := hid (show N1 = N by rw [HP0.out, if_neg hk])
    clear hk HP0
    go_wp2_with fail
    refine Hid.out ?_
    rw [show (#[Value.int IntKind.i64 e.kind, Value.int IntKind.i64 e.thr, Value.int IntKind.i64 e.call, Value.int IntKind.i64 e.what, Value.int IntKind.u64 e.id, Value.int IntKind.u64 e.gen, Value.int IntKind.u64 e.dl, Value.int IntKind.u64 e.per, Value.int IntKind.u64 e.tk, Value.int IntKind.i64 e.err] : Array Value) = (evC e).toArray from rfl, ← HW1.out, ← HBE.out]
    have HR2 := hid (show SRep W1 B bs mO mN fv ov O N1 out by rw [HP.out]; exact HR.out)
    have HC2 := hid HC.out
    have HE2 := hid HE.out
    clear HP HR HE HC HW1
    generalize W1 = wx at *
    refine hid ?_
    have m_no : wx.cell? ⟨bs, 1, none⟩ = some (.map (some mN)) := HR2.out.ser.cell 1 rfl
    have e_call : wx.cell? ⟨be, 2, none⟩ = some (.int .i64 e.call) := HE2.out.cell 2 rfl
    have e_fr : wx.frozen? ⟨be, 2, none⟩ = false := HE2.out.frozen 2
    have hlk := fun n => mII_look1 (HR2.out.drewN n).no e.call
    have hlk1 := mII_look1 HR2.out.drew.no e.call
    go_still_tail 8, (by kernel_rfl)
    go_wp2_with fail
    refine Hid.out ?_
    clear m_no e_call e_fr hlk hlk1
    have hE3 := (HE2.out.set 2 (.int .i64 ((aget N1 e.call).getD 0))).drew
    have hcb : Chg (fun k => k = be) wx (wx.setCell ⟨be, 2, none⟩ (.int .i64 ((aget N1 e.call).getD 0))) := Chg.set _ _ _ rfl
    have hR3 := SRep.drew <| HR2.out.chg hcb (fun h => HE2.out.ne HR2.out.ser (by decide) h.symm) (fun h => HE2.out.ne_map HR2.out.ops h.symm) (fun h => HE2.out.ne_map HR2.out.no h.symm) (fun k e h => HNR.out k e h)
    have hC3 := (HC2.out.then hcb (fun j hj e => absurd hj (HNEW.out j e))).trans (show Chg _ _ (wx.setCell ⟨be, 2, none⟩ (.int .i64 ((aget N1 e.call).getD 0))).drew from ⟨rfl, rfl, rfl, Nat.le_refl _, fun _ _ _ => rfl⟩)
    generalize (wx.setCell ⟨be, 2, none⟩ (.int .i64 ((aget N1 e.call).getD 0))).drew = w3 at *
    clear hcb
    obtain ⟨e1, he1⟩ : ∃ e1, e1 = putE N1 e := ⟨_, rfl⟩
    replace hE3 : Blk w3 be 31 (evC e1) := by rw [he1]; exact hE3
    have HE3 := hid hE3
    have HR3 := hid hR3
    have HC3 := hid hC3
    have HE1 := hid he1
    clear hE3 hR3 hC3 he1 HR2 HE2 HC2
    have e_kind : w3.cell? ⟨be, 0, none⟩ = some (.int .i64 e1.kind) := HE3.out.cell 0 rfl
    have e_thr : w3.cell? ⟨be, 1, none⟩ = some (.int .i64 e1.thr) := HE3.out.cell 1 rfl
    have e_call : w3.cell? ⟨be, 2, none⟩ = some (.int .i64 e1.call) := HE3.out.cell 2 rfl
    have e_what : w3.cell? ⟨be, 3, none⟩ = some (.int .i64 e1.what) := HE3.out.cell 3 rfl
    have e_id : w3.cell? ⟨be, 4, none⟩ = some (.int .u64 e1.id) := HE3.out.cell 4 rfl
    have e_gen : w3.cell? ⟨be, 5, none⟩ = some (.int .u64 e1.gen) := HE3.out.cell 5 rfl
    have e_dl : w3.cell? ⟨be, 6, none⟩ = some (.int .u64 e1.dl) := HE3.out.cell 6 rfl
    have e_per : w3.cell? ⟨be, 7, none⟩ = some (.int .u64 e1.per) := HE3.out.cell 7 rfl
    have e_tk : w3.cell? ⟨be, 8, none⟩ = some (.int .u64 e1.tk) := HE3.out.cell 8 rfl
    have e_err : w3.cell? ⟨be, 9, none⟩ = some (.int .i64 e1.err) := HE3.out.cell 9 rfl
    have m_out : w3.cell? ⟨bs, 3, none⟩ = some ov := HR3.out.ser.cell 3 rfl
    have m_outA : ∀ o, (w3.alloc o).cell? ⟨bs, 3, none⟩ = some ov := fun o => (HR3.out.alloc o).ser.cell 3 rfl
    have hBw : B ≤ w3.heap.size := by have h1 := HR3.out.bs_le; have h2 := HR3.out.ser.lt; omega
    have HX := hid ((HR3.out.alloc (.cells (evC e1).toArray 31)).drew)
    obtain ⟨i0, hi, hz0, hz1, hz2⟩ := info_parts ev_info'
    obtain ⟨v5, w5, hr5, hown5, hg5, _, hv5⟩ := run_append_own_at (P := Try.prog) _ B 22 22 31 i0 _ 10 80 Try.underlying22 hi hz0 hz1 hz2 rfl (by decide) _ _ _ HX.out.row ⟨w3.heap.size, 0, none⟩ 1 1 (evC e1) rfl (fun j u hu => cells_new w3 (evC e1) 31 j u hu) (evC_ones e1) (by unfold maxLen; omega) (by omega) (Nat.le_trans hBw (by show w3.heap.size ≤ (w3.alloc _).heap.size; simp))
    obtain ⟨bo5, cap5, rfl⟩ := owns_shape hown5
    replace hr5 : (Builtin.append_ #[22, 22] 22 #[ov, .slice (some ⟨w3.heap.size, 0, none⟩) 1 1]).run Try.prog (w3.alloc (.cells #[.int .i64 e1.kind, .int .i64 e1.thr, .int .i64 e1.call, .int .i64 e1.what, .int .u64 e1.id, .int .u64 e1.gen, .int .u64 e1.dl, .int .u64 e1.per, .int .u64 e1.tk, .int .i64 e1.err] 31)).drew = .ok (.slice bo5 (out.length + 1) cap5) w5 := hr5
    have HV5 := hid (show ∀ k, (Value.slice bo5 (out.length + 1) cap5).ownBlock = some k → ov.ownBlock = some k ∨ W.heap.size ≤ k from fun k e => by
      rcases hv5 with h | h
      · exact .inl (h ▸ e)
      · rw [h] at e
        have hsz := HC3.out.size
        have : (w3.alloc (.cells (evC e1).toArray 31)).drew.heap.size = w3.heap.size + 1 := by show (w3.alloc _).heap.size = _; simp
        rw [this] at e
        simp only [Option.some.injEq] at e
        exact .inr (by omega))
    clear hv5
    have hc5 := Chg.of_grown (S := fun k => ov.ownBlock = some k) hg5 (fun k e => e)
    have HS5 := hid (HX.out.ser.chg hc5 (HX.out.ser.ne_row HX.out.row (by decide)))
    have HP5 := hid (HX.out.push (x := e1) hg5 hown5)
    have HC5 := hid ((((HC3.out.trans (Chg.alloc _ w3 (.cells (evC e1).toArray 31))).trans (show Chg _ _ (w3.alloc (.cells (evC e1).toArray 31)).drew from ⟨rfl, rfl, rfl, Nat.le_refl _, fun _ _ _ => rfl⟩)).trans (Chg.of_grown (S := fun k => k = bs ∨ k = mN ∨ ov.ownBlock = some k) hg5 (fun k e => .inr (.inr e)))).trans (Chg.set w5 ⟨bs, 3, none⟩ (.slice bo5 (out.length + 1) cap5) (.inl rfl)))
    clear hown5 hg5 hc5 hi hz0 hz1 hz2
    have m_out5 : w5.cell? ⟨bs, 3, none⟩ = some ov := HS5.out.cell 3 rfl
    have f5 := HS5.out.frozen 3
    refine hid ?_
    refine wp_region_any (by kernel_rfl) ?_
    show wpAny _ _ _ _ 11 _ _ w3.drew
    refine wpAny_take (i := 0) (v := .pointer (some ⟨bs, 0, none⟩)) rfl (by kernel_rfl) (by kernel_rfl) (by kernel_rfl) (fun _ _ _ h => h) (Or.inl ⟨by rfl, fun w => by go_simp⟩) ?_
    refine wpAny_take (i := 1) (v := .pointer (some ⟨bs, 0, none⟩)) rfl (by kernel_rfl) (by kernel_rfl) (by kernel_rfl) (fun _ _ _ h => h) (Or.inl ⟨by rfl, fun w => by go_simp⟩) ?_
    refine wpAny_take (i := 2) (v := .pointer (some ⟨bs, 0, none⟩)) rfl (by kernel_rfl) (by kernel_rfl) (by kernel_rfl) (fun _ _ _ h => h) (Or.inl ⟨by rfl, fun w => by go_simp⟩) ?_
    refine wpAny_take (i := 3) (v := .pointer (some ⟨bs, 3, none⟩)) rfl (by kernel_rfl) (by kernel_rfl) (by kernel_rfl) (fun _ _ _ h => h) (Or.inl ⟨by rfl, fun w => by go_simp⟩) ?_
    refine wpAny_two (k1 := 4) (k2 := 5) (by kernel_rfl) rfl rfl (fun K hK => ?_) (fun K hK => ?_)
    · go_simp
      refine hK.out _ _ ?_
      clear hK K
      refine wpAny_step (k := 5) (by kernel_rfl) rfl (fun K hK => ?_)
      go_simp
      refine hK.out _ _ ?_
      clear hK K
      refine wpAny_step (k := 6) (by kernel_rfl) rfl (fun K hK => ?_)
      go_simp
      refine hK.out _ _ ?_
      clear hK K
      refine wpAny_append (k := 7) (by kernel_rfl) rfl rfl rfl rfl rfl hr5 ?_
      refine wpAny_step (k := 8) (by kernel_rfl) rfl (fun K hK => ?_)
      go_simp
      refine hK.out _ _ ?_
      clear hK K
      refine wpAny_step (k := 9) (by kernel_rfl) rfl (fun K hK => ?_)
      go_simp
      refine hK.out _ _ ?_
      clear hK K
      refine wpAny_step (k := 10) (by kernel_rfl) rfl (fun K hK => ?_)
      go_simp
      refine hK.out _ _ ?_
      clear hK K
      refine wpAny_done (by kernel_rfl) ?_ _
      go_wp2
      go_end0
      exact ⟨rfl, HC5.out, _, HV5.out, by rw [← HE1.out]; exact HP5.out⟩
    · go_simp
      refine hK.out _ _ ?_
      clear hK K
      refine wpAny_two (k1 := 4) (k2 := 6) (by kernel_rfl) rfl rfl (fun K hK => ?_) (fun K hK => ?_)
      · go_simp
        refine hK.out _ _ ?_
        clear hK K
        refine wpAny_step (k := 6) (by kernel_rfl) rfl (fun K hK => ?_)
        go_simp
        refine hK.out _ _ ?_
        clear hK K
        refine wpAny_append (k := 7) (by kernel_rfl) rfl rfl rfl rfl rfl hr5 ?_
        refine wpAny_step (k := 8) (by kernel_rfl) rfl (fun K hK => ?_)
        go_simp
        refine hK.out _ _ ?_
        clear hK K
        refine wpAny_step (k := 9) (by kernel_rfl) rfl (fun K hK => ?_)
        go_simp
        refine hK.out _ _ ?_
        clear hK K
        refine wpAny_step (k := 10) (by kernel_rfl) rfl (fun K hK => ?_)
        go_simp
        refine hK.out _ _ ?_
        clear hK K
        refine wpAny_done (by kernel_rfl) ?_ _
        go_wp2
        go_end0
        exact ⟨rfl, HC5.out, _, HV5.out, by rw [← HE1.out]; exact HP5.out⟩
      · go_simp
        refine hK.out _ _ ?_
        clear hK K
        refine wpAny_step (k := 4) (by kernel_rfl) rfl (fun K hK => ?_)
        go_simp
        refine hK.out _ _ ?_
        clear hK K
        refine wpAny_append (k := 7) (by kernel_rfl) rfl rfl rfl rfl rfl hr5 ?_
        refine wpAny_step (k := 8) (by kernel_rfl) rfl (fun K hK => ?_)
        go_simp
        refine hK.out _ _ ?_
        clear hK K
        refine wpAny_step (k := 9) (by kernel_rfl) rfl (fun K hK => ?_)
        go_simp
        refine hK.out _ _ ?_
        clear hK K
        refine wpAny_step (k := 10) (by kernel_rfl) rfl (fun K hK => ?_)
        go_simp
        refine hK.out _ _ ?_
        clear hK K
        refine wpAny_done (by kernel_rfl) ?_ _
        go_wp2
        go_end0
        exact ⟨rfl, HC5.out, _, HV5.out, by rw [← HE1.out]; exact HP5.out⟩
end Go.Proofs.Ytpnkkdpggofanaa

namespace Go.Proofs.Ytpnkkdpggofanaa
open Go.RowKit Go.Shelf Go.Sort

def evZ : Ev := ⟨0, 0, 0, 0, 0, 0, 0, 0, 0, 0⟩
/-- The event with which a call ends. -/
def ansE (l : List Ev) (o : OpD) (e : Ev) : Ev :=
  if 0 ≤ o.fin then (l[o.fin.toNat]?).getD evZ else if e.kind = 9 then ⟨2, o.thr, o.no, o.what, 0, 0, 0, 0, 0, e.err⟩ else ⟨2, o.thr, o.no, o.what, e.id, e.gen, 0, 0, 0, 0⟩

theorem results_cell {P : Program} {fn : Func} {t : Tmp} {ty : TypeId} (h : fn.results = #[.cell t ty]) (tmps : Array Value) (w : World) (ad : Addr) (v : Value) (ha : tmps.getD t undef = .pointer (some ad)) (hl : (loadVar ty ad).run P w = .ok v w) :
    (results fn tmps).run P w = .ok v w := by
  have ha' : tmps[t]?.getD undef = .pointer (some ad) := by simpa using ha
  simp [results, h, ha', asAddr, hl]
theorem load_ev (W : World) (b : Nat) (x : Ev) (h : Blk W b 31 (evC x)) : (loadVar 31 ⟨b, 0, none⟩).run Try.prog W = .ok (evV x) W := by
  have c0 := h.cell 0 rfl
  have c1 := h.cell 1 rfl
  have c2 := h.cell 2 rfl
  have c3 := h.cell 3 rfl
  have c4 := h.cell 4 rfl
  have c5 := h.cell 5 rfl
  have c6 := h.cell 6 rfl
  have c7 := h.cell 7 rfl
  have c8 := h.cell 8 rfl
  have c9 := h.cell 9 rfl
  clear h
  go_simp

theorem blk3 (W : World) (o1 o2 : Obj) (x : Ev) : Blk (((W.alloc o1).alloc o2).alloc (.cells (evC x).toArray 31)) (W.heap.size + 1 + 1) 31 (evC x) := by
  have := Blk.new ((W.alloc o1).alloc o2) 31 (evC x)
  rwa [World.size_alloc, World.size_alloc] at this
theorem below3 (W : World) (o1 o2 o3 : Obj) : Below W.heap.size W (((W.alloc o1).alloc o2).alloc o3) := (((Below.refl _ W).alloc (Nat.le_refl _) _).alloc (by simp) _).alloc (by simp; omega) _

set_option maxRecDepth 1000000 in
set_option maxHeartbeats 8000000 in
theorem serAnswer_any (W : World) (B bs mO mN : Nat) (fv ov : Value) (O : List (Int × OpD)) (N : List (Int × Int)) (out : List Ev) (l : List Ev) (o : OpD) (e : Ev) (h : SRep W B bs mO mN fv ov O N out) (hr : Reads W fv l.length (l.flatMap evC)) (hf : o.fin < l.length) (hl : l.length ≤ 1000000) :
    Calls Try.prog 55 #[.pointer (some ⟨bs, 0, none⟩), opV o, evV e] W fun x W' => x = .returned (evV (ansE l o e)) ∧ Below W.heap.size W W' := by
  obtain ⟨ao, c, rfl, g1⟩ := hr.evs
  have HG := hid g1
  obtain ⟨no, thr, what, beg, did, fin⟩ := o
  simp only [opV] at hf ⊢
  obtain ⟨W3, hW3⟩ : ∃ W3, W3 = ((W.alloc (.cells (opC ⟨no, thr, what, beg, did, fin⟩).toArray 40)).alloc (.cells (evC e).toArray 31)).alloc (.cells (evC evZ).toArray 31) := ⟨_, rfl⟩
  have hs3 : W3.heap.size = W.heap.size + 3 := by rw [hW3]; simp
  have hB3 : Below W.heap.size W W3 := by rw [hW3]; exact (((Below.refl _ W).alloc (Nat.le_refl _) _).alloc (by simp) _).alloc (by simp; omega) _
  have hO3 : Blk W3 W.heap.size 40 (opC ⟨no, thr, what, beg, did, fin⟩) := by rw [hW3]; exact ((Blk.new W _ _).alloc _).alloc _
  have hE3 : Blk W3 (W.heap.size + 1) 31 (evC e) := by
    have := (Blk.new (W.alloc (.cells (opC ⟨no, thr, what, beg, did, fin⟩).toArray 40)) 31 (evC e)).alloc (.cells (evC evZ).toArray 31)
    rw [World.size_alloc] at this; rw [hW3]; exact this
  have hZ3 : Blk W3 (W.heap.size + 2) 31 (evC evZ) := by
    have := Blk.new ((W.alloc (.cells (opC ⟨no, thr, what, beg, did, fin⟩).toArray 40)).alloc (.cells (evC e).toArray 31)) 31 (evC evZ)
    rw [World.size_alloc, World.size_alloc] at this; rw [hW3]; exact this
  have hS3 : Blk W3 bs 86 [.map (some mO), .map (some mN), .slice ao l.length c, ov] := h.ser.kept (hB3.block _ h.ser.lt)
  have hW3' : W3 = ((W.alloc (.cells #[.int .i64 no, .int .i64 thr, .int .i64 what, .int .i64 beg, .int .i64 did, .int .i64 fin] 40)).alloc (.cells #[.int .i64 e.kind, .int .i64 e.thr, .int .i64 e.call, .int .i64 e.what, .int .u64 e.id, .int .u64 e.gen, .int .u64 e.dl, .int .u64 e.per, .int .u64 e.tk, .int .i64 e.err] 31)).alloc (.cells #[.int .i64 0, .int .i64 0, .int .i64 0, .int .i64 0, .int .u64 0, .int .u64 0, .int .u64 0, .int .u64 0, .int .u64 0, .int .i64 0] 31) := hW3
  have HW := hid hW3'
  have HS := hid hs3
  have HB3 := hid hB3
  have HO3 := hid hO3
  have HE3 := hid hE3
  have HZ3 := hid hZ3
  have HSE := hid hS3
  clear hW3 hW3' hs3 hB3 hO3 hE3 hZ3 hS3 g1 hr h
  by_cases hp : 0 ≤ fin
  · obtain ⟨q, rfl⟩ : ∃ q : Nat, fin = (q : Int) := ⟨fin.toNat, by omega⟩
    have hql : q < l.length := by omega
    obtain ⟨x, hx⟩ : ∃ x, l[q]? = some x := ⟨_, List.getElem?_eq_getElem hql⟩
    obtain ⟨b, of, hao, hc⟩ := HG.out _ x hx
    obtain rfl := hao
    have HAN := hid (show ansE l ⟨no, thr, what, beg, did, (q : Int)⟩ e = x by unfold ansE; rw [if_pos hp, Int.toNat_natCast, hx]; rfl)
    generalize ansE l ⟨no, thr, what, beg, did, (q : Int)⟩ e = an at *
    have c0 : W3.cell? ⟨b, of + q * 10, none⟩ = some (.int .i64 x.kind) := (HB3.out.cell (World.block_lt_of_cell? _ _ (hc 0 _ rfl))).trans (hc 0 _ rfl)
    have c1 : W3.cell? ⟨b, of + q * 10 + 1, none⟩ = some (.int .i64 x.thr) := (HB3.out.cell (World.block_lt_of_cell? _ _ (hc 1 _ rfl))).trans (hc 1 _ rfl)
    have c2 : W3.cell? ⟨b, of + q * 10 + 2, none⟩ = some (.int .i64 x.call) := (HB3.out.cell (World.block_lt_of_cell? _ _ (hc 2 _ rfl))).trans (hc 2 _ rfl)
    have c3 : W3.cell? ⟨b, of + q * 10 + 3, none⟩ = some (.int .i64 x.what) := (HB3.out.cell (World.block_lt_of_cell? _ _ (hc 3 _ rfl))).trans (hc 3 _ rfl)
    have c4 : W3.cell? ⟨b, of + q * 10 + 4, none⟩ = some (.int .u64 x.id) := (HB3.out.cell (World.block_lt_of_cell? _ _ (hc 4 _ rfl))).trans (hc 4 _ rfl)
    have c5 : W3.cell? ⟨b, of + q * 10 + 5, none⟩ = some (.int .u64 x.gen) := (HB3.out.cell (World.block_lt_of_cell? _ _ (hc 5 _ rfl))).trans (hc 5 _ rfl)
    have c6 : W3.cell? ⟨b, of + q * 10 + 6, none⟩ = some (.int .u64 x.dl) := (HB3.out.cell (World.block_lt_of_cell? _ _ (hc 6 _ rfl))).trans (hc 6 _ rfl)
    have c7 : W3.cell? ⟨b, of + q * 10 + 7, none⟩ = some (.int .u64 x.per) := (HB3.out.cell (World.block_lt_of_cell? _ _ (hc 7 _ rfl))).trans (hc 7 _ rfl)
    have c8 : W3.cell? ⟨b, of + q * 10 + 8, none⟩ = some (.int .u64 x.tk) := (HB3.out.cell (World.block_lt_of_cell? _ _ (hc 8 _ rfl))).trans (hc 8 _ rfl)
    have c9 : W3.cell? ⟨b, of + q * 10 + 9, none⟩ = some (.int .i64 x.err) := (HB3.out.cell (World.block_lt_of_cell? _ _ (hc 9 _ rfl))).trans (hc 9 _ rfl)
    have m_from : W3.cell? ⟨bs, 2, none⟩ = some (.slice (some ⟨b, of, none⟩) l.length c) := HSE.out.cell 2 rfl
    have o_fin : W3.cell? ⟨W.heap.size, 5, none⟩ = some (.int .i64 (q : Int)) := HO3.out.cell 5 rfl
    clear hc hx
    go_enter Try.func55, Try.ntmps55
    go_wp2_with fail
    refine Hid.out ?_
    rw [← HW.out]
    refine hid ?_
    go_still_tail 8, (by kernel_rfl)
    refine (show wpList _ _ _ _ _ W3.drew from ?_)
    rw [HW.out]
    clear c0 c1 c2 c3 c4 c5 c6 c7 c8 c9 m_from o_fin
    go_wp2
    refine bodyPost_ret (results_cell rfl _ _ ⟨W.heap.size + 1 + 1, 0, none⟩ (evV an) rfl (load_ev _ _ an ?_)) rfl ⟨rfl, ?_⟩
    · rw [HAN.out]; exact blk3 W _ _ x
    · exact (below3 W _ _ _).drew
  · have HAN := hid (show ansE l ⟨no, thr, what, beg, did, fin⟩ e = (if e.kind = 9 then ⟨2, thr, no, what, 0, 0, 0, 0, 0, e.err⟩ else ⟨2, thr, no, what, e.id, e.gen, 0, 0, 0, 0⟩) by unfold ansE; rw [if_neg hp])
    generalize ansE l ⟨no, thr, what, beg, did, fin⟩ e = an at *
    by_cases hk : e.kind = 9
    · have hk' : (e.kind == 9) = true := by simp [hk]
      have HA2 := hid (show an = ⟨2, thr, no, what, 0, 0, 0, 0, 0, e.err⟩ by rw [HAN.out, if_pos hk])
      clear hk
      go_enter Try.func55, Try.ntmps55
      go_wp2_with fail
      go_region
      all_goals go_wp2
      refine bodyPost_ret (results_cell rfl _ _ ⟨W.heap.size + 1 + 1, 0, none⟩ (evV an) rfl (load_ev _ _ an ?_)) rfl ⟨rfl, ?_⟩
      · rw [HA2.out]; exact (blk3 W _ _ ⟨2, thr, no, what, 0, 0, 0, 0, 0, e.err⟩).alloc _
      · exact ((below3 W _ _ _).alloc (by simp; omega) _).drew
    · have hk' : (e.kind == 9) = false := by simp [hk]
      have HA2 := hid (show an = ⟨2, thr, no, what, e.id, e.gen, 0, 0, 0, 0⟩ by rw [HAN.out, if_neg hk])
      clear hk
      go_enter Try.func55, Try.ntmps55
      go_wp2
      refine bodyPost_ret (results_cell rfl _ _ ⟨W.heap.size + 1 + 1, 0, none⟩ (evV an) rfl (load_ev _ _ an ?_)) rfl ⟨rfl, ?_⟩
      · rw [HA2.out]; exact (blk3 W _ _ ⟨2, thr, no, what, e.id, e.gen, 0, 0, 0, 0⟩).alloc _
      · exact ((((Below.refl _ W).alloc (Nat.le_refl _) _).alloc (by simp) _).alloc (by simp; omega) _).alloc (by simp; omega) _
end Go.Proofs.Ytpnkkdpggofanaa
