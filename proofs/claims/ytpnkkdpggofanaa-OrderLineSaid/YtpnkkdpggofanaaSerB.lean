/- order.serial: answer, by its walk. -/
import Derived.Test.YtpnkkdpggofanaaSerA
namespace Go.Proofs.Ytpnkkdpggofanaa
open Go.RowKit Go.Shelf Go.Sort

def evZ : Ev := ⟨0, 0, 0, 0, 0, 0, 0, 0, 0, 0⟩
/-- The event with which a call ends. -/
def ansE (l : List Ev) (o : OpD) (e : Ev) : Ev :=
  if 0 ≤ o.fin then (l[o.fin.toNat]?).getD evZ else if e.kind = 9 then ⟨2, o.thr, o.no, o.what, 0, 0, 0, 0, 0, e.err⟩ else ⟨2, o.thr, o.no, o.what, e.id, e.gen, 0, 0, 0, 0⟩

theorem results_cell {P : Program} {fn : Func} {t : Tmp} {ty : TypeId} (h : fn.results = #[.cell t ty]) (tmps : Array Value) (w : World) (ad : Addr) (v : Value) (ha : tmps.getD t undef = .pointer (some ad)) (hl : (loadVar ty ad).run P w = .ok v w) :
    (results fn tmps).run P w = .ok v w := by
  have ha' : tmps[t]?.getD undef = .pointer (some ad) := by simpa using ha
  simp [results, h, ha', asAddr, hl]
theorem load_ev (W : World) (b : Nat) (x : Ev) (h : Blk W b 31 (evC x)) : (loadVar 31 ⟨b, 0, none⟩).run Try.prog W = .ok (evV x) W := by
  have c0 := h.cell 0 rfl
  have c1 := h.cell 1 rfl
  have c2 := h.cell 2 rfl
  have c3 := h.cell 3 rfl
  have c4 := h.cell 4 rfl
  have c5 := h.cell 5 rfl
  have c6 := h.cell 6 rfl
  have c7 := h.cell 7 rfl
  have c8 := h.cell 8 rfl
  have c9 := h.cell 9 rfl
  clear h
  go_simp

theorem blk3 (W : World) (o1 o2 : Obj) (x : Ev) : Blk (((W.alloc o1).alloc o2).alloc (.cells (evC x).toArray 31)) (W.heap.size + 1 + 1) 31 (evC x) := by
  have := Blk.new ((W.alloc o1).alloc o2) 31 (evC x)
  rwa [World.size_alloc, World.size_alloc] at this
theorem below3 (W : World) (o1 o2 o3 : Obj) : Below W.heap.size W (((W.alloc o1).alloc o2).alloc o3) := (((Below.refl _ W).alloc (Nat.le_refl _) _).alloc (by simp) _).alloc (by simp; omega) _

set_option maxRecDepth 1000000 in
set_option maxHeartbeats 8000000 in
theorem serAnswer_any (W : World) (B bs mO mN : Nat) (fv ov : Value) (O : List (Int × OpD)) (N : List (Int × Int)) (out : List Ev) (l : List Ev) (o : OpD) (e : Ev) (h : SRep W B bs mO mN fv ov O N out) (hr : Reads W fv l.length (l.flatMap evC)) (hf : o.fin < l.length) (hl : l.length ≤ 1000000) :
    Calls Try.prog 55 #[.pointer (some ⟨bs, 0, none⟩), opV o, evV e] W fun x W' => x = .returned (evV (ansE l o e)) ∧ Below W.heap.size W W' := by
  obtain ⟨ao, c, rfl, g1⟩ := hr.evs
  have HG := hid g1
  obtain ⟨no, thr, what, beg, did, fin⟩ := o
  simp only [opV] at hf ⊢
  obtain ⟨W3, hW3⟩ : ∃ W3, W3 = ((W.alloc (.cells (opC ⟨no, thr, what, beg, did, fin⟩).toArray 40)).alloc (.cells (evC e).toArray 31)).alloc (.cells (evC evZ).toArray 31) := ⟨_, rfl⟩
  have hs3 : W3.heap.size = W.heap.size + 3 := by rw [hW3]; simp
  have hB3 : Below W.heap.size W W3 := by rw [hW3]; exact (((Below.refl _ W).alloc (Nat.le_refl _) _).alloc (by simp) _).alloc (by simp; omega) _
  have hO3 : Blk W3 W.heap.size 40 (opC ⟨no, thr, what, beg, did, fin⟩) := by rw [hW3]; exact ((Blk.new W _ _).alloc _).alloc _
  have hE3 : Blk W3 (W.heap.size + 1) 31 (evC e) := by
    have := (Blk.new (W.alloc (.cells (opC ⟨no, thr, what, beg, did, fin⟩).toArray 40)) 31 (evC e)).alloc (.cells (evC evZ).toArray 31)
    rw [World.size_alloc] at this; rw [hW3]; exact this
  have hZ3 : Blk W3 (W.heap.size + 2) 31 (evC evZ) := by
    have := Blk.new ((W.alloc (.cells (opC ⟨no, thr, what, beg, did, fin⟩).toArray 40)).alloc (.cells (evC e).toArray 31)) 31 (evC evZ)
    rw [World.size_alloc, World.size_alloc] at this; rw [hW3]; exact this
  have hS3 : Blk W3 bs 86 [.map (some mO), .map (some mN), .slice ao l.length c, ov] := h.ser.kept (hB3.block _ h.ser.lt)
  have hW3' : W3 = ((W.alloc (.cells #[.int .i64 no, .int .i64 thr, .int .i64 what, .int .i64 beg, .int .i64 did, .int .i64 fin] 40)).alloc (.cells #[.int .i64 e.kind, .int .i64 e.thr, .int .i64 e.call, .int .i64 e.what, .int .u64 e.id, .int .u64 e.gen, .int .u64 e.dl, .int .u64 e.per, .int .u64 e.tk, .int .i64 e.err] 31)).alloc (.cells #[.int .i64 0, .int .i64 0, .int .i64 0, .int .i64 0, .int .u64 0, .int .u64 0, .int .u64 0, .int .u64 0, .int .u64 0, .int .i64 0] 31) := hW3
  have HW := hid hW3'
  have HS := hid hs3
  have HB3 := hid hB3
  have HO3 := hid hO3
  have HE3 := hid hE3
  have HZ3 := hid hZ3
  have HSE := hid hS3
  clear hW3 hW3' hs3 hB3 hO3 hE3 hZ3 hS3 g1 hr h
  by_cases hp : 0 ≤ fin
  · obtain ⟨q, rfl⟩ : ∃ q : Nat, fin = (q : Int) := ⟨fin.toNat, by omega⟩
    have hql : q < l.length := by omega
    obtain ⟨x, hx⟩ : ∃ x, l[q]? = some x := ⟨_, List.getElem?_eq_getElem hql⟩
    obtain ⟨b, of, hao, hc⟩ := HG.out _ x hx
    obtain rfl := hao
    have HAN := hid (show ansE l ⟨no, thr, what, beg, did, (q : Int)⟩ e = x by unfold ansE; rw [if_pos hp, Int.toNat_natCast, hx]; rfl)
    generalize ansE l ⟨no, thr, what, beg, did, (q : Int)⟩ e = an at *
    have c0 : W3.cell? ⟨b, of + q * 10, none⟩ = some (.int .i64 x.kind) := (HB3.out.cell (World.block_lt_of_cell? _ _ (hc 0 _ rfl))).trans (hc 0 _ rfl)
    have c1 : W3.cell? ⟨b, of + q * 10 + 1, none⟩ = some (.int .i64 x.thr) := (HB3.out.cell (World.block_lt_of_cell? _ _ (hc 1 _ rfl))).trans (hc 1 _ rfl)
    have c2 : W3.cell? ⟨b, of + q * 10 + 2, none⟩ = some (.int .i64 x.call) := (HB3.out.cell (World.block_lt_of_cell? _ _ (hc 2 _ rfl))).trans (hc 2 _ rfl)
    have c3 : W3.cell? ⟨b, of + q * 10 + 3, none⟩ = some (.int .i64 x.what) := (HB3.out.cell (World.block_lt_of_cell? _ _ (hc 3 _ rfl))).trans (hc 3 _ rfl)
    have c4 : W3.cell? ⟨b, of + q * 10 + 4, none⟩ = some (.int .u64 x.id) := (HB3.out.cell (World.block_lt_of_cell? _ _ (hc 4 _ rfl))).trans (hc 4 _ rfl)
    have c5 : W3.cell? ⟨b, of + q * 10 + 5, none⟩ = some (.int .u64 x.gen) := (HB3.out.cell (World.block_lt_of_cell? _ _ (hc 5 _ rfl))).trans (hc 5 _ rfl)
    have c6 : W3.cell? ⟨b, of + q * 10 + 6, none⟩ = some (.int .u64 x.dl) := (HB3.out.cell (World.block_lt_of_cell? _ _ (hc 6 _ rfl))).trans (hc 6 _ rfl)
    have c7 : W3.cell? ⟨b, of + q * 10 + 7, none⟩ = some (.int .u64 x.per) := (HB3.out.cell (World.block_lt_of_cell? _ _ (hc 7 _ rfl))).trans (hc 7 _ rfl)
    have c8 : W3.cell? ⟨b, of + q * 10 + 8, none⟩ = some (.int .u64 x.tk) := (HB3.out.cell (World.block_lt_of_cell? _ _ (hc 8 _ rfl))).trans (hc 8 _ rfl)
    have c9 : W3.cell? ⟨b, of + q * 10 + 9, none⟩ = some (.int .i64 x.err) := (HB3.out.cell (World.block_lt_of_cell? _ _ (hc 9 _ rfl))).trans (hc 9 _ rfl)
    have m_from : W3.cell? ⟨bs, 2, none⟩ = some (.slice (some ⟨b, of, none⟩) l.length c) := HSE.out.cell 2 rfl
    have o_fin : W3.cell? ⟨W.heap.size, 5, none⟩ = some (.int .i64 (q : Int)) := HO3.out.cell 5 rfl
    clear hc hx
    go_enter Try.func55, Try.ntmps55
    go_wp2_with fail
    refine Hid.out ?_
    rw [← HW.out]
    refine hid ?_
    go_still_tail 8, (by kernel_rfl)
    refine (show wpList _ _ _ _ _ W3.drew from ?_)
    rw [HW.out]
    clear c0 c1 c2 c3 c4 c5 c6 c7 c8 c9 m_from o_fin
    go_wp2
    refine bodyPost_ret (results_cell rfl _ _ ⟨W.heap.size + 1 + 1, 0, none⟩ (evV an) rfl (load_ev _ _ an ?_)) rfl ⟨rfl, ?_⟩
    · rw [HAN.out]; exact blk3 W _ _ x
    · exact (below3 W _ _ _).drew
  · have HAN := hid (show ansE l ⟨no, thr, what, beg, did, fin⟩ e = (if e.kind = 9 then ⟨2, thr, no, what, 0, 0, 0, 0, 0, e.err⟩ else ⟨2, thr, no, what, e.id, e.gen, 0, 0, 0, 0⟩) by unfold ansE; rw [if_neg hp])
    generalize ansE l ⟨no, thr, what, beg, did, fin⟩ e = an at *
    by_cases hk : e.kind = 9
    · have hk' : (e.kind == 9) = true := by simp [hk]
      have HA2 := hid (show an = ⟨2, thr, no, what, 0, 0, 0, 0, 0, e.err⟩ by rw [HAN.out, if_pos hk])
      clear hk
      go_enter Try.func55, Try.ntmps55
      go_wp2_with fail
      go_region
      all_goals go_wp2
      refine bodyPost_ret (results_cell rfl _ _ ⟨W.heap.size + 1 + 1, 0, none⟩ (evV an) rfl (load_ev _ _ an ?_)) rfl ⟨rfl, ?_⟩
      · rw [HA2.out]; exact (blk3 W _ _ ⟨2, thr, no, what, 0, 0, 0, 0, 0, e.err⟩).alloc _
      · exact ((below3 W _ _ _).alloc (by simp; omega) _).drew
    · have hk' : (e.kind == 9) = false := by simp [hk]
      have HA2 := hid (show an = ⟨2, thr, no, what, e.id, e.gen, 0, 0, 0, 0⟩ by rw [HAN.out, if_neg hk])
      clear hk
      go_enter Try.func55, Try.ntmps55
      go_wp2
      refine bodyPost_ret (results_cell rfl _ _ ⟨W.heap.size + 1 + 1, 0, none⟩ (evV an) rfl (load_ev _ _ an ?_)) rfl ⟨rfl, ?_⟩
      · rw [HA2.out]; exact (blk3 W _ _ ⟨2, thr, no, what, e.id, e.gen, 0, 0, 0, 0⟩).alloc _
      · exact ((((Below.refl _ W).alloc (Nat.le_refl _) _).alloc (by simp) _).alloc (by simp; omega) _).alloc (by simp; omega) _
end Go.Proofs.Ytpnkkdpggofanaa
