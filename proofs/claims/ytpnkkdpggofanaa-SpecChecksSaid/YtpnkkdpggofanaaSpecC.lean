/- spec: what a change of the machine in memory is to the plain machine. -/
import Derived.Test.YtpnkkdpggofanaaSpecB
import Derived.Test.YtpnkkdpggofanaaOrder
namespace Go.Proofs.Ytpnkkdpggofanaa
open Go.RowKit

theorem fin_ma {G : Gm} {i b : Nat} {c : Cl} (hi : G.cs[i]? = some (b, c)) (id gen err : Int) : ({ G with cs := G.cs.set i (b, { c with done := true, id := id, gen := gen, err := err }) } : Gm).ma = fin G.ma i id gen err := by
  unfold fin Gm.ma
  simp only [Ma.mk.injEq, true_and, and_true]
  exact set_modify hi (fun c => { c with done := true, id := id, gen := gen, err := err })
theorem opn_ma {G : Gm} {i b : Nat} {c : Cl} (hi : G.cs[i]? = some (b, c)) (o : List (Int × Bool)) : ({ G with cs := G.cs.set i (b, { c with opn := false }), opn := o } : Gm).ma = { G.ma with calls := G.ma.calls.modify i fun c => { c with opn := false }, opn := o } := by
  unfold Gm.ma
  simp only [Ma.mk.injEq, true_and, and_true]
  exact set_modify hi (fun c => { c with opn := false })
theorem setLive_ma {G : Gm} {k : Int} {b : Nat} {t : Tm} : ({ G with lv := aput G.lv k (b, t) } : Gm).ma = setLive G.ma k t := by simp [Gm.ma, setLive, aput_map (fun p : Nat × Tm => p.2)]
theorem delLive_ma {G : Gm} {k : Int} : ({ G with lv := adel G.lv k } : Gm).ma = delLive G.ma k := by simp [Gm.ma, delLive, adel_map (fun p : Nat × Tm => p.2)]
theorem lv_none {G : Gm} {k : Int} (h : aget G.lv k = none) : aget G.ma.live k = none := by
  show aget (G.lv.map fun p => (p.1, p.2.2)) k = none
  rw [aget_map (fun p : Nat × Tm => p.2), h]; rfl
theorem lv_some {G : Gm} {k : Int} {b : Nat} {t : Tm} (h : aget G.lv k = some (b, t)) : aget G.ma.live k = some t := by
  show aget (G.lv.map fun p => (p.1, p.2.2)) k = some t
  rw [aget_map (fun p : Nat × Tm => p.2), h]; rfl
theorem lv_len {G : Gm} : G.ma.live.length = G.lv.length := by simp [Gm.ma]
theorem cs_len {G : Gm} : G.ma.calls.length = G.cs.length := by simp [Gm.ma]
theorem Rep.len {B : Nat} {w : World} {bm : Nat} {G : Gm} (h : Rep B w bm G) (ty : TypeId) : (Builtin.len_ #[97] ty #[.map (some G.bl)]).run Try.prog w = .ok (.int .i64 (G.lv.length : Int)) w := by
  obtain ⟨es, cl, hb, hs⟩ := h.live.obj
  rw [← hs]
  simp [Builtin.len_, run_underlying Try.underlying97, run_getObj_map w _ es cl hb]; rfl
theorem add_fits (a b : Int) (w : World) (ha : U64 a) (hb : U64 b) (h : fitsB a b = true) :
    Calls Try.prog 42 #[.int .u64 a, .int .u64 b] w fun e w' => e = .returned (.tuple #[.int .u64 (a + b), .int .i64 0]) ∧ w = w' := by
  have h' : a + b ≤ 18446744073709551615 := by simpa [fitsB] using h
  have := add_any a b w ha.1 ha.2 hb.1 hb.2
  simpa only [addV, addE, if_pos h'] using this
theorem add_not (a b : Int) (w : World) (ha : U64 a) (hb : U64 b) (h : fitsB a b = false) :
    Calls Try.prog 42 #[.int .u64 a, .int .u64 b] w fun e w' => e = .returned (.tuple #[.int .u64 0, .int .i64 9]) ∧ w = w' := by
  have h' : ¬ a + b ≤ 18446744073709551615 := by simpa [fitsB] using h
  have := add_any a b w ha.1 ha.2 hb.1 hb.2
  simpa only [addV, addE, if_neg h'] using this
theorem quiet_of_drew {P : Program} {f : FuncId} {args : Array Value} {w : World} {n : Nat} {v : Value} (h : Calls P f args (w.drewN n) fun e w' => e = .returned v ∧ ∃ m, w' = (w.drewN n).drewN m) :
    Calls P f args (w.drewN n) fun e w'' => e = .returned v ∧ ∃ m, w'' = w.drewN m := h.mono fun _ _ ⟨he, m, hm⟩ => ⟨he, n + m, hm.trans (by simp [World.drewN, Nat.add_assoc])⟩
theorem u64_one : U64 1 := ⟨by decide, by decide⟩
theorem U64.add {a b : Int} (ha : U64 a) (hb : U64 b) (h : fitsB a b = true) : U64 (a + b) := ⟨by have := ha.1; have := hb.1; omega, by simpa [fitsB] using h⟩
theorem adel_aput {κ ν : Type} [DecidableEq κ] (m : List (κ × ν)) (k : κ) (v : ν) (h : aget m k ≠ none) : adel (aput m k v) k = adel m k := by
  induction m with
  | nil => exact absurd rfl h
  | cons p m ih =>
    simp only [aget] at h
    by_cases hk : k = p.1
    · simp [aput, adel, hk]
    · rw [if_neg hk] at h
      simp [aput, adel, hk, ih h]
theorem aget_aput_self {κ ν : Type} [DecidableEq κ] (m : List (κ × ν)) (k : κ) (v : ν) : aget (aput m k v) k = some v := by rw [aget_put, if_pos rfl]
theorem stopsM_some {G : Gm} {k : Int} {b : Nat} {t : Tm} (h : aget G.lv k = some (b, t)) : stopsM G.ma k = (decide (t.per > 0) && !t.last) := by unfold stopsM; rw [lv_some h]
theorem stopsM_none {G : Gm} {k : Int} (h : aget G.lv k = none) : stopsM G.ma k = false := by unfold stopsM; rw [lv_none h]
theorem max_run {P : Program} {ats : Array TypeId} {ty : TypeId} {k : IntKind} (a b : Int) (w : World) : (Builtin.max_ ats ty #[.int k a, .int k b]).run P w = .ok (.int k (max a b)) w := by
  have : (if b > a then b else a) = max a b := by rw [Int.max_def]; split <;> split <;> omega
  simp [Builtin.max_, Builtin.max2, this]
theorem U64.max {a b : Int} (ha : U64 a) (hb : U64 b) : U64 (max a b) := ⟨by have := ha.1; omega, by have := ha.2; have := hb.2; omega⟩
theorem ma_closed {G : Gm} : G.ma.closed = G.closed := rfl
theorem ma_ended {G : Gm} : G.ma.ended = G.ended := rfl
theorem ma_added {G : Gm} : G.ma.added = G.added := rfl
theorem ma_now {G : Gm} : G.ma.now = G.now := rfl
theorem ma_room {G : Gm} : G.ma.room = G.room := rfl
theorem ma_opn {G : Gm} : G.ma.opn = G.opn := rfl
theorem liveP_none {G : Gm} {k : Int} (h : aget G.lv k = none) : liveP G k = .pointer none := by simp [liveP, h]
theorem liveP_some {G : Gm} {k : Int} {b : Nat} {t : Tm} (h : aget G.lv k = some (b, t)) : liveP G k = ptrV b := by simp [liveP, h]
theorem add_ma {G : Gm} {k : Int} {b : Nat} {t : Tm} {a : List (Int × Bool)} : ({ G with added := a, lv := aput G.lv k (b, t) } : Gm).ma = { G.ma with added := a, live := aput G.ma.live k t } := by simp [Gm.ma, aput_map (fun p : Nat × Tm => p.2)]
theorem callp_info : (Try.prog.info? 101).map (fun i => (i.zero, i.size, i.bytes)) = some (some (.pointer none), 1, 8) := by kernel_rfl
/-- A call came: what lies in memory behind the append and the store. -/
theorem Rep.came {B : Nat} {w w5 : World} {bm : Nat} {G : Gm} (h : Rep B w bm G) (hB : B ≤ w.heap.size) {c : Cl} (hw : c.wf) {v : Value} {o2 : Obj}
    (hown : w5.ownsRow B 101 1 v (G.cs.length + 1) ((G.cs.map fun p => ptrV p.1) ++ [ptrV w.heap.size]))
    (hg : ((w.alloc (.cells (clC c).toArray 126)).alloc o2).drew.grownBy w5 G.vc.ownBlock) :
    Rep B (w5.setCell ⟨bm, 5, none⟩ v) bm { G with vc := v, cs := G.cs ++ [(w.heap.size, c)] } ∧ Chg (fun k => k = bm ∨ G.vc.ownBlock = some k) w (w5.setCell ⟨bm, 5, none⟩ v) := by
  generalize hWX : ((w.alloc (.cells (clC c).toArray 126)).alloc o2).drew = WX at hg
  have hX : Rep B WX bm G := hWX ▸ ((h.alloc _).alloc _).drew
  have hN : Blk WX w.heap.size 126 (clC c) := hWX ▸ ((Blk.new w _ (clC c)).alloc o2).drew
  have h1 : Chg (fun k => k = bm ∨ G.vc.ownBlock = some k) w WX := hWX ▸ ((Chg.alloc _ w _).trans (Chg.alloc _ _ _)).drew
  have h2 : Chg (fun k => k = bm ∨ G.vc.ownBlock = some k) WX w5 := Chg.of_grown hg (fun k hk => .inr hk)
  have h2' : Chg (fun k => G.vc.ownBlock = some k) WX w5 := Chg.of_grown hg (fun k hk => hk)
  have hm5 : Blk w5 bm 103 (mC G) := hX.mach.chg h2' (hX.mach.ne_row hX.calls (by decide))
  have hN5 : Blk w5 w.heap.size 126 (clC c) := hN.chg h2' (hN.ne_row hX.calls (by decide))
  have hS : Chg (· = bm) w5 (w5.setCell ⟨bm, 5, none⟩ v) := (Chg.refl (· = bm) w5).sets rfl 5 v
  have h3 : Chg (fun k => k = bm ∨ G.vc.ownBlock = some k) w (w5.setCell ⟨bm, 5, none⟩ v) := (h1.trans h2).trans (hS.mono fun k _ hk => .inl hk)
  refine ⟨h.cpush h3 (fun k _ hk => hk) ?_ ?_ ?_ hB hw (Nat.le_refl _), h3⟩
  · exact hm5.set 5 v
  · exact hS.owns hown (fun k hk e => hm5.ne_row hown (by decide) (e ▸ hk))
  · exact hN5.chg hS (fun e => hN5.ne hm5 (by decide) e)
end Go.Proofs.Ytpnkkdpggofanaa
