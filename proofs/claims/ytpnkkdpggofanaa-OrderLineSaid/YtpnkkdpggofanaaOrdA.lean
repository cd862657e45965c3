/- order.sorted's closures, and cmp.Compare. -/
import Derived.Test.YtpnkkdpggofanaaStabE
import Derived.Deep.Cut
import Derived.Lib.Small
namespace Go.Proofs.Ytpnkkdpggofanaa
open Go.Shelf Go.RowKit Go.Lib Go.Sort Go.Proofs

/-- A call as order.Op tells it. -/
structure OpD where
  no : Int
  thr : Int
  what : Int
  beg : Int
  did : Int
  fin : Int
  deriving Inhabited, DecidableEq
def opC (o : OpD) : List Value := [.int .i64 o.no, .int .i64 o.thr, .int .i64 o.what, .int .i64 o.beg, .int .i64 o.did, .int .i64 o.fin]
theorem opC_len (o : OpD) : (opC o).length = 6 := rfl
theorem opC_one (o : OpD) : ∀ v ∈ opC o, v.oneCell' = true := by
  intro v hv
  simp [opC] at hv
  rcases hv with rfl | rfl | rfl | rfl | rfl | rfl <;> rfl

theorem slay : SLay Try.prog 6 where
  mixed := by kernel_rfl
  f1 := Try.func119
  f2 := Try.func116
  f3 := Try.func108
  f4 := Try.func107
  f5 := Try.func89
  t0 := Try.underlying0
  a0 := Try.isAgg0
  z0 := Try.sizeOf0
  v0 := Try.zeroValue0
  t3 := Try.underlying3
  a3 := Try.isAgg3
  z3 := Try.sizeOf3
  v3 := Try.zeroValue3
  t4 := Try.underlying4
  a4 := Try.isAgg4
  z4 := Try.sizeOf4
  v4 := Try.zeroValue4
  tu := Try.underlying137
  au := Try.isAgg137
  zu := Try.sizeOf137
  vu := Try.zeroValue137
  tS := Try.underlying33
  aS := Try.isAgg33
  zS := Try.sizeOf33
  vS := Try.zeroValue33
  tf := Try.underlying130
  af := Try.isAgg130
  zf := Try.sizeOf130
  vf := Try.zeroValue130
  aE := Try.isAgg40
  zE := Try.sizeOf40

set_option maxHeartbeats 1000000 in
theorem isNaN_any (x : Int) (w : World) : Calls Try.prog 90 #[.int .i64 x] w fun e w' => e = .returned (.bool false) ∧ w' = w := by
  go_enter Try.func90, Try.ntmps90
  go_wp2
  go_ret
  exact ⟨by simp, rfl⟩

set_option maxHeartbeats 1000000 in
theorem compare_any (x y : Int) (w : World) : Calls Try.prog 68 #[.int .i64 x, .int .i64 y] w fun e w' => e = .returned (.int .i64 (Lib.compareInt x y)) ∧ w' = w := by
  go_enter Try.func68, Try.ntmps68
  go_wp2_with (go_at_call 90; refine (isNaN_any _ _).mono ?_; rintro e w' ⟨rfl, hw⟩; rw [hw])
  all_goals (go_ret; refine ⟨?_, rfl⟩; unfold Lib.compareInt; (repeat' split) <;> first | rfl | (exfalso; omega))

set_option maxHeartbeats 1000000 in
theorem did_any (o : OpD) (w : World) : Calls Try.prog 52 #[.agg (opC o).toArray] w fun e w' => e = .returned (.int .i64 o.did) ∧ ∃ x, w' = w.alloc x := by
  show Calls Try.prog 52 #[.agg #[.int .i64 o.no, .int .i64 o.thr, .int .i64 o.what, .int .i64 o.beg, .int .i64 o.did, .int .i64 o.fin]] w _
  go_enter Try.func52, Try.ntmps52
  go_wp2
  go_ret
  exact ⟨rfl, _, rfl⟩

theorem did_grown (o : OpD) (w : World) : Calls Try.prog 52 #[.agg (opC o).toArray] w fun e w' => e = .returned (.int .i64 o.did) ∧ ∃ q os, w' = grow (w.drewN q) os :=
  (did_any o w).mono fun _ _ ⟨he, x, hx⟩ => ⟨he, 0, #[x], by rw [hx, alloc_eq_grow]; rfl⟩
theorem compare_grown (x y : Int) (w : World) : Calls Try.prog 68 #[.int .i64 x, .int .i64 y] w fun e w' => e = .returned (.int .i64 (Lib.compareInt x y)) ∧ ∃ q os, w' = grow (w.drewN q) os :=
  (compare_any x y w).mono fun _ _ ⟨he, hx⟩ => ⟨he, 0, #[], by rw [hx, grow_empty]; rfl⟩

set_option maxHeartbeats 2000000 in
set_option maxRecDepth 1000000 in
theorem cmpDid_any (bb : Nat) (x y : OpD) (w : World) (hb : bb < w.heap.size) (hc : w.cell? ⟨bb, 0, none⟩ = some (.func (.func 52) #[] #[])) :
    Calls Try.prog 67 #[.agg (opC x).toArray, .agg (opC y).toArray, .pointer (some ⟨bb, 0, none⟩)] w fun e w' => e = .returned (.int .i64 (Lib.compareInt x.did y.did)) ∧ ∃ q os, w' = grow (w.drewN q) os := by
  have hx := fun (W : World) => did_grown x W
  have hy := fun (W : World) => did_grown y W
  have hcm := fun (W : World) => compare_grown x.did y.did W
  obtain ⟨x0, x1, x2, x3, x4, x5⟩ := x
  obtain ⟨y0, y1, y2, y3, y4, y5⟩ := y
  simp only [opC] at hx hy hcm ⊢
  have e1 : ∀ args w, (callFunc 52 args).run Try.prog w = .ok (.enter 52 args) w := enters_of Try.func52 (by kernel_rfl) rfl
  have HX := hid (And.intro hx hy)
  clear hx hy
  go_enter Try.func67, Try.ntmps67
  go_wp2_with fail
  obtain ⟨xs, hxs⟩ : ∃ xs : List Value, xs = [.int .i64 x0, .int .i64 x1, .int .i64 x2, .int .i64 x3, .int .i64 x4, .int .i64 x5] := ⟨_, rfl⟩
  obtain ⟨ys, hys⟩ : ∃ ys : List Value, ys = [.int .i64 y0, .int .i64 y1, .int .i64 y2, .int .i64 y3, .int .i64 y4, .int .i64 y5] := ⟨_, rfl⟩
  obtain ⟨W2, hW2⟩ : ∃ W2, W2 = (w.alloc (Obj.cells #[.int .i64 x0, .int .i64 x1, .int .i64 x2, .int .i64 x3, .int .i64 x4, .int .i64 x5] 40)).alloc (Obj.cells #[.int .i64 y0, .int .i64 y1, .int .i64 y2, .int .i64 y3, .int .i64 y4, .int .i64 y5] 40) := ⟨_, rfl⟩
  have hW3 : W2 = (w.alloc (Obj.cells xs.toArray 40)).alloc (Obj.cells ys.toArray 40) := by rw [hW2, hxs, hys]
  obtain ⟨p, hp⟩ : ∃ p, p = w.heap.size := ⟨_, rfl⟩
  have z2 : W2.heap.size = p + 2 := by rw [hW2, hp]; simp
  have c3 : ∀ j u, xs[j]? = some u → W2.cell? ⟨p, j, none⟩ = some u := fun j u hu => by
    have := cell_alloc_keep (Obj.cells ys.toArray 40) (cells_new w xs 40 j u hu)
    rw [← hW3, ← hp, Addr.add_lit, Nat.zero_add] at this; exact this
  have c4 : ∀ j u, ys[j]? = some u → W2.cell? ⟨p + 1, j, none⟩ = some u := fun j u hu => by
    have := cells_new (w.alloc (Obj.cells xs.toArray 40)) ys 40 j u hu
    rw [← hW3, Addr.add_lit, Nat.zero_add, show (w.alloc (Obj.cells xs.toArray 40)).heap.size = p + 1 by rw [hp]; simp] at this; exact this
  have hb2 := cell_alloc_keep (Obj.cells ys.toArray 40) (cell_alloc_keep (Obj.cells xs.toArray 40) hc)
  rw [← hW3] at hb2
  have HW := hid hW2
  rw [← hW2]
  have lb : ∀ n os, (grow (W2.drewN n) os).cell? ⟨bb, 0, none⟩ = some (.func (.func 52) #[] #[]) := cell_grown (show bb < W2.heap.size by omega) hb2
  have l30 : ∀ n os, (grow (W2.drewN n) os).cell? ⟨p, 0, none⟩ = some (.int .i64 x0) := cell_grown (show p < W2.heap.size by omega) (c3 0 _ (by rw [hxs]; rfl))
  have l31 : ∀ n os, (grow (W2.drewN n) os).cell? ⟨p, 1, none⟩ = some (.int .i64 x1) := cell_grown (show p < W2.heap.size by omega) (c3 1 _ (by rw [hxs]; rfl))
  have l32 : ∀ n os, (grow (W2.drewN n) os).cell? ⟨p, 2, none⟩ = some (.int .i64 x2) := cell_grown (show p < W2.heap.size by omega) (c3 2 _ (by rw [hxs]; rfl))
  have l33 : ∀ n os, (grow (W2.drewN n) os).cell? ⟨p, 3, none⟩ = some (.int .i64 x3) := cell_grown (show p < W2.heap.size by omega) (c3 3 _ (by rw [hxs]; rfl))
  have l34 : ∀ n os, (grow (W2.drewN n) os).cell? ⟨p, 4, none⟩ = some (.int .i64 x4) := cell_grown (show p < W2.heap.size by omega) (c3 4 _ (by rw [hxs]; rfl))
  have l35 : ∀ n os, (grow (W2.drewN n) os).cell? ⟨p, 5, none⟩ = some (.int .i64 x5) := cell_grown (show p < W2.heap.size by omega) (c3 5 _ (by rw [hxs]; rfl))
  have l40 : ∀ n os, (grow (W2.drewN n) os).cell? ⟨p + 1, 0, none⟩ = some (.int .i64 y0) := cell_grown (show p + 1 < W2.heap.size by omega) (c4 0 _ (by rw [hys]; rfl))
  have l41 : ∀ n os, (grow (W2.drewN n) os).cell? ⟨p + 1, 1, none⟩ = some (.int .i64 y1) := cell_grown (show p + 1 < W2.heap.size by omega) (c4 1 _ (by rw [hys]; rfl))
  have l42 : ∀ n os, (grow (W2.drewN n) os).cell? ⟨p + 1, 2, none⟩ = some (.int .i64 y2) := cell_grown (show p + 1 < W2.heap.size by omega) (c4 2 _ (by rw [hys]; rfl))
  have l43 : ∀ n os, (grow (W2.drewN n) os).cell? ⟨p + 1, 3, none⟩ = some (.int .i64 y3) := cell_grown (show p + 1 < W2.heap.size by omega) (c4 3 _ (by rw [hys]; rfl))
  have l44 : ∀ n os, (grow (W2.drewN n) os).cell? ⟨p + 1, 4, none⟩ = some (.int .i64 y4) := cell_grown (show p + 1 < W2.heap.size by omega) (c4 4 _ (by rw [hys]; rfl))
  have l45 : ∀ n os, (grow (W2.drewN n) os).cell? ⟨p + 1, 5, none⟩ = some (.int .i64 y5) := cell_grown (show p + 1 < W2.heap.size by omega) (c4 5 _ (by rw [hys]; rfl))
  rw [← hp]
  clear hW2 hW3 hp z2 c3 c4 hb2 hc hb hxs hys
  have mixed := slay.mixed
  go_quiet_grown (first
    | ((first | go_at_call 52 | go_at_fn 52); first | (refine Calls.grown_of (HX.out.1 _)) | (refine Calls.grown_of (HX.out.2 _)))
    | (go_at_call 68; refine Calls.grown_of (hcm _)))
  go_wp2
  go_ret
  refine ⟨rfl, ?_⟩
  rw [HW.out, alloc_eq_grow, alloc_eq_grow, grow_grow]
  exact ⟨nq, _, by show grow (grow (w.drewN nq) _) osq = _; rw [grow_grow]⟩

def cmpD (x y : OpD) : Int := Lib.compareInt x.did y.did
theorem cmpLays_did (bb blk off size : Nat) (w : World) (hne : bb ≠ blk) (hb : bb < w.heap.size) (hc : w.cell? ⟨bb, 0, none⟩ = some (.func (.func 52) #[] #[])) :
    CmpLays Try.prog 67 #[.pointer (some ⟨bb, 0, none⟩)] opC 6 cmpD blk off size w := by
  intro m os dk hs x y
  refine cmpDid_any bb x y _ (Nat.lt_of_lt_of_le hb (size_sortWorldK_c opC 6 w blk off m dk os)) ?_
  unfold sortWorldK
  rw [cell?_grow _ _ _ (by rw [size_putRowK]; exact hb), cell?_putRowK_other _ _ _ _ _ _ _ hne]
  exact hc

set_option maxHeartbeats 2000000 in
theorem sortStable_any (blk off cap bb : Nat) (d : Array OpD) (w : World) (hH : HoldsK opC 6 w blk off d) (hblk : blk < w.heap.size) (hsz : d.size < 2305843009213693952)
    (hne : bb ≠ blk) (hb : bb < w.heap.size) (hc : w.cell? ⟨bb, 0, none⟩ = some (.func (.func 52) #[] #[])) :
    Calls Try.prog 66 #[.slice (some ⟨blk, off, none⟩) d.size cap, .func (.func 67) #[] #[.pointer (some ⟨bb, 0, none⟩)]] w fun e w' => e = .returned (.tuple #[]) ∧ SWK opC 6 w blk off (stab (ltOf cmpD) d) w' := by
  have h := stable_any (P := Try.prog) 6 slay opC cmpD 67 #[.pointer (some ⟨bb, 0, none⟩)] blk off cap d d w w
    (enters_of Try.func67 (by kernel_rfl) rfl) (cmpLays_did bb blk off d.size w hne hb hc) ⟨opC_len, opC_one, hH, hblk⟩ rfl (SWK.start hH) hsz
  generalize stab (ltOf cmpD) d = D at h ⊢
  clear hH hc
  go_enter Try.func66, Try.ntmps66
  go_wp2_with fail
  go_at_call 89
  refine h.mono ?_
  rintro e w1 ⟨rfl, S1⟩
  go_wp2
  go_end0
  exact ⟨rfl, S1⟩

set_option maxHeartbeats 2000000 in
theorem insertion_nil (fv : Value) (w : World) : Calls Try.prog 107 #[.slice none 0 0, .int .i64 0, .int .i64 0, fv] w fun e w' => e = .returned (.tuple #[]) ∧ w' = w := by
  go_enter Try.func107, Try.ntmps107
  go_wp2
  go_loopg [8] 1 (fun kx vi wr => vi = .int .i64 1 ∧ wr = w)
  case atStart => exact ⟨rfl, rfl⟩
  case round =>
    obtain ⟨rfl, rfl⟩ := hrel
    go_wp2
    go_end0
    exact ⟨rfl, rfl⟩
set_option maxHeartbeats 2000000 in
theorem stable_nil (fv : Value) (w : World) : Calls Try.prog 89 #[.slice none 0 0, .int .i64 0, fv] w fun e w' => e = .returned (.tuple #[]) ∧ w' = w := by
  go_enter Try.func89, Try.ntmps89
  go_wp2
  go_loopg [7, 8] 1 (fun kx va vb wr => va = .int .i64 0 ∧ vb = .int .i64 20 ∧ wr = w)
  case atStart => exact ⟨rfl, rfl, rfl⟩
  case round =>
    obtain ⟨rfl, rfl, rfl⟩ := hrel
    go_wp2_with (go_at_call 107; refine (insertion_nil _ _).mono ?_; rintro e w' ⟨rfl, hw⟩; rw [hw])
    go_loopg [6] 1 (fun kx va wr2 => va = .int .i64 20 ∧ wr2 = wr)
    case atStart => exact ⟨rfl, rfl⟩
    case round =>
      obtain ⟨rfl, rfl⟩ := hrel
      go_wp2
      go_end0
      exact ⟨rfl, rfl⟩
set_option maxHeartbeats 2000000 in
theorem sortStable_nil (fv : Value) (w : World) : Calls Try.prog 66 #[.slice none 0 0, fv] w fun e w' => e = .returned (.tuple #[]) ∧ w' = w := by
  go_enter Try.func66, Try.ntmps66
  go_wp2_with (go_at_call 89; refine (stable_nil _ _).mono ?_; rintro e w' ⟨rfl, hw⟩; rw [hw])
  go_end0
  exact ⟨rfl, rfl⟩
end Go.Proofs.Ytpnkkdpggofanaa
