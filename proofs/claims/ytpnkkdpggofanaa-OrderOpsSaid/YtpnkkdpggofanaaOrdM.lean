/- order.sorted's closures, and cmp.Compare. slices.Clone and order.sorted at []order.Op. order.sorted at []order.Op. -/
import Derived.Test.YtpnkkdpggofanaaStabX
import Derived.Deep.Cut
import Derived.Lib.Small
namespace Go.Proofs.Ytpnkkdpggofanaa
open Go.Shelf Go.RowKit Go.Lib Go.Sort Go.Proofs

/-- A call as order.Op tells it. -/
structure OpD where
  no : Int
  thr : Int
  what : Int
  beg : Int
  did : Int
  fin : Int
  deriving Inhabited, DecidableEq
def opC (o : OpD) : List Value := [.int .i64 o.no, .int .i64 o.thr, .int .i64 o.what, .int .i64 o.beg, .int .i64 o.did, .int .i64 o.fin]
theorem opC_len (o : OpD) : (opC o).length = 6 := rfl
theorem opC_one (o : OpD) : ∀ v ∈ opC o, v.oneCell' = true := by
  intro v hv
  simp [opC] at hv
  rcases hv with rfl | rfl | rfl | rfl | rfl | rfl <;> rfl

theorem slay : SLay Try.prog 6 where
  mixed := by kernel_rfl
  f1 := Try.func119
  f2 := Try.func116
  f3 := Try.func108
  f4 := Try.func107
  f5 := Try.func89
  t0 := Try.underlying0
  a0 := Try.isAgg0
  z0 := Try.sizeOf0
  v0 := Try.zeroValue0
  t3 := Try.underlying3
  a3 := Try.isAgg3
  z3 := Try.sizeOf3
  v3 := Try.zeroValue3
  t4 := Try.underlying4
  a4 := Try.isAgg4
  z4 := Try.sizeOf4
  v4 := Try.zeroValue4
  tu := Try.underlying137
  au := Try.isAgg137
  zu := Try.sizeOf137
  vu := Try.zeroValue137
  tS := Try.underlying33
  aS := Try.isAgg33
  zS := Try.sizeOf33
  vS := Try.zeroValue33
  tf := Try.underlying130
  af := Try.isAgg130
  zf := Try.sizeOf130
  vf := Try.zeroValue130
  aE := Try.isAgg40
  zE := Try.sizeOf40

set_option maxHeartbeats 1000000 in
theorem isNaN_any (x : Int) (w : World) : Calls Try.prog 90 #[.int .i64 x] w fun e w' => e = .returned (.bool false) ∧ w' = w := by
  go_enter Try.func90, Try.ntmps90
  go_wp2
  go_ret
  exact ⟨by simp, rfl⟩

set_option maxHeartbeats 1000000 in
theorem compare_any (x y : Int) (w : World) : Calls Try.prog 68 #[.int .i64 x, .int .i64 y] w fun e w' => e = .returned (.int .i64 (Lib.compareInt x y)) ∧ w' = w := by
  go_enter Try.func68, Try.ntmps68
  go_wp2_with (go_at_call 90; refine (isNaN_any _ _).mono ?_; rintro e w' ⟨rfl, hw⟩; rw [hw])
  all_goals (go_ret; refine ⟨?_, rfl⟩; unfold Lib.compareInt; (repeat' split) <;> first | rfl | (exfalso; omega))

set_option maxHeartbeats 1000000 in
theorem did_any (o : OpD) (w : World) : Calls Try.prog 52 #[.agg (opC o).toArray] w fun e w' => e = .returned (.int .i64 o.did) ∧ ∃ x, w' = w.alloc x := by
  show Calls Try.prog 52 #[.agg #[.int .i64 o.no, .int .i64 o.thr, .int .i64 o.what, .int .i64 o.beg, .int .i64 o.did, .int .i64 o.fin]] w _
  go_enter Try.func52, Try.ntmps52
  go_wp2
  go_ret
  exact ⟨rfl, _, rfl⟩

theorem did_grown (o : OpD) (w : World) : Calls Try.prog 52 #[.agg (opC o).toArray] w fun e w' => e = .returned (.int .i64 o.did) ∧ ∃ q os, w' = grow (w.drewN q) os :=
  (did_any o w).mono fun _ _ ⟨he, x, hx⟩ => ⟨he, 0, #[x], by rw [hx, alloc_eq_grow]; rfl⟩
theorem compare_grown (x y : Int) (w : World) : Calls Try.prog 68 #[.int .i64 x, .int .i64 y] w fun e w' => e = .returned (.int .i64 (Lib.compareInt x y)) ∧ ∃ q os, w' = grow (w.drewN q) os :=
  (compare_any x y w).mono fun _ _ ⟨he, hx⟩ => ⟨he, 0, #[], by rw [hx, grow_empty]; rfl⟩

set_option maxHeartbeats 2000000 in
set_option maxRecDepth 1000000 in
theorem cmpDid_any (bb : Nat) (x y : OpD) (w : World) (hb : bb < w.heap.size) (hc : w.cell? ⟨bb, 0, none⟩ = some (.func (.func 52) #[] #[])) :
    Calls Try.prog 67 #[.agg (opC x).toArray, .agg (opC y).toArray, .pointer (some ⟨bb, 0, none⟩)] w fun e w' => e = .returned (.int .i64 (Lib.compareInt x.did y.did)) ∧ ∃ q os, w' = grow (w.drewN q) os := by
  have hx := fun (W : World) => did_grown x W
  have hy := fun (W : World) => did_grown y W
  have hcm := fun (W : World) => compare_grown x.did y.did W
  obtain ⟨x0, x1, x2, x3, x4, x5⟩ := x
  obtain ⟨y0, y1, y2, y3, y4, y5⟩ := y
  simp only [opC] at hx hy hcm ⊢
  have e1 : ∀ args w, (callFunc 52 args).run Try.prog w = .ok (.enter 52 args) w := enters_of Try.func52 (by kernel_rfl) rfl
  have HX := hid (And.intro hx hy)
  clear hx hy
  go_enter Try.func67, Try.ntmps67
  go_wp2_with fail
  obtain ⟨xs, hxs⟩ : ∃ xs : List Value, xs = [.int .i64 x0, .int .i64 x1, .int .i64 x2, .int .i64 x3, .int .i64 x4, .int .i64 x5] := ⟨_, rfl⟩
  obtain ⟨ys, hys⟩ : ∃ ys : List Value, ys = [.int .i64 y0, .int .i64 y1, .int .i64 y2, .int .i64 y3, .int .i64 y4, .int .i64 y5] := ⟨_, rfl⟩
  obtain ⟨W2, hW2⟩ : ∃ W2, W2 = (w.alloc (Obj.cells #[.int .i64 x0, .int .i64 x1, .int .i64 x2, .int .i64 x3, .int .i64 x4, .int .i64 x5] 40)).alloc (Obj.cells #[.int .i64 y0, .int .i64 y1, .int .i64 y2, .int .i64 y3, .int .i64 y4, .int .i64 y5] 40) := ⟨_, rfl⟩
  have hW3 : W2 = (w.alloc (Obj.cells xs.toArray 40)).alloc (Obj.cells ys.toArray 40) := by rw [hW2, hxs, hys]
  obtain ⟨p, hp⟩ : ∃ p, p = w.heap.size := ⟨_, rfl⟩
  have z2 : W2.heap.size = p + 2 := by rw [hW2, hp]; simp
  have c3 : ∀ j u, xs[j]? = some u → W2.cell? ⟨p, j, none⟩ = some u := fun j u hu => by
    have := cell_alloc_keep (Obj.cells ys.toArray 40) (cells_new w xs 40 j u hu)
    rw [← hW3, ← hp, Addr.add_lit, Nat.zero_add] at this; exact this
  have c4 : ∀ j u, ys[j]? = some u → W2.cell? ⟨p + 1, j, none⟩ = some u := fun j u hu => by
    have := cells_new (w.alloc (Obj.cells xs.toArray 40)) ys 40 j u hu
    rw [← hW3, Addr.add_lit, Nat.zero_add, show (w.alloc (Obj.cells xs.toArray 40)).heap.size = p + 1 by rw [hp]; simp] at this; exact this
  have hb2 := cell_alloc_keep (Obj.cells ys.toArray 40) (cell_alloc_keep (Obj.cells xs.toArray 40) hc)
  rw [← hW3] at hb2
  have HW := hid hW2
  rw [← hW2]
  have lb : ∀ n os, (grow (W2.drewN n) os).cell? ⟨bb, 0, none⟩ = some (.func (.func 52) #[] #[]) := cell_grown (show bb < W2.heap.size by omega) hb2
  have l30 : ∀ n os, (grow (W2.drewN n) os).cell? ⟨p, 0, none⟩ = some (.int .i64 x0) := cell_grown (show p < W2.heap.size by omega) (c3 0 _ (by rw [hxs]; rfl))
  have l31 : ∀ n os, (grow (W2.drewN n) os).cell? ⟨p, 1, none⟩ = some (.int .i64 x1) := cell_grown (show p < W2.heap.size by omega) (c3 1 _ (by rw [hxs]; rfl))
  have l32 : ∀ n os, (grow (W2.drewN n) os).cell? ⟨p, 2, none⟩ = some (.int .i64 x2) := cell_grown (show p < W2.heap.size by omega) (c3 2 _ (by rw [hxs]; rfl))
  have l33 : ∀ n os, (grow (W2.drewN n) os).cell? ⟨p, 3, none⟩ = some (.int .i64 x3) := cell_grown (show p < W2.heap.size by omega) (c3 3 _ (by rw [hxs]; rfl))
  have l34 : ∀ n os, (grow (W2.drewN n) os).cell? ⟨p, 4, none⟩ = some (.int .i64 x4) := cell_grown (show p < W2.heap.size by omega) (c3 4 _ (by rw [hxs]; rfl))
  have l35 : ∀ n os, (grow (W2.drewN n) os).cell? ⟨p, 5, none⟩ = some (.int .i64 x5) := cell_grown (show p < W2.heap.size by omega) (c3 5 _ (by rw [hxs]; rfl))
  have l40 : ∀ n os, (grow (W2.drewN n) os).cell? ⟨p + 1, 0, none⟩ = some (.int .i64 y0) := cell_grown (show p + 1 < W2.heap.size by omega) (c4 0 _ (by rw [hys]; rfl))
  have l41 : ∀ n os, (grow (W2.drewN n) os).cell? ⟨p + 1, 1, none⟩ = some (.int .i64 y1) := cell_grown (show p + 1 < W2.heap.size by omega) (c4 1 _ (by rw [hys]; rfl))
  have l42 : ∀ n os, (grow (W2.drewN n) os).cell? ⟨p + 1, 2, none⟩ = some (.int .i64 y2) := cell_grown (show p + 1 < W2.heap.size by omega) (c4 2 _ (by rw [hys]; rfl))
  have l43 : ∀ n os, (grow (W2.drewN n) os).cell? ⟨p + 1, 3, none⟩ = some (.int .i64 y3) := cell_grown (show p + 1 < W2.heap.size by omega) (c4 3 _ (by rw [hys]; rfl))
  have l44 : ∀ n os, (grow (W2.drewN n) os).cell? ⟨p + 1, 4, none⟩ = some (.int .i64 y4) := cell_grown (show p + 1 < W2.heap.size by omega) (c4 4 _ (by rw [hys]; rfl))
  have l45 : ∀ n os, (grow (W2.drewN n) os).cell? ⟨p + 1, 5, none⟩ = some (.int .i64 y5) := cell_grown (show p + 1 < W2.heap.size by omega) (c4 5 _ (by rw [hys]; rfl))
  rw [← hp]
  clear hW2 hW3 hp z2 c3 c4 hb2 hc hb hxs hys
  have mixed := slay.mixed
  go_quiet_grown (first
    | ((first | go_at_call 52 | go_at_fn 52); first | (refine Calls.grown_of (HX.out.1 _)) | (refine Calls.grown_of (HX.out.2 _)))
    | (go_at_call 68; refine Calls.grown_of (hcm _)))
  go_wp2
  go_ret
  refine ⟨rfl, ?_⟩
  rw [HW.out, alloc_eq_grow, alloc_eq_grow, grow_grow]
  exact ⟨nq, _, by show grow (grow (w.drewN nq) _) osq = _; rw [grow_grow]⟩

def cmpD (x y : OpD) : Int := Lib.compareInt x.did y.did
theorem cmpLays_did (bb blk off size : Nat) (w : World) (hne : bb ≠ blk) (hb : bb < w.heap.size) (hc : w.cell? ⟨bb, 0, none⟩ = some (.func (.func 52) #[] #[])) :
    CmpLays Try.prog 67 #[.pointer (some ⟨bb, 0, none⟩)] opC 6 cmpD blk off size w := by
  intro m os dk hs x y
  refine cmpDid_any bb x y _ (Nat.lt_of_lt_of_le hb (size_sortWorldK_c opC 6 w blk off m dk os)) ?_
  unfold sortWorldK
  rw [cell?_grow _ _ _ (by rw [size_putRowK]; exact hb), cell?_putRowK_other _ _ _ _ _ _ _ hne]
  exact hc

set_option maxHeartbeats 2000000 in
theorem sortStable_any (blk off cap bb : Nat) (d : Array OpD) (w : World) (hH : HoldsK opC 6 w blk off d) (hblk : blk < w.heap.size) (hsz : d.size < 2305843009213693952)
    (hne : bb ≠ blk) (hb : bb < w.heap.size) (hc : w.cell? ⟨bb, 0, none⟩ = some (.func (.func 52) #[] #[])) :
    Calls Try.prog 66 #[.slice (some ⟨blk, off, none⟩) d.size cap, .func (.func 67) #[] #[.pointer (some ⟨bb, 0, none⟩)]] w fun e w' => e = .returned (.tuple #[]) ∧ SWK opC 6 w blk off (stab (ltOf cmpD) d) w' := by
  have h := stable_any (P := Try.prog) 6 slay opC cmpD 67 #[.pointer (some ⟨bb, 0, none⟩)] blk off cap d d w w
    (enters_of Try.func67 (by kernel_rfl) rfl) (cmpLays_did bb blk off d.size w hne hb hc) ⟨opC_len, opC_one, hH, hblk⟩ rfl (SWK.start hH) hsz
  generalize stab (ltOf cmpD) d = D at h ⊢
  clear hH hc
  go_enter Try.func66, Try.ntmps66
  go_wp2_with fail
  go_at_call 89
  refine h.mono ?_
  rintro e w1 ⟨rfl, S1⟩
  go_wp2
  go_end0
  exact ⟨rfl, S1⟩

set_option maxHeartbeats 2000000 in
theorem insertion_nil (fv : Value) (w : World) : Calls Try.prog 107 #[.slice none 0 0, .int .i64 0, .int .i64 0, fv] w fun e w' => e = .returned (.tuple #[]) ∧ w' = w := by
  go_enter Try.func107, Try.ntmps107
  go_wp2
  go_loopg [8] 1 (fun kx vi wr => vi = .int .i64 1 ∧ wr = w)
  case atStart => exact ⟨rfl, rfl⟩
  case round =>
    obtain ⟨rfl, rfl⟩ := hrel
    go_wp2
    go_end0
    exact ⟨rfl, rfl⟩
set_option maxHeartbeats 2000000 in
theorem stable_nil (fv : Value) (w : World) : Calls Try.prog 89 #[.slice none 0 0, .int .i64 0, fv] w fun e w' => e = .returned (.tuple #[]) ∧ w' = w := by
  go_enter Try.func89, Try.ntmps89
  go_wp2
  go_loopg [7, 8] 1 (fun kx va vb wr => va = .int .i64 0 ∧ vb = .int .i64 20 ∧ wr = w)
  case atStart => exact ⟨rfl, rfl, rfl⟩
  case round =>
    obtain ⟨rfl, rfl, rfl⟩ := hrel
    go_wp2_with (go_at_call 107; refine (insertion_nil _ _).mono ?_; rintro e w' ⟨rfl, hw⟩; rw [hw])
    go_loopg [6] 1 (fun kx va wr2 => va = .int .i64 20 ∧ wr2 = wr)
    case atStart => exact ⟨rfl, rfl⟩
    case round =>
      obtain ⟨rfl, rfl⟩ := hrel
      go_wp2
      go_end0
      exact ⟨rfl, rfl⟩
set_option maxHeartbeats 2000000 in
theorem sortStable_nil (fv : Value) (w : World) : Calls Try.prog 66 #[.slice none 0 0, fv] w fun e w' => e = .returned (.tuple #[]) ∧ w' = w := by
  go_enter Try.func66, Try.ntmps66
  go_wp2_with (go_at_call 89; refine (stable_nil _ _).mono ?_; rintro e w' ⟨rfl, hw⟩; rw [hw])
  go_end0
  exact ⟨rfl, rfl⟩
end Go.Proofs.Ytpnkkdpggofanaa

namespace Go.Proofs.Ytpnkkdpggofanaa
open Go.Shelf Go.RowKit Go.Lib Go.Sort Go.Proofs

theorem flatK_flatMap {α : Type} [Inhabited α] (enc : α → List Value) (k : Nat) (hk : ∀ x, (enc x).length = k) (hk0 : 0 < k) (l : List α) : (flatK enc k l.toArray).toList = l.flatMap enc := by
  apply List.ext_getElem?
  intro t
  by_cases ht : t < l.length * k
  · have e : t / k * k + t % k = t := Nat.div_add_mod' t k
    have hi : t / k < l.length := Nat.div_lt_of_lt_mul (by rw [Nat.mul_comm]; exact ht)
    have hr : t % k < k := Nat.mod_lt _ hk0
    have := flatMap_getElem? enc k hk l (t / k) l[t / k] (t % k) ((enc l[t / k])[t % k]'(by rw [hk]; exact hr)) (by simp [hi]) (by simp [hk, hr])
    rw [e] at this
    rw [this]
    simp [flatK, ht, hi, hk, hr]
  · rw [List.getElem?_eq_none (by simpa using ht), List.getElem?_eq_none (by rw [flatMap_length enc k hk]; omega)]

theorem op_holds {w : World} {g : Nat} {cur : Array Value} {e : TypeId} {xs : List OpD} (hb : w.heap[g]? = some (.cells cur e (0, 0))) (ht : cur.toList.take (xs.length * 6) = xs.flatMap opC) : HoldsK opC 6 w g 0 xs.toArray := by
  intro j hj
  have hj' : j < xs.length * 6 := by simpa using hj
  refine ⟨?_, by simp [World.frozen?, hb]⟩
  have h1 : (cur.toList.take (xs.length * 6))[j]? = (flatK opC 6 xs.toArray).toList[j]? := by rw [ht, flatK_flatMap opC 6 opC_len (by decide)]
  rw [List.getElem?_take_of_lt hj'] at h1
  simp only [World.cell?, hb, Nat.zero_add]
  simp only [Option.isSome_none, Bool.false_eq_true, if_false]
  rw [← Array.getElem?_toList, h1, Array.getElem?_toList, getElem!_pos _ j (by simpa using hj'), Array.getElem?_eq_getElem (by simpa using hj')]
  rfl

theorem op_row {w : World} {base g cap n : Nat} {e : TypeId} {os : Array Obj} {cur : Array Value} {xs ys : List OpD} (hl : ys.length = xs.length) (hbase : base ≤ g) (hb : w.heap[g]? = some (.cells cur e (0, 0)))
    (h1 : xs.length ≤ cap) (h2 : cap ≤ maxLen) (h3 : cur.size = cap * 6) :
    (sortWorldK opC 6 w g 0 n ys.toArray os).ownsRow base e 6 (.slice (some ⟨g, 0, none⟩) xs.length cap) xs.length (ys.flatMap opC) ∧ w.grownBy (sortWorldK opC 6 w g 0 n ys.toArray os) (some g) := by
  have hg : g < w.heap.size := (Array.getElem?_eq_some_iff.1 hb).1
  have hF : (flatK opC 6 ys.toArray).size = xs.length * 6 := by simp [hl]
  have hE := flatK_flatMap opC 6 opC_len (by decide) ys
  unfold sortWorldK putRowK
  generalize flatK opC 6 ys.toArray = F at hF hE ⊢
  rw [← hE]
  refine ⟨⟨by simp [hF], .inr ⟨g, cap, putCells id 0 F cur, rfl, hbase, ?_, h1, h2, by simp [putCells, h3], ?_⟩⟩, rfl, rfl, rfl, by simp, fun k hk hne => ?_⟩
  · rw [heap_grow_old _ _ (by simpa using hg)]
    simp [putRow, mapBlock, Sort.ahead, Array.getElem?_modify, hb, onCells]
  · apply List.ext_getElem?
    intro j
    by_cases hj : j < xs.length * 6
    · rw [List.getElem?_take_of_lt hj, Array.getElem?_toList]
      have h6 : xs.length * 6 ≤ cap * 6 := Nat.mul_le_mul_right 6 h1
      simp [putCells, hF, hj, show j < cur.size by omega]
    · rw [List.getElem?_take_eq_none (by omega), List.getElem?_eq_none (by simp; omega)]
  · rw [heap_grow_old _ _ (by simpa using hk)]
    have : g ≠ k := fun e => hne (by rw [e])
    simp [putRow, mapBlock, Sort.ahead, Array.getElem?_modify, this]

theorem op_info : (Try.prog.info? 40).map (fun i => (i.zero, i.size, i.bytes)) = some (some (.agg #[.int .i64 0, .int .i64 0, .int .i64 0, .int .i64 0, .int .i64 0, .int .i64 0]), 6, 48) := by kernel_rfl
theorem owns_empty (w : World) (e : TypeId) (size : Nat) : (w.alloc (.cells #[] e)).ownsRow w.heap.size e size (.slice (some ⟨w.heap.size, 0, none⟩) 0 0) 0 [] :=
  ⟨by simp, .inr ⟨w.heap.size, 0, #[], rfl, Nat.le_refl _, heap_alloc_new w _, Nat.le_refl _, by unfold maxLen; omega, by simp, by simp⟩⟩
theorem ops_one (l : List OpD) : ∀ u ∈ l.flatMap opC, u.oneCell' = true := by
  intro u hu
  obtain ⟨o, _, ho⟩ := List.mem_flatMap.1 hu
  exact opC_one o u ho

theorem slnil_eq (w : World) : (binOp .eql 33 (.slice none 0 0) (.slice none 0 0)).run Try.prog w = .ok (.bool true) w := by kernel_rfl
theorem slnil_ne (ad : Addr) (n c : Nat) (w : World) : (binOp .eql 33 (.slice (some ad) n c) (.slice none 0 0)).run Try.prog w = .ok (.bool false) w := by kernel_rfl
set_option maxHeartbeats 2000000 in
set_option maxRecDepth 1000000 in
theorem clone_nil (w : World) : Calls Try.prog 65 #[.slice none 0 0] w fun e w' => e = .returned (.slice none 0 0) ∧ w' = w := by
  have q1 := slnil_eq
  have q2 := slnil_ne
  go_enter Try.func65, Try.ntmps65
  go_wp2
  go_ret
  exact ⟨rfl, rfl⟩

set_option maxHeartbeats 2000000 in
set_option maxRecDepth 1000000 in
theorem clone_any (l : List OpD) (ad : Addr) (c : Nat) (w : World) (h : Reads w (.slice (some ad) l.length c) l.length (l.flatMap opC)) (hn : l.length ≤ 1000000) :
    Calls Try.prog 65 #[.slice (some ad) l.length c] w fun e w' => ∃ v', e = .returned v' ∧ w'.ownsRow w.heap.size 40 6 v' l.length (l.flatMap opC) ∧ Below w.heap.size w w' := by
  obtain ⟨i0, hi, hz0, hz1, hz2⟩ := info_parts op_info
  have HR := hid h
  clear h
  have q1 := slnil_eq
  have q2 := slnil_ne
  go_enter Try.func65, Try.ntmps65
  go_wp2_with (at_builtin; refine wpList_append_any _ rfl _ _ 33 rfl w.heap.size 40 i0 _ 6 48 Try.underlying33 hi hz0 hz1 hz2 rfl (by decide) _ 0 [] rfl (owns_empty w 40 6) _ l.length (l.flatMap opC) rfl ((Chg.alloc (fun _ => False) w _).reads HR.out (fun _ _ _ _ h => h)) (flatMap_length opC 6 opC_len l) (ops_one l) (by unfold maxLen; omega) (by omega) (by simp) ?_; intro bo cap w1 hown' hgrow; have HO1 := hid hown'; have HB1 := hid ((Below.alloc (Below.refl _ w) (Nat.le_refl _) _).grown hgrow (by simp) (fun k hk => by cases hk; exact Nat.le_refl _)); clear hown' hgrow)
  go_ret
  refine ⟨_, rfl, ?_, HB1.out⟩
  have := HO1.out
  simpa using this
end Go.Proofs.Ytpnkkdpggofanaa

namespace Go.Proofs.Ytpnkkdpggofanaa
open Go.Shelf Go.RowKit Go.Lib Go.Sort Go.Proofs

theorem ltOf_cmpD (x y : OpD) : ltOf cmpD x y = decide (x.did < y.did) := by
  unfold ltOf cmpD Lib.compareInt
  by_cases h : x.did < y.did
  · simp [h]
  · by_cases h2 : x.did > y.did <;> simp [h, h2]
theorem swo_did : SWO (ltOf cmpD) where
  irrefl x := by simp [ltOf_cmpD]
  trans x y z := by simp [ltOf_cmpD]; omega
  ntrans x y z := by simp [ltOf_cmpD]; omega
def stabL (l : List OpD) : List OpD := (stab (ltOf cmpD) l.toArray).toList
theorem stabL_len (l : List OpD) : (stabL l).length = l.length := by
  have := (stab_spec swo_did l.toArray).1.1
  simpa [stabL] using this

theorem stabL_nil : stabL [] = [] := List.eq_nil_of_length_eq_zero (stabL_len [])

set_option maxHeartbeats 4000000 in
set_option maxRecDepth 1000000 in
theorem sorted_any (l : List OpD) (v : Value) (w : World) (h : Reads w v l.length (l.flatMap opC)) (hn : l.length ≤ 1000000) :
    Calls Try.prog 51 #[v, .func (.func 52) #[] #[]] w fun e w' => ∃ v', e = .returned v' ∧ w'.ownsRow w.heap.size 40 6 v' l.length ((stabL l).flatMap opC) ∧ Below w.heap.size w w' := by
  have H := hid h
  obtain ⟨ao, c, rfl, hno, _⟩ := h
  obtain ⟨W, hW⟩ : ∃ W, W = w.alloc (.cells #[.func (.func 52) #[] #[]] 108) := ⟨_, rfl⟩
  have hsz : W.heap.size = w.heap.size + 1 := by rw [hW]; simp
  have hB : Below w.heap.size w W := by rw [hW]; exact Below.alloc (Below.refl _ w) (Nat.le_refl _) _
  have hc : W.cell? ⟨w.heap.size, 0, none⟩ = some (.func (.func 52) #[] #[]) := by rw [hW]; simp
  have hR : Reads W (.slice ao l.length c) l.length (l.flatMap opC) := by rw [hW]; exact (Chg.alloc (fun _ => False) w _).reads H.out (fun _ _ _ _ h => h)
  have HW := hid (And.intro hsz (And.intro hB (And.intro hc hR)))
  have HE := hid hW
  clear hsz hB hc hR
  cases ao with
  | none =>
    obtain ⟨h0, rfl⟩ := hno rfl
    have hl : l = [] := List.eq_nil_of_length_eq_zero h0
    subst hl
    clear hW
    go_enter Try.func51, Try.ntmps51
    go_wp2_with (first
      | (go_at_call 65; refine (clone_nil _).mono ?_; rintro e w' ⟨rfl, hw⟩; rw [hw])
      | (go_at_call 66; refine (sortStable_nil _ _).mono ?_; rintro e w' ⟨rfl, hw⟩; rw [hw]))
    go_ret
    refine ⟨_, rfl, ⟨by rw [stabL_nil]; rfl, .inl ⟨rfl, rfl⟩⟩, ?_⟩
    rw [← HE.out]
    exact HW.out.2.1
  | some ad =>
    have HC := hid (clone_any l ad c W HW.out.2.2.2 hn)
    clear hno hW
    go_enter Try.func51, Try.ntmps51
    go_wp2_with fail
    rw [← HE.out]
    go_at_call 65
    refine HC.out.mono ?_
    rintro e W2 ⟨v', rfl, hown, hb⟩
    have HO := hid hown
    have HB := hid hb
    clear hown hb
    have hB2 : Below w.heap.size w W2 := HW.out.2.1.trans ⟨HB.out.os, HB.out.tape, HB.out.output, HB.out.size, fun k hk => HB.out.block k (by rw [HW.out.1]; omega)⟩
    have HB2 := hid hB2
    clear hB2
    rcases HO.out.2 with ⟨rfl, hz⟩ | ⟨g, cap, cur, rfl, hbase, hgb, r1, r2, r3, r4⟩
    · have hl : l = [] := List.eq_nil_of_length_eq_zero hz
      subst hl
      go_wp2_with (go_at_call 66; refine (sortStable_nil _ _).mono ?_; rintro e w' ⟨rfl, hw⟩; rw [hw])
      go_ret
      exact ⟨_, rfl, ⟨by rw [stabL_nil]; rfl, .inl ⟨rfl, rfl⟩⟩, HB2.out⟩
    · have hgl : g < W2.heap.size := (Array.getElem?_eq_some_iff.1 hgb).1
      have hs := HW.out.1
      have hH : HoldsK opC 6 W2 g 0 l.toArray := op_holds hgb (by simpa using r4)
      have hcell : W2.cell? ⟨w.heap.size, 0, none⟩ = some (.func (.func 52) #[] #[]) := (HB.out.cell (by rw [hs]; exact Nat.lt_succ_self _)).trans HW.out.2.2.1
      have cS := hid (sortStable_any g 0 cap w.heap.size l.toArray W2 hH hgl (by simp; omega) (by omega) (by omega) hcell)
      have X := hid (And.intro hbase (And.intro hgb (And.intro r1 (And.intro r2 r3))))
      clear hH hgl hbase hgb r1 r2 r3 r4 hcell hs
      go_wp2_with (go_at_call 66; refine (by simpa using cS.out : Calls Try.prog 66 #[.slice (some ⟨g, 0, none⟩) l.length cap, _] W2 _).mono ?_; rintro e w' ⟨rfl, nn, os, rfl⟩)
      go_ret
      obtain ⟨hbase, hgb, r1, r2, r3⟩ := X.out
      have hr := op_row (n := nn) (os := os) (stabL_len l) hbase hgb r1 r2 r3
      rw [show (stabL l).toArray = stab (ltOf cmpD) l.toArray by simp [stabL]] at hr
      exact ⟨_, rfl, owns_base hr.1 (by rw [HW.out.1]; omega), HB2.out.grown hr.2 HB2.out.size (fun j hj => by cases hj; rw [HW.out.1] at hbase; omega)⟩
end Go.Proofs.Ytpnkkdpggofanaa
