/- order.Ops, by its walk. -/
import Derived.Test.YtpnkkdpggofanaaOpsA
namespace Go.Proofs.Ytpnkkdpggofanaa
open Go.Shelf Go.RowKit Go.Lib Go.Sort Go.Proofs

set_option maxHeartbeats 2000000 in
theorem does_any (k : Int) (w : World) : Calls Try.prog 40 #[.int .i64 k] w fun e w' => e = .returned (.bool (isDoes k)) ∧ w' = w := by
  by_cases h1 : k = 3
  · subst h1; go_enter Try.func40, Try.ntmps40; go_wp2; go_ret; exact ⟨rfl, rfl⟩
  by_cases h2 : k = 11
  · subst h2; go_enter Try.func40, Try.ntmps40; go_wp2; go_ret; exact ⟨rfl, rfl⟩
  by_cases h3 : k = 6
  · subst h3; go_enter Try.func40, Try.ntmps40; go_wp2; go_ret; exact ⟨rfl, rfl⟩
  by_cases h4 : k = 7
  · subst h4; go_enter Try.func40, Try.ntmps40; go_wp2; go_ret; exact ⟨rfl, rfl⟩
  by_cases h5 : k = 8
  · subst h5; go_enter Try.func40, Try.ntmps40; go_wp2; go_ret; exact ⟨rfl, rfl⟩
  by_cases h6 : k = 9
  · subst h6; go_enter Try.func40, Try.ntmps40; go_wp2; go_ret; exact ⟨rfl, rfl⟩
  by_cases h7 : k = 13
  · subst h7; go_enter Try.func40, Try.ntmps40; go_wp2; go_ret; exact ⟨rfl, rfl⟩
  have hd := hid (show isDoes k = false by simp [isDoes, h1, h2, h3, h4, h5, h6, h7])
  go_enter Try.func40, Try.ntmps40
  go_wp2
  go_ret
  exact ⟨by rw [hd.out]; rfl, rfl⟩

abbrev mII (w : World) (b : Nat) (m : List (Int × Int)) : Prop := MapIs (Value.int .i64) (Value.int .i64) w b m
theorem int_zero : ∀ w, (zeroValue 3).run Try.prog w = .ok (.int .i64 0) w := Try.zeroValue3
theorem mII_look {w : World} {b : Nat} {m : List (Int × Int)} (h : mII w b m) (c : Int) : (Instr.lookup 37 (.map (some b)) (.int .i64 c) true).run Try.prog w = .ok (.tuple #[((aget m c).map (Value.int .i64)).getD (.int .i64 0), .bool (aget m c).isSome]) w :=
  h.run_lookup (keyLaw_int Try.underlying3) Try.underlying37 int_zero c true

theorem grownBy_cell {w w1 : World} {b : Nat} (hg : w.grownBy w1 (some b)) {p : Addr} {u : Value} (hne : p.block ≠ b) (hc : w.cell? p = some u) : w1.cell? p = some u :=
  (Chg.of_grown (S := fun j => j = b) hg (fun k e => by cases e; rfl)).cell hne hc

theorem owns_not {w : World} {B : Nat} {e : TypeId} {size : Nat} {v : Value} {n : Nat} {xs : List Value} (h : w.ownsRow (B + 1) e size v n xs) : v.ownBlock ≠ some B := by
  intro e; have := (h.lt B e).1; omega
theorem int_ofNat_ne (k : Nat) : ((k : Int) == -1) = false := by simp

theorem idx_some (o : List OpD) (c v : Int) (h : aget (idx o) c = some v) (hn : (o.map (·.no)).Nodup) : ∃ (j : Nat) (x : OpD), o[j]? = some x ∧ x.no = c ∧ v = (j : Int) := by
  rw [aget_mem (by rw [idx_keys]; exact hn)] at h
  simp only [idx, List.mem_map] at h
  obtain ⟨⟨x, j⟩, h1, h2⟩ := h
  simp at h2
  exact ⟨j, x, List.mk_mem_zipIdx_iff_getElem?.1 h1, h2.1, h2.2.symm⟩

theorem ops_cell {w : World} {g : Nat} {cur : Array Value} {e : TypeId} {C : List OpD} (hb : w.heap[g]? = some (.cells cur e (0, 0))) (ht : cur.toList.take (C.length * 6) = C.flatMap opC) {j : Nat} {y : OpD} (hj : C[j]? = some y) (c : Nat) {u : Value} (hu : (opC y)[c]? = some u) :
    w.cell? ⟨g, j * 6 + c, none⟩ = some u ∧ w.frozen? ⟨g, j * 6 + c, none⟩ = false := by
  refine ⟨?_, by simp [World.frozen?, hb]⟩
  have h1 := flatMap_getElem? opC 6 opC_len C j y c u hj hu
  have hlt : j * 6 + c < C.length * 6 := by
    have := (List.getElem?_eq_some_iff.1 h1).1
    rwa [flatMap_length opC 6 opC_len] at this
  rw [← ht, List.getElem?_take_of_lt hlt, Array.getElem?_toList] at h1
  simp only [World.cell?, hb]
  simpa using h1

theorem owns_store {w : World} {base : Nat} {e : TypeId} {n g cap : Nat} {cur : Array Value} {xs : List Value} (hx : xs.length = n * 6) (hbase : base ≤ g) (hb : w.heap[g]? = some (.cells cur e (0, 0))) (r1 : n ≤ cap) (r2 : cap ≤ maxLen) (r3 : cur.size = cap * 6) (r4 : cur.toList.take (n * 6) = xs) (t : Nat) (u : Value) :
    (w.setCell ⟨g, t, none⟩ u).ownsRow base e 6 (.slice (some ⟨g, 0, none⟩) n cap) n (xs.set t u) := by
  refine ⟨by simpa using hx, .inr ⟨g, cap, cur.setIfInBounds t u, rfl, hbase, ?_, r1, r2, by simpa using r3, ?_⟩⟩
  · rw [setCell_eq]
    simp [mapBlock, Array.getElem?_modify, hb, onCells]
  · rw [Array.toList_setIfInBounds, List.take_set, r4]

/-- Behind the first loop's round k. -/
def AtA (B : Nat) (w : World) (l : List Ev) (k : Nat) (o : Value) (wr : World) : Prop :=
  wr.ownsRow (B + 1) 40 6 o (opsA l k).length ((opsA l k).flatMap opC) ∧ Below B w wr ∧ B + 1 ≤ wr.heap.size ∧ mII wr B (idx (opsA l k))

/-- Behind the second loop's round k. -/
def AtB (B : Nat) (w : World) (l : List Ev) (A : List OpD) (k : Nat) (o : Value) (wr : World) : Prop :=
  wr.ownsRow (B + 1) 40 6 o A.length ((opsB l A k).flatMap opC) ∧ Below B w wr ∧ B + 1 ≤ wr.heap.size ∧ mII wr B (idx A)

set_option maxRecDepth 1000000 in
set_option maxHeartbeats 8000000 in
theorem ops_any (l : List Ev) (v : Value) (w : World) (h1 : Reads w v l.length (l.flatMap evC)) (hn : l.length ≤ 1000000) :
    Calls Try.prog 18 #[v] w fun x w' => ∃ v', x = .returned v' ∧ w'.ownsRow w.heap.size 40 6 v' (opsOf l).length ((opsOf l).flatMap opC) ∧ Below w.heap.size w w' := by
  obtain ⟨ao, c1, rfl, g1⟩ := h1.evs
  have H1 := hid g1
  clear g1 h1
  obtain ⟨i0, hi, hz0, hz1, hz2⟩ := info_parts op_info
  have hmm := @run_makeMap Try.prog
  go_enter Try.func18, Try.ntmps18
  go_wp2
  go_loopw [3, 16] (fun o i wr => ∃ k : Nat, k ≤ l.length ∧ i = .int .i64 k ∧ AtA w.heap.size w l k o wr) (fun _ i _ => l.length - (intOf i).toNat)
  case atStart => exact ⟨0, by omega, rfl, by simpa [opsA] using World.ownsRow_nil _ _ _ _, (Below.refl _ _).alloc (Nat.le_refl _) _, by simp, MapIs.made w⟩
  case round =>
    obtain ⟨k, hk, rfl, hown, hb, hsz, hm⟩ := hrel
    have hle := opsA_len l k
    obtain ⟨ao2, cap2, rfl⟩ := owns_shape hown
    by_cases hlt : k < l.length
    · obtain ⟨b, o, hao, hc⟩ := H1.out k l[k] (List.getElem?_eq_getElem hlt)
      obtain rfl := hao
      have hbl : b < w.heap.size := World.block_lt_of_cell? _ _ (hc 0 _ rfl)
      have q0 : wr.cell? ⟨b, o + k * 10, none⟩ = some (.int .i64 l[k].kind) := (hb.cell (World.block_lt_of_cell? _ _ (hc 0 _ rfl))).trans (hc 0 _ rfl)
      have q1 : wr.cell? ⟨b, o + k * 10 + 1, none⟩ = some (.int .i64 l[k].thr) := (hb.cell (World.block_lt_of_cell? _ _ (hc 1 _ rfl))).trans (hc 1 _ rfl)
      have q2 : wr.cell? ⟨b, o + k * 10 + 2, none⟩ = some (.int .i64 l[k].call) := (hb.cell (World.block_lt_of_cell? _ _ (hc 2 _ rfl))).trans (hc 2 _ rfl)
      have q3 : wr.cell? ⟨b, o + k * 10 + 3, none⟩ = some (.int .i64 l[k].what) := (hb.cell (World.block_lt_of_cell? _ _ (hc 3 _ rfl))).trans (hc 3 _ rfl)
      have q4 : wr.cell? ⟨b, o + k * 10 + 4, none⟩ = some (.int .u64 l[k].id) := (hb.cell (World.block_lt_of_cell? _ _ (hc 4 _ rfl))).trans (hc 4 _ rfl)
      have q5 : wr.cell? ⟨b, o + k * 10 + 5, none⟩ = some (.int .u64 l[k].gen) := (hb.cell (World.block_lt_of_cell? _ _ (hc 5 _ rfl))).trans (hc 5 _ rfl)
      have q6 : wr.cell? ⟨b, o + k * 10 + 6, none⟩ = some (.int .u64 l[k].dl) := (hb.cell (World.block_lt_of_cell? _ _ (hc 6 _ rfl))).trans (hc 6 _ rfl)
      have q7 : wr.cell? ⟨b, o + k * 10 + 7, none⟩ = some (.int .u64 l[k].per) := (hb.cell (World.block_lt_of_cell? _ _ (hc 7 _ rfl))).trans (hc 7 _ rfl)
      have q8 : wr.cell? ⟨b, o + k * 10 + 8, none⟩ = some (.int .u64 l[k].tk) := (hb.cell (World.block_lt_of_cell? _ _ (hc 8 _ rfl))).trans (hc 8 _ rfl)
      have q9 : wr.cell? ⟨b, o + k * 10 + 9, none⟩ = some (.int .i64 l[k].err) := (hb.cell (World.block_lt_of_cell? _ _ (hc 9 _ rfl))).trans (hc 9 _ rfl)
      have HS := hid (show opsA l (k + 1) = if l[k].kind = 1 ∧ l[k].call ∉ (opsA l k).map (·.no) then opsA l k ++ [⟨l[k].call, l[k].thr, l[k].what, k, -1, -1⟩] else opsA l k by rw [opsA, List.getElem?_eq_getElem hlt])
      have HNO := hid (idx_none (opsA l k) l[k].call)
      have HID := hid (fun x => idx_snoc (opsA l k) x)
      have HAP := hid (fun v => aput_absent (idx (opsA l k)) l[k].call v)
      have HKY := hid (idx_keys (opsA l k))
      have hmA : ∀ o1, mII (wr.alloc o1) w.heap.size (idx (opsA l k)) := fun o1 => hm.kept (Below.heap_alloc _ _ _ (by omega))
      have hlook := fun o1 => mII_look (hmA o1) l[k].call
      have HM := hid hmA
      have HO := hid hown
      have HB := hid hb
      clear hb hc hown hm hmA
      generalize opsA l k = A0 at *
      cases hmet : aget (idx A0) l[k].call with
      | none =>
        simp only [hmet, Option.map_none, Option.getD_none, Option.isSome_none] at hlook
        by_cases h5 : l[k].kind = 1
        · have h5' : (l[k].kind == 1) = true := by simp [h5]
          have hs2 := HS.out
          rw [if_pos ⟨h5, HNO.out.1 hmet⟩] at hs2
          have HS2 := hid hs2
          have HMN := hid (HNO.out.1 hmet)
          clear h5 hs2 HS hmet
          go_wp2_with (at_mapUpdate; refine Hid.out ?_)
          refine hid ?_
          refine wpList_update _ rfl 37 _ _ _ rfl (keyLaw_int Try.underlying3) Try.underlying37 w.heap.size (idx A0) (HM.out _) rfl l[k].call rfl (A0.length : Int) rfl ?_
          intro w2 hm2 hg2 hs2
          have e1 : w2.cell? ⟨wr.heap.size, 1, none⟩ = some (.int .i64 l[k].thr) := grownBy_cell hg2 (by simp; omega) (by go_cell)
          have e2 : w2.cell? ⟨wr.heap.size, 2, none⟩ = some (.int .i64 l[k].call) := grownBy_cell hg2 (by simp; omega) (by go_cell)
          have e3 : w2.cell? ⟨wr.heap.size, 3, none⟩ = some (.int .i64 l[k].what) := grownBy_cell hg2 (by simp; omega) (by go_cell)
          have HO2 := hid ((HO.out.alloc _).kept hg2 (.inr (owns_not HO.out)))
          have HB2 := hid ((HB.out.alloc (by omega) _).grown hg2 (by simp; omega) (fun j e => by cases e; exact Nat.le_refl _))
          have HM2 := hid hm2
          have hz2' : wr.heap.size + 1 = w2.heap.size := by simp at hs2; exact hs2.symm
          clear hm2 hg2 hs2
          go_wp2_with (at_builtin; refine Hid.out ?_)
          refine hid ?_
          refine wpList_append_any _ rfl _ _ 33 rfl (w.heap.size + 1) 40 i0 _ 6 48 Try.underlying33 hi hz0 hz1 hz2 rfl (by decide) _ _ _ rfl (HO2.out.alloc _) _ 1 (opC ⟨l[k].call, l[k].thr, l[k].what, k, -1, -1⟩) rfl (Reads.built_at _ (opC ⟨l[k].call, l[k].thr, l[k].what, k, -1, -1⟩) 40 1 _ (by simp)) rfl (opC_one _) (by unfold maxLen; omega) (by omega) (by simp; omega) ?_
          intro bo cap w3 hown3 hgrow
          have HO3 := hid hown3
          have HG3 := hid hgrow
          clear hown3 hgrow
          go_wp2
          go_roundw
          case rel =>
            refine ⟨k + 1, by omega, by go_num, ?_⟩
            unfold AtA
            rw [HS2.out]
            refine ⟨by simpa using HO3.out, (HB2.out.alloc (by omega) _).grown HG3.out (by simp; omega) (fun j e => by have := (HO2.out.lt j e).1; omega), by have := HG3.out.size; simp at this; omega, ?_⟩
            rw [HID.out, ← HAP.out _ (by rw [HKY.out]; exact HMN.out)]
            refine HM2.out.kept ?_
            rw [HG3.out.block w.heap.size (by simp; omega) (fun e => owns_not HO2.out e.symm), Below.heap_alloc _ _ _ (by omega)]
          case measure => simp [intOf]; omega
        · have h5' : (l[k].kind == 1) = false := by simp [h5]
          have hs2 := HS.out
          rw [if_neg (fun h => h5 h.1)] at hs2
          have HS2 := hid hs2
          clear h5 hs2 HS
          go_wp2
          go_roundw
          case rel => exact ⟨k + 1, by omega, by go_num, by unfold AtA; rw [HS2.out]; exact ⟨HO.out.alloc _, HB.out.alloc (by omega) _, by simp; omega, HM.out _⟩⟩
          case measure => simp [intOf]; omega
      | some j =>
        simp only [hmet, Option.map_some, Option.getD_some, Option.isSome_some] at hlook
        have hs2 := HS.out
        rw [if_neg (fun h => by rw [HNO.out.2 h.2] at hmet; cases hmet)] at hs2
        have HS2 := hid hs2
        clear hs2 HS
        by_cases h5 : l[k].kind = 1
        · have h5' : (l[k].kind == 1) = true := by simp [h5]
          clear h5
          go_wp2
          go_roundw
          case rel => exact ⟨k + 1, by omega, by go_num, by unfold AtA; rw [HS2.out]; exact ⟨HO.out.alloc _, HB.out.alloc (by omega) _, by simp; omega, HM.out _⟩⟩
          case measure => simp [intOf]; omega
        · have h5' : (l[k].kind == 1) = false := by simp [h5]
          clear h5
          go_wp2
          go_roundw
          case rel => exact ⟨k + 1, by omega, by go_num, by unfold AtA; rw [HS2.out]; exact ⟨HO.out.alloc _, HB.out.alloc (by omega) _, by simp; omega, HM.out _⟩⟩
          case measure => simp [intOf]; omega
    · obtain rfl : k = l.length := by omega
      have HB0 := hid hb
      have HM0 := hid hm
      have HO0 := hid hown
      have hnod := opsA_nodup l l.length
      have HND := hid hnod
      have HEND := hid (show opsOf l = opsB l (opsA l l.length) l.length from rfl)
      clear hb hm hown hnod
      generalize opsA l l.length = A at *
      have hle2 : A.length ≤ 1000000 := by omega
      clear hk hlt hle
      have HS0 := hid (show AtB w.heap.size w l A 0 (.slice ao2 A.length cap2) wr from ⟨HO0.out, HB0.out, hsz, HM0.out⟩)
      clear hsz
      rename World => w0
      go_wp2
      go_loopw [54] (fun i wr => ∃ k : Nat, k ≤ l.length ∧ i = .int .i64 k ∧ AtB w.heap.size w l A k (.slice ao2 A.length cap2) wr) (fun i _ => l.length - (intOf i).toNat)
      case atStart => exact ⟨0, by omega, rfl, HS0.out⟩
      case round =>
        obtain ⟨k, hk, rfl, hown, hb, hsz, hm⟩ := hrel
        clear HS0 HO0 HB0 HM0
        by_cases hlt : k < l.length
        · obtain ⟨b, o, hao, hc⟩ := H1.out k l[k] (List.getElem?_eq_getElem hlt)
          obtain rfl := hao
          have hbl : b < w.heap.size := World.block_lt_of_cell? _ _ (hc 0 _ rfl)
          have q0 : wr.cell? ⟨b, o + k * 10, none⟩ = some (.int .i64 l[k].kind) := (hb.cell (World.block_lt_of_cell? _ _ (hc 0 _ rfl))).trans (hc 0 _ rfl)
          have q1 : wr.cell? ⟨b, o + k * 10 + 1, none⟩ = some (.int .i64 l[k].thr) := (hb.cell (World.block_lt_of_cell? _ _ (hc 1 _ rfl))).trans (hc 1 _ rfl)
          have q2 : wr.cell? ⟨b, o + k * 10 + 2, none⟩ = some (.int .i64 l[k].call) := (hb.cell (World.block_lt_of_cell? _ _ (hc 2 _ rfl))).trans (hc 2 _ rfl)
          have q3 : wr.cell? ⟨b, o + k * 10 + 3, none⟩ = some (.int .i64 l[k].what) := (hb.cell (World.block_lt_of_cell? _ _ (hc 3 _ rfl))).trans (hc 3 _ rfl)
          have q4 : wr.cell? ⟨b, o + k * 10 + 4, none⟩ = some (.int .u64 l[k].id) := (hb.cell (World.block_lt_of_cell? _ _ (hc 4 _ rfl))).trans (hc 4 _ rfl)
          have q5 : wr.cell? ⟨b, o + k * 10 + 5, none⟩ = some (.int .u64 l[k].gen) := (hb.cell (World.block_lt_of_cell? _ _ (hc 5 _ rfl))).trans (hc 5 _ rfl)
          have q6 : wr.cell? ⟨b, o + k * 10 + 6, none⟩ = some (.int .u64 l[k].dl) := (hb.cell (World.block_lt_of_cell? _ _ (hc 6 _ rfl))).trans (hc 6 _ rfl)
          have q7 : wr.cell? ⟨b, o + k * 10 + 7, none⟩ = some (.int .u64 l[k].per) := (hb.cell (World.block_lt_of_cell? _ _ (hc 7 _ rfl))).trans (hc 7 _ rfl)
          have q8 : wr.cell? ⟨b, o + k * 10 + 8, none⟩ = some (.int .u64 l[k].tk) := (hb.cell (World.block_lt_of_cell? _ _ (hc 8 _ rfl))).trans (hc 8 _ rfl)
          have q9 : wr.cell? ⟨b, o + k * 10 + 9, none⟩ = some (.int .i64 l[k].err) := (hb.cell (World.block_lt_of_cell? _ _ (hc 9 _ rfl))).trans (hc 9 _ rfl)
          have HS := hid (show opsB l A (k + 1) = (opsB l A k).map (stepB k l[k]) by rw [opsB, List.getElem?_eq_getElem hlt])
          have hmA : ∀ o1, mII (wr.alloc o1) w.heap.size (idx A) := fun o1 => hm.kept (Below.heap_alloc _ _ _ (by omega))
          have hlook := fun o1 => mII_look (hmA o1) l[k].call
          have HNO := hid (idx_none A l[k].call)
          have HNOS := hid (opsB_nos l A k)
          have HCL := hid (opsB_len l A k)
          have HM := hid hmA
          have HO := hid hown
          have HB := hid hb
          clear hb hc hown hm hmA
          have HSAME := hid (fun (hs : (opsB l A k).map (stepB k l[k]) = opsB l A k) (o1 : Obj) => show AtB w.heap.size w l A (k + 1) (.slice ao2 A.length cap2) (wr.alloc o1) from ⟨by rw [HS.out, hs]; exact HO.out.alloc _, HB.out.alloc (by omega) _, by simp; omega, HM.out _⟩)
          cases hmet : aget (idx A) l[k].call with
          | none =>
            simp only [hmet, Option.map_none, Option.getD_none, Option.isSome_none] at hlook
            have habs := hid (stepB_absent k l[k] (opsB l A k) (by rw [HNOS.out]; exact HNO.out.1 hmet))
            clear hmet
            go_wp2
            go_roundw
            case rel => exact ⟨k + 1, by omega, by go_num, HSAME.out habs.out _⟩
            case measure => simp [intOf]; omega
          | some jv =>
            simp only [hmet, Option.map_some, Option.getD_some, Option.isSome_some] at hlook
            obtain ⟨j, x, hj, hx, rfl⟩ := idx_some A _ _ hmet HND.out
            clear hmet
            have hjl : j < A.length := (List.getElem?_eq_some_iff.1 hj).1
            obtain ⟨y, hy⟩ : ∃ y, (opsB l A k)[j]? = some y := ⟨_, List.getElem?_eq_getElem (by rw [HCL.out]; exact hjl)⟩
            have hyno : y.no = l[k].call := by
              have h1 : ((opsB l A k).map (·.no))[j]? = some y.no := by simp [hy]
              rw [HNOS.out] at h1
              simp [hj, hx] at h1
              exact h1.symm
            have hnodC : ((opsB l A k).map (·.no)).Nodup := by rw [HNOS.out]; exact HND.out
            have hat := hid (stepB_at k l[k] (opsB l A k) hnodC j y hy hyno)
            rcases HO.out.2 with ⟨_, hz⟩ | ⟨g, cap, cur, hv, hbase, hgb, r1, r2, r3, r4⟩
            · exfalso; omega
            simp only [Value.slice.injEq] at hv
            obtain ⟨rfl, _, rfl⟩ := hv
            have cd := ops_cell hgb (by rw [HCL.out]; exact r4) hy 4 (u := .int .i64 y.did) rfl
            have cf := ops_cell hgb (by rw [HCL.out]; exact r4) hy 5 (u := .int .i64 y.fin) rfl
            obtain ⟨cd1, cd2⟩ := cd
            obtain ⟨cf1, cf2⟩ := cf
            have hgl : g < wr.heap.size := (Array.getElem?_eq_some_iff.1 hgb).1
            have HST : Hid (∀ (o1 : Obj) (c : Nat) (hc : c < 6) (u : Value), opC (stepB k l[k] y) = (opC y).set c u → AtB w.heap.size w l A (k + 1) (.slice (some ⟨g, 0, none⟩) A.length cap2) ((wr.setCell ⟨g, j * 6 + c, none⟩ u).alloc o1)) := by
              intro o1 c hc u hu
              refine ⟨?_, (HB.out.setCell (by show w.heap.size ≤ g; omega) _).alloc (by simp; omega) _, by simp; omega, ?_⟩
              · rw [HS.out, hat.out, flatMap_set _ j _ (by rw [HCL.out]; exact hjl) c hc u y hy hu]
                exact (owns_store HO.out.1 hbase hgb r1 r2 r3 r4 _ _).alloc _
              · have := HM.out o1
                refine this.kept ?_
                rw [Below.heap_alloc _ _ _ (by simp; omega), Below.heap_alloc _ _ _ (by omega), Below.heap_setCell _ _ _ _ (by show w.heap.size ≠ g; omega)]
            have hsame : stepB k l[k] y = y → (opsB l A k).map (stepB k l[k]) = opsB l A k := fun h => by
              rw [hat.out, h]
              apply List.ext_getElem?
              intro i
              rw [List.getElem?_set]
              split
              · subst_vars; rw [hy, if_pos (by rw [HCL.out]; exact hjl)]
              · rfl
            have HSA := hid hsame
            clear hbase hgb r1 r2 r3 r4 hsame hy hj hx
            have HY := hid (show stepB k l[k] y = (if isDoes l[k].kind = true ∧ y.did < 0 then { y with did := (k : Int) } else if l[k].kind = 2 ∧ y.fin < 0 then { y with fin := (k : Int) } else y) by unfold stepB; rw [if_pos hyno])
            clear hyno
            have hjz : (j : Int) < (A.length : Int) := by omega
            cases hD : isDoes l[k].kind with
            | true =>
              have HDO := hid hD
              by_cases hd : y.did < 0
              · have hst := hid (show opC (stepB k l[k] y) = (opC y).set 4 (.int .i64 (k : Int)) by rw [HY.out]; rw [if_pos ⟨hD, hd⟩]; rfl)
                clear hD
                go_wp2_with (go_at_call 40; refine (does_any _ _).mono ?_; rintro e w' ⟨rfl, hw⟩; rw [hw, HDO.out])
                go_roundw
                case rel => exact ⟨k + 1, by omega, by go_num, HST.out _ 4 (by decide) _ hst.out⟩
                case measure => simp [intOf]; omega
              · by_cases hK : l[k].kind = 2
                · have hKb : (l[k].kind == 2) = true := by simp [hK]
                  by_cases hf : y.fin < 0
                  · have hst := hid (show opC (stepB k l[k] y) = (opC y).set 5 (.int .i64 (k : Int)) by rw [HY.out]; rw [if_neg (fun h => hd h.2), if_pos ⟨hK, hf⟩]; rfl)
                    clear hD hK
                    go_wp2_with (go_at_call 40; refine (does_any _ _).mono ?_; rintro e w' ⟨rfl, hw⟩; rw [hw, HDO.out])
                    go_roundw
                    case rel => exact ⟨k + 1, by omega, by go_num, HST.out _ 5 (by decide) _ hst.out⟩
                    case measure => simp [intOf]; omega
                  · have hst := hid (show stepB k l[k] y = y by rw [HY.out]; rw [if_neg (fun h => hd h.2), if_neg (fun h => hf h.2)])
                    clear hD hK
                    go_wp2_with (go_at_call 40; refine (does_any _ _).mono ?_; rintro e w' ⟨rfl, hw⟩; rw [hw, HDO.out])
                    go_roundw
                    case rel => exact ⟨k + 1, by omega, by go_num, HSAME.out (HSA.out hst.out) _⟩
                    case measure => simp [intOf]; omega
                · have hKb : (l[k].kind == 2) = false := by simp [hK]
                  have hst := hid (show stepB k l[k] y = y by rw [HY.out]; rw [if_neg (fun h => hd h.2), if_neg (fun h => hK h.1)])
                  clear hD hK
                  go_wp2_with (go_at_call 40; refine (does_any _ _).mono ?_; rintro e w' ⟨rfl, hw⟩; rw [hw, HDO.out])
                  go_roundw
                  case rel => exact ⟨k + 1, by omega, by go_num, HSAME.out (HSA.out hst.out) _⟩
                  case measure => simp [intOf]; omega
            | false =>
              have HDO := hid hD
              by_cases hK : l[k].kind = 2
              · have hKb : (l[k].kind == 2) = true := by simp [hK]
                by_cases hf : y.fin < 0
                · have hst := hid (show opC (stepB k l[k] y) = (opC y).set 5 (.int .i64 (k : Int)) by rw [HY.out]; rw [if_neg (fun h => by rw [hD] at h; exact absurd h.1 (by decide)), if_pos ⟨hK, hf⟩]; rfl)
                  clear hD hK
                  go_wp2_with (go_at_call 40; refine (does_any _ _).mono ?_; rintro e w' ⟨rfl, hw⟩; rw [hw, HDO.out])
                  go_roundw
                  case rel => exact ⟨k + 1, by omega, by go_num, HST.out _ 5 (by decide) _ hst.out⟩
                  case measure => simp [intOf]; omega
                · have hst := hid (show stepB k l[k] y = y by rw [HY.out]; rw [if_neg (fun h => by rw [hD] at h; exact absurd h.1 (by decide)), if_neg (fun h => hf h.2)])
                  clear hD hK
                  go_wp2_with (go_at_call 40; refine (does_any _ _).mono ?_; rintro e w' ⟨rfl, hw⟩; rw [hw, HDO.out])
                  go_roundw
                  case rel => exact ⟨k + 1, by omega, by go_num, HSAME.out (HSA.out hst.out) _⟩
                  case measure => simp [intOf]; omega
              · have hKb : (l[k].kind == 2) = false := by simp [hK]
                have hst := hid (show stepB k l[k] y = y by rw [HY.out]; rw [if_neg (fun h => by rw [hD] at h; exact absurd h.1 (by decide)), if_neg (fun h => hK h.1)])
                clear hD hK
                go_wp2_with (go_at_call 40; refine (does_any _ _).mono ?_; rintro e w' ⟨rfl, hw⟩; rw [hw, HDO.out])
                go_roundw
                case rel => exact ⟨k + 1, by omega, by go_num, HSAME.out (HSA.out hst.out) _⟩
                case measure => simp [intOf]; omega
        · obtain rfl : k = l.length := by omega
          have HO := hid hown
          have HB := hid hb
          clear hown hb hm
          go_wp2
          go_ret
          refine ⟨_, rfl, ?_, HB.out⟩
          rw [HEND.out, opsB_len]
          exact owns_base HO.out (by omega)
end Go.Proofs.Ytpnkkdpggofanaa
