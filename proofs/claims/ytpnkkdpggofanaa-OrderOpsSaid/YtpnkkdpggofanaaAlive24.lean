/- vergelaw24.alive, by its walk. -/
import Derived.Test.YtpnkkdpggofanaaSerD
import Derived.Test.YtpnkkdpggofanaaSame
namespace Go.Proofs.Ytpnkkdpggofanaa
open Go.RowKit Go.Shelf Go.Sort

def lO : List Ev := [⟨1, 0, 1, 1, 0, 0, 0, 0, 0, 0⟩, ⟨1, 1, 2, 1, 0, 0, 0, 0, 0, 0⟩, ⟨3, 1, 2, 1, 64, 0, 0, 0, 0, 0⟩, ⟨3, 0, 1, 1, 65, 0, 0, 0, 0, 0⟩]
theorem opsOf_lO : opsOf lO = [⟨1, 0, 1, 0, 3, -1⟩, ⟨2, 1, 1, 1, 2, -1⟩] := by decide
theorem stab_lO : stabL [⟨1, 0, 1, 0, 3, -1⟩, ⟨2, 1, 1, 1, 2, -1⟩] = [⟨2, 1, 1, 1, 2, -1⟩, ⟨1, 0, 1, 0, 3, -1⟩] := by
  obtain ⟨x, y, hx, hy⟩ : ∃ x y : OpD, x = ⟨1, 0, 1, 0, 3, -1⟩ ∧ y = ⟨2, 1, 1, 1, 2, -1⟩ := ⟨_, _, rfl, rfl⟩
  rw [← hx, ← hy]
  unfold stabL stab
  have h1 : stBlk (ltOf cmpD) 2 0 [x, y].toArray = insertionSort (ltOf cmpD) [x, y].toArray 0 2 := by rw [stBlk, if_neg (by decide)]
  have h2 : insertionSort (ltOf cmpD) [x, y].toArray 0 2 = #[y, x] := by
    unfold Sort.insertionSort
    rw [insOuter_go _ _ _ _ _ (by decide), insOuter_stop _ _ _ _ _ (by decide)]
    have := insInner_go (ltOf cmpD) 0 1 [x, y].toArray (by decide) (by rw [hx, hy]; decide)
    rw [this, insInner_stop _ _ _ _ (Or.inl (by decide))]
    rfl
  show (stRounds (ltOf cmpD) 2 2 20 (stBlk (ltOf cmpD) 2 0 [x, y].toArray)).toList = _
  rw [h1, h2, stRounds, dif_neg (by decide)]
theorem done_lO : doneOf lO = [⟨2, 1, 1, 1, 2, -1⟩, ⟨1, 0, 1, 0, 3, -1⟩] := by
  unfold doneOf
  rw [opsOf_lO, stab_lO]
  decide
theorem serial_lO : (serialOf lO).length = 6 := by
  unfold serialOf
  rw [opsOf_lO]
  decide
theorem cellsO : (lO.flatMap evC).toArray = #[.int .i64 1, .int .i64 0, .int .i64 1, .int .i64 1, .int .u64 0, .int .u64 0, .int .u64 0, .int .u64 0, .int .u64 0, .int .i64 0, .int .i64 1, .int .i64 1, .int .i64 2, .int .i64 1, .int .u64 0, .int .u64 0, .int .u64 0, .int .u64 0, .int .u64 0, .int .i64 0, .int .i64 3, .int .i64 1, .int .i64 2, .int .i64 1, .int .u64 64, .int .u64 0, .int .u64 0, .int .u64 0, .int .u64 0, .int .i64 0, .int .i64 3, .int .i64 0, .int .i64 1, .int .i64 1, .int .u64 65, .int .u64 0, .int .u64 0, .int .u64 0, .int .u64 0, .int .i64 0] := by rfl

set_option maxRecDepth 100000 in
set_option maxHeartbeats 4000000 in
theorem alive24_any (w : World) : Calls Try.prog 17 #[] w fun x w' => x = .returned (.bool true) ∧ Below w.heap.size w w' := by
  have hRA := hid (Reads.built_at w (lO.flatMap evC) 31 4 w.heap.size rfl)
  have hBA := hid ((Below.refl w.heap.size w).alloc (Nat.le_refl _) (.cells (lO.flatMap evC).toArray 31))
  rw [cellsO] at hRA hBA
  have hlen : lO.length = 4 := rfl
  have hd := hid done_lO
  have hs := hid serial_lO
  go_enter Try.func17, Try.ntmps17
  go_wp2_with fail
  go_at_call 19
  refine (line_any lO _ _ hRA.out (by decide)).mono ?_
  rintro x w1 ⟨v1, rfl, ho1, hb1⟩
  rw [hd.out] at ho1
  obtain ⟨ao1, c1, rfl⟩ := owns_shape ho1
  have HO1 := hid (show Reads w1 (.slice ao1 2 c1) 2 ([2, 1].map (Value.int .i64)) from Reads.of_owns ho1)
  have HB1 := hid (hBA.out.trans (hb1.mono (by simp)))
  have HL1 := hid (hRA.out.below hb1 (Nat.le_refl _))
  clear ho1 hb1
  go_wp2_with fail
  go_at_call 25
  refine (ints_t [2, 1] [2, 1] _ _ _ ((Chg.alloc (fun _ => False) w1 _).reads HO1.out (fun _ _ _ _ h => h)) (Reads.built_at w1 ([2, 1].map (Value.int .i64)) 3 2 _ rfl) (by decide) rfl).mono ?_
  rintro x w2 ⟨rfl, hb2⟩
  have hbx := (Below.refl w1.heap.size w1).alloc (Nat.le_refl _) (.cells ([2, 1].map (Value.int .i64)).toArray 3)
  have hb12 := hbx.trans (hb2.mono hbx.size)
  have HB2 := hid (HB1.out.trans (hb12.mono HB1.out.size))
  have HL2 := hid (HL1.out.below hb12 (Nat.le_refl _))
  clear hb2 hbx hb12
  go_wp2_with fail
  go_at_call 32
  refine (serial_any lO _ _ HL2.out (by decide)).mono ?_
  rintro x w3 ⟨v3, rfl, ho3, hb3⟩
  rw [hs.out] at ho3
  obtain ⟨ao3, c3, rfl⟩ := owns_shape ho3
  have HB3 := hid (HB2.out.trans (hb3.mono HB2.out.size))
  clear ho3 hb3
  go_wp2
  go_ret
  exact ⟨rfl, HB3.out⟩
end Go.Proofs.Ytpnkkdpggofanaa
