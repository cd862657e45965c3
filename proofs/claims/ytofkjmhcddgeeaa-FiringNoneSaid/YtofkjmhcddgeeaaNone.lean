/- vergelaw12.FiringNone: its walk: it returns true, and nothing that was there has turned. -/
import Derived.Test.YtofkjmhcddgeeaaLen
import Derived.Deep.RegionHeld3
namespace Go.Proofs.Ytofkjmhcddgeeaa
open Go.RowKit Go.Shelf

theorem allNil_any (w : World) : Calls Try.prog 22 #[.pointer none] w fun e w' => ∃ v', e = .returned v' ∧ w'.ownsRow w.heap.size 30 4 v' 0 [] ∧ Below w.heap.size w w' :=
  allOr_any (.pointer none) [] w (.inr ⟨rfl, rfl⟩) (by simp)
theorem idsNil_any (w : World) : Calls Try.prog 21 #[.pointer none] w fun e w' => ∃ v', e = .returned v' ∧ w'.ownsRow w.heap.size 28 1 v' 0 [] ∧ Below w.heap.size w w' := by
  have h := idsOr_any (.pointer none) [] w (.inr ⟨rfl, rfl⟩) (by simp) (by simp)
  have e : idsOf [] = [] := by simp [idsOf, idMap, asc]
  rw [e] at h
  exact h
theorem lenNil_any (w : World) : Calls Try.prog 25 #[.pointer none] w fun e w' => e = .returned (.int .i64 0) ∧ Below w.heap.size w w' :=
  lenOr_any (.pointer none) [] w (.inr ⟨rfl, rfl⟩) (by simp)

set_option maxHeartbeats 4000000 in
theorem none_walk (f : Fir) (w : World) :
    Calls Try.prog 7 #[firV f] w fun e w' => e = .returned (.bool true) ∧ Below w.heap.size w w' := by
  go_enter Try.func7, Try.ntmps7
  go_wp2_with (go_at_call 8; refine (alive12_any _).mono ?_; rintro e w0 ⟨rfl, hb0⟩; have HB0 := hid (((Below.refl _ _).alloc (Nat.le_refl _) _).trans (hb0.mono (by simp))); have hz0 := hb0.size; have k0 : w0.cell? ⟨w.heap.size, 0, none⟩ = some (.int .u64 f.id) := (hb0.cell (by simp)).trans (by simp); have k1 : w0.cell? ⟨w.heap.size, 1, none⟩ = some (.int .u64 f.gen) := (hb0.cell (by simp)).trans (by simp); have k2 : w0.cell? ⟨w.heap.size, 2, none⟩ = some (.int .u64 f.dl) := (hb0.cell (by simp)).trans (by simp); have k3 : w0.cell? ⟨w.heap.size, 3, none⟩ = some (.int .u64 f.tk) := (hb0.cell (by simp)).trans (by simp); clear hb0)
  have hzs : w.heap.size < w0.heap.size := by simp at hz0; omega
  clear hz0
  refine (putNil_any _ _).mono ?_
  rintro e w1 ⟨rfl, hw1⟩
  have hb1 : Below w0.heap.size w0 w1 := by rw [← hw1]; exact (Below.refl _ _).alloc (Nat.le_refl _) _
  clear hw1
  have p0 := (hb1.cell (p := ⟨w.heap.size, 0, none⟩) hzs).trans k0
  have p3 := (hb1.cell (p := ⟨w.heap.size, 3, none⟩) hzs).trans k3
  have hz1 := hb1.size
  have hxb : w.heap.size < w1.heap.size := by omega
  have HK : Hid (∀ W, Below w1.heap.size w1 W → W.cell? ⟨w.heap.size, 0, none⟩ = some (.int .u64 f.id) ∧ W.cell? ⟨w.heap.size, 3, none⟩ = some (.int .u64 f.tk) ∧ Below w1.heap.size w1 W) := fun W hB => ⟨(hB.cell hxb).trans p0, (hB.cell hxb).trans p3, hB⟩
  have HB1 := hid (HB0.out.trans (hb1.mono (by omega)))
  clear hb1 k0 k1 k2 k3 p0 p3
  go_wp2
  go_region_held3 (fun W => W.cell? ⟨w.heap.size, 0, none⟩ = some (.int .u64 f.id) ∧ W.cell? ⟨w.heap.size, 3, none⟩ = some (.int .u64 f.tk) ∧ Below w1.heap.size w1 W) ((exact HK.out _ (by (repeat' (first | (with_reducible exact Below.refl _ _) | (with_reducible assumption) | (with_reducible refine Below.alloc ?_ ?_ _) | (with_reducible refine Below.drew ?_) | (with_reducible refine below_drewN ?_ _) | (with_reducible refine Below.trans ?_ (Below.mono (by assumption) ?_)) | (with_reducible exact Nat.le_refl _) | omega | (simp at *; omega) | (simp; done)))))) ((first | (go_at_call 22; refine (allNil_any _).mono ?_; rintro e W1 ⟨v1, rfl, ho1, hb1⟩; have hz1 := hb1.size; obtain ⟨ao1, c1, rfl⟩ := owns_shape ho1; clear ho1) | (go_at_call 15; refine (ofNil_any f.id _).mono ?_; rintro e W2 ⟨v2, rfl, ho2, hb2⟩; have hz2 := hb2.size; obtain ⟨ao2, c2, rfl⟩ := owns_shape ho2; clear ho2) | (go_at_call 11; refine (atNil_any f.tk _).mono ?_; rintro e W3 ⟨v3, rfl, ho3, hb3⟩; have hz3 := hb3.size; obtain ⟨ao3, c3, rfl⟩ := owns_shape ho3; clear ho3) | (go_at_call 21; refine (idsNil_any _).mono ?_; rintro e W4 ⟨v4, rfl, ho4, hb4⟩; have hz4 := hb4.size; obtain ⟨ao4, c4, rfl⟩ := owns_shape ho4; clear ho4) | (go_at_call 25; refine (lenNil_any _).mono ?_; rintro e W5 ⟨rfl, hb5⟩; have hz5 := hb5.size)))
  all_goals
    go_wp2
    go_ret
    exact ⟨rfl, HB1.out.trans (Below.mono ‹_ ∧ _ ∧ Below w1.heap.size w1 _›.2.2 (by omega))⟩
end Go.Proofs.Ytofkjmhcddgeeaa
