/- vergelaw12.alive. -/
import Derived.Test.YtofkjmhcddgeeaaLog
import Derived.Test.YtofkjmhcddgeeaaSame
import Derived.Test.YtofkjmhcddgeeaaFaults
import Derived.Deep.RegionWith
import Derived.Deep.RegionHeld3
namespace Go.Proofs.Ytofkjmhcddgeeaa
open Go.RowKit Go.Shelf

def fA : Fir := ⟨64, 1, 5, 5⟩
def fB : Fir := ⟨65, 1, 7, 6⟩
theorem LogIs.later {B : Nat} {w w' : World} {bl : Nat} {l : List Fir} (h : LogIs B w bl l) (hb : Below w.heap.size w w') : LogIs B w' bl l := by
  obtain ⟨v, hbox, hown⟩ := h
  exact ⟨v, (hb.block bl hbox.lt).trans hbox, hown.kept (grownBy_of_below hb none) (by cases v.ownBlock <;> simp)⟩
/-- What the rest of alive leans on: the log; the two firings. -/
def AliveAt (B bl ba : Nat) (W : World) : Prop :=
  LogIs B W bl [fA, fB] ∧ W.cell? ⟨ba, 0, none⟩ = some (.int .u64 64) ∧ W.cell? ⟨ba, 1, none⟩ = some (.int .u64 1) ∧ W.cell? ⟨ba, 2, none⟩ = some (.int .u64 5) ∧ W.cell? ⟨ba, 3, none⟩ = some (.int .u64 5)
set_option maxHeartbeats 2000000 in
theorem alive12_any (w : World) : Calls Try.prog 8 #[] w fun e w' => e = .returned (.bool true) ∧ Below w.heap.size w w' := by
  go_enter Try.func8, Try.ntmps8
  go_wp2_with (go_at_call 9; refine (new_any _).mono ?_; rintro e w1 ⟨rfl, hbox1, hb1, hs1⟩)
  have hbox2 := ((hbox1.alloc (.cells (firC fA).toArray 30)).alloc (.cells (firC fB).toArray 30)).alloc (.cells ([fA, fB].flatMap firC).toArray 30)
  have hrd := Reads.built ((w1.alloc (.cells (firC fA).toArray 30)).alloc (.cells (firC fB).toArray 30)) ([fA, fB].flatMap firC) 30 2
  simp only [World.size_alloc, hs1] at hrd
  refine (put_any w.heap.size w.heap.size [] [fA, fB] _ _ _ (by simp; omega) hbox2 (World.ownsRow_nil _ _ _ _) hrd (by simp)).mono ?_
  rintro e w2 ⟨rfl, hlog, hchg⟩
  have hB2 : Below w.heap.size w w2 := (((hb1.alloc (by omega) _).alloc (by simp; omega) _).alloc (by simp; omega) _).trans (hchg.below (by simp; omega) (fun k hk => by rcases hk with rfl | h; exact Nat.le_refl _; simp [Value.ownBlock] at h))
  have hA : AliveAt w.heap.size w.heap.size (w.heap.size + 1) w2 := by
    have ca : ∀ (j : Nat) (u : Value), (firC fA)[j]? = some u → w2.cell? ⟨w.heap.size + 1, j, none⟩ = some u := by
      intro j u hu
      have h := cells_new w1 (firC fA) 30 j u hu
      rw [Addr.add_lit, Nat.zero_add, hs1] at h
      exact hchg.cell (by simp [Value.ownBlock]) (cell_alloc_keep _ (cell_alloc_keep _ h))
    exact ⟨hlog, ca 0 _ rfl, ca 1 _ rfl, ca 2 _ rfl, ca 3 _ rfl⟩
  have HB := hid hB2
  clear hbox1 hbox2 hrd hlog hchg hb1 hB2
  have hsz : w.heap.size + 1 < w2.heap.size := World.block_lt_of_cell? w2 _ hA.2.1
  obtain ⟨hlog, a0, a1, a2, a3⟩ := hA
  have HL := hid hlog
  clear hlog
  go_wp2
  have HK : Hid (∀ W, Below w2.heap.size w2 W → W.cell? ⟨w.heap.size + 1, 0, none⟩ = some (.int .u64 64) ∧ W.cell? ⟨w.heap.size + 1, 1, none⟩ = some (.int .u64 1) ∧ W.cell? ⟨w.heap.size + 1, 2, none⟩ = some (.int .u64 5) ∧ W.cell? ⟨w.heap.size + 1, 3, none⟩ = some (.int .u64 5) ∧ Below w2.heap.size w2 W) := fun W hB => ⟨(hB.cell hsz).trans a0, (hB.cell hsz).trans a1, (hB.cell hsz).trans a2, (hB.cell hsz).trans a3, hB⟩
  clear a0 a1 a2 a3
  go_region_held3 (fun W => W.cell? ⟨w.heap.size + 1, 0, none⟩ = some (.int .u64 64) ∧ W.cell? ⟨w.heap.size + 1, 1, none⟩ = some (.int .u64 1) ∧ W.cell? ⟨w.heap.size + 1, 2, none⟩ = some (.int .u64 5) ∧ W.cell? ⟨w.heap.size + 1, 3, none⟩ = some (.int .u64 5) ∧ Below w2.heap.size w2 W) ((exact HK.out _ (by (repeat' (first | (with_reducible exact Below.refl _ _) | (with_reducible assumption) | (with_reducible refine Below.alloc ?_ ?_ _) | (with_reducible refine Below.drew ?_) | (with_reducible refine below_drewN ?_ _) | (with_reducible refine Below.trans ?_ (Below.mono (by assumption) ?_)) | (with_reducible exact Nat.le_refl _) | omega | (simp at *; omega) | (simp; done))))))
    ((first | (go_at_call 15; refine (of_any w.heap.size w.heap.size [fA, fB] 64 _ (HL.out.later (‹_ ∧ _ ∧ _ ∧ _ ∧ Below w2.heap.size w2 _›.2.2.2.2)) (by simp)).mono ?_; rintro e W1 ⟨v1, rfl, hown1, hb1⟩; have hz1 := hb1.size) | (go_at_call 12; refine (same_b [fA] [fA] _ _ _ ((Reads.of_owns hown1).below (by (repeat' (first | (with_reducible exact Below.refl _ _) | (with_reducible assumption) | (with_reducible refine Below.alloc ?_ ?_ _) | (with_reducible refine Below.drew ?_) | (with_reducible refine below_drewN ?_ _) | (with_reducible refine Below.trans ?_ (Below.mono (by assumption) ?_)) | (with_reducible exact Nat.le_refl _) | omega | (simp at *; omega) | (simp; done)))) (Nat.le_refl _)) ?_ (by simp)).mono ?_; (focus (first | (refine Reads.built_at _ [.int .u64 64, .int .u64 1, .int .u64 5, .int .u64 5] _ 1 _ ?_; (first | rfl | (simp; done))) | (refine Reads.below (B := (w2.alloc (.cells ([.int .u64 64, .int .u64 1, .int .u64 5, .int .u64 5]).toArray 30)).heap.size) (Reads.built_at w2 [.int .u64 64, .int .u64 1, .int .u64 5, .int .u64 5] 30 1 _ ?_) ?_ ?_; (first | rfl | (simp; done)); (repeat' (first | (with_reducible exact Below.refl _ _) | (with_reducible assumption) | (with_reducible refine Below.alloc ?_ ?_ _) | (with_reducible refine Below.drew ?_) | (with_reducible refine below_drewN ?_ _) | (with_reducible refine Below.trans ?_ (Below.mono (by assumption) ?_)) | (with_reducible exact Nat.le_refl _) | omega | (simp at *; omega) | (simp; done))); done))); rintro e W2 ⟨rfl, hb2⟩; have hz2 := hb2.size) | (go_at_call 22; refine (all_any w.heap.size w.heap.size [fA, fB] _ (HL.out.later (‹_ ∧ _ ∧ _ ∧ _ ∧ Below w2.heap.size w2 _›.2.2.2.2)) (by simp)).mono ?_; rintro e W3 ⟨v3, rfl, hown3, hb3⟩; have hz3 := hb3.size) | (go_at_call 17; refine (faults_any [fA, fB] _ _ ((Reads.of_owns hown3).below (by (repeat' (first | (with_reducible exact Below.refl _ _) | (with_reducible assumption) | (with_reducible refine Below.alloc ?_ ?_ _) | (with_reducible refine Below.drew ?_) | (with_reducible refine below_drewN ?_ _) | (with_reducible refine Below.trans ?_ (Below.mono (by assumption) ?_)) | (with_reducible exact Nat.le_refl _) | omega | (simp at *; omega) | (simp; done)))) (Nat.le_refl _)) (by simp)).mono ?_; rintro e W4 ⟨v4, rfl, hown4, hb4⟩; have hz4 := hb4.size) | (go_at_call 16; refine (ints_b [1] [1] _ _ _ ((Reads.of_owns hown4).below (by (repeat' (first | (with_reducible exact Below.refl _ _) | (with_reducible assumption) | (with_reducible refine Below.alloc ?_ ?_ _) | (with_reducible refine Below.drew ?_) | (with_reducible refine below_drewN ?_ _) | (with_reducible refine Below.trans ?_ (Below.mono (by assumption) ?_)) | (with_reducible exact Nat.le_refl _) | omega | (simp at *; omega) | (simp; done)))) (Nat.le_refl _)) ?_ (by simp)).mono ?_; (focus (first | (refine Reads.built_at _ [.int .i64 1] _ 1 _ ?_; (first | rfl | (simp; done))) | (refine Reads.below (B := (W2.alloc (.cells ([.int .i64 1]).toArray 3)).heap.size) (Reads.built_at W2 [.int .i64 1] 3 1 _ ?_) ?_ ?_; (first | rfl | (simp; done)); (repeat' (first | (with_reducible exact Below.refl _ _) | (with_reducible assumption) | (with_reducible refine Below.alloc ?_ ?_ _) | (with_reducible refine Below.drew ?_) | (with_reducible refine below_drewN ?_ _) | (with_reducible refine Below.trans ?_ (Below.mono (by assumption) ?_)) | (with_reducible exact Nat.le_refl _) | omega | (simp at *; omega) | (simp; done))); done) | (refine Reads.below (B := (W3.alloc (.cells ([.int .i64 1]).toArray 3)).heap.size) (Reads.built_at W3 [.int .i64 1] 3 1 _ ?_) ?_ ?_; (first | rfl | (simp; done)); (repeat' (first | (with_reducible exact Below.refl _ _) | (with_reducible assumption) | (with_reducible refine Below.alloc ?_ ?_ _) | (with_reducible refine Below.drew ?_) | (with_reducible refine below_drewN ?_ _) | (with_reducible refine Below.trans ?_ (Below.mono (by assumption) ?_)) | (with_reducible exact Nat.le_refl _) | omega | (simp at *; omega) | (simp; done))); done))); rintro e W5 ⟨rfl, hb5⟩; have hz5 := hb5.size)))
  all_goals go_wp2
  all_goals go_ret
  all_goals exact ⟨rfl, HB.out.trans (Below.mono ‹_ ∧ _ ∧ _ ∧ _ ∧ Below w2.heap.size w2 _›.2.2.2.2 (by omega))⟩
end Go.Proofs.Ytofkjmhcddgeeaa
