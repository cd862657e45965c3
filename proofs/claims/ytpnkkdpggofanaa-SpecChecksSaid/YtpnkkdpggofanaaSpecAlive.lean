/- vergelaw21's alive, right by their walks. -/
import Derived.Test.YtpnkkdpggofanaaSpecPlay
namespace Go.Proofs.Ytpnkkdpggofanaa
open Go.RowKit

def lA : List Ev := [⟨1, 0, 1, 1, 0, 0, 5, 0, 0, 0⟩, ⟨3, 0, 1, 1, 64, 1, 5, 0, 0, 0⟩, ⟨2, 0, 1, 1, 64, 1, 0, 0, 0, 0⟩, ⟨1, 1, 2, 7, 0, 0, 0, 0, 0, 0⟩, ⟨11, 1, 2, 7, 0, 0, 0, 0, 1, 0⟩, ⟨4, 1, 2, 7, 64, 1, 5, 0, 0, 0⟩]
def eA : Ev := ⟨5, 1, 2, 7, 64, 1, 5, 0, 5, 0⟩
theorem chkA : chkV 1 lA = .tuple #[.int .i64 6, .int .i64 0] := by
  have h : (playM (new 1) lA).2 = 6 := by decide +kernel
  unfold chkV; rw [h]; rfl
theorem chkB : chkV 1 (lA ++ [eA]) = .tuple #[.int .i64 6, .int .i64 7] := by
  have h : (playM (new 1) (lA ++ [eA])).2 = 6 := by decide +kernel
  unfold chkV; rw [h]; rfl
theorem ev_wf (e : Ev) (h : decide (-9223372036854775808 ≤ e.kind ∧ e.kind ≤ 9223372036854775807 ∧ -9223372036854775808 ≤ e.thr ∧ e.thr ≤ 9223372036854775807 ∧ -9223372036854775808 ≤ e.call ∧ e.call ≤ 9223372036854775807 ∧ -9223372036854775808 ≤ e.what ∧ e.what ≤ 9223372036854775807 ∧ 0 ≤ e.id ∧ e.id ≤ 18446744073709551615 ∧ 0 ≤ e.gen ∧ e.gen ≤ 18446744073709551615 ∧ 0 ≤ e.dl ∧ e.dl ≤ 18446744073709551615 ∧ 0 ≤ e.per ∧ e.per ≤ 18446744073709551615 ∧ 0 ≤ e.tk ∧ e.tk ≤ 18446744073709551615 ∧ -9223372036854775808 ≤ e.err ∧ e.err ≤ 9223372036854775807) = true) : e.wf := by
  have := of_decide_eq_true h
  exact ⟨⟨by omega, by omega⟩, ⟨by omega, by omega⟩, ⟨by omega, by omega⟩, ⟨by omega, by omega⟩, ⟨by omega, by omega⟩, ⟨by omega, by omega⟩, ⟨by omega, by omega⟩, ⟨by omega, by omega⟩, ⟨by omega, by omega⟩, ⟨by omega, by omega⟩⟩
theorem eA_wf : eA.wf := ev_wf _ (by decide)
theorem lA_wf : ∀ e ∈ lA, e.wf := by
  intro e he
  simp only [lA, List.mem_cons, List.not_mem_nil, or_false] at he
  rcases he with rfl | rfl | rfl | rfl | rfl | rfl <;> exact ev_wf _ (by decide)
theorem lAe_wf : ∀ e ∈ lA ++ [eA], e.wf := by
  intro e he
  rcases List.mem_append.1 he with h | h
  · exact lA_wf e h
  · simp at h; subst h; exact eA_wf
theorem ev_info : (Try.prog.info? 31).map (fun i => (i.zero, i.size, i.bytes)) = some (some (evV ⟨0, 0, 0, 0, 0, 0, 0, 0, 0, 0⟩), 10, 80) := by kernel_rfl

theorem evC_one (e : Ev) : ∀ u ∈ evC e, u.oneCell' = true := by
  intro u hu
  simp only [evC, List.mem_cons, List.not_mem_nil, or_false] at hu
  rcases hu with rfl | rfl | rfl | rfl | rfl | rfl | rfl | rfl | rfl | rfl <;> rfl
theorem evs_one (l : List Ev) : ∀ u ∈ l.flatMap evC, u.oneCell' = true := by
  intro u hu
  obtain ⟨e, _, he⟩ := List.mem_flatMap.1 hu
  exact evC_one e u he
theorem owns_below {w w' : World} {B : Nat} {e : TypeId} {size : Nat} {v : Value} {n : Nat} {xs : List Value} (h : w.ownsRow B e size v n xs) (hc : Below w.heap.size w w') : w'.ownsRow B e size v n xs :=
  (Chg.of_below (S := fun k => w.heap.size ≤ k) hc (fun k _ h => h)).owns h (fun k hk h' => by have := (h.lt k hk).2; omega)

theorem cellsA : (lA.flatMap evC).toArray = #[.int .i64 1, .int .i64 0, .int .i64 1, .int .i64 1, .int .u64 0, .int .u64 0, .int .u64 5, .int .u64 0, .int .u64 0, .int .i64 0, .int .i64 3, .int .i64 0, .int .i64 1, .int .i64 1, .int .u64 64, .int .u64 1, .int .u64 5, .int .u64 0, .int .u64 0, .int .i64 0, .int .i64 2, .int .i64 0, .int .i64 1, .int .i64 1, .int .u64 64, .int .u64 1, .int .u64 0, .int .u64 0, .int .u64 0, .int .i64 0, .int .i64 1, .int .i64 1, .int .i64 2, .int .i64 7, .int .u64 0, .int .u64 0, .int .u64 0, .int .u64 0, .int .u64 0, .int .i64 0, .int .i64 11, .int .i64 1, .int .i64 2, .int .i64 7, .int .u64 0, .int .u64 0, .int .u64 0, .int .u64 0, .int .u64 1, .int .i64 0, .int .i64 4, .int .i64 1, .int .i64 2, .int .i64 7, .int .u64 64, .int .u64 1, .int .u64 5, .int .u64 0, .int .u64 0, .int .i64 0] := by rfl
theorem cellsE : (evC eA).toArray = #[.int .i64 5, .int .i64 1, .int .i64 2, .int .i64 7, .int .u64 64, .int .u64 1, .int .u64 5, .int .u64 0, .int .u64 5, .int .i64 0] := by rfl

set_option maxRecDepth 20000 in
set_option maxHeartbeats 4000000 in
theorem alive21_any (w : World) : Calls Try.prog 14 #[] w fun x w' => x = .returned (.bool true) ∧ Below w.heap.size w w' := by
  obtain ⟨i0, hi, hz0, hz1, hz2⟩ := info_parts ev_info
  have hRA := hid (Reads.built_at w (lA.flatMap evC) 31 6 w.heap.size rfl)
  have hOA := hid (World.ownsRow_lit w (lA.flatMap evC).toArray 6 (base := w.heap.size) (size := 10) (e := 31) (Nat.le_refl _) (by decide) rfl)
  have hBA := hid ((Below.refl w.heap.size w).alloc (Nat.le_refl _) (.cells (lA.flatMap evC).toArray 31))
  have hRE := hid (fun w1 : World => Reads.built_at w1 (evC eA) 31 1 w1.heap.size rfl)
  have hlA : (lA.flatMap evC).toArray.toList = lA.flatMap evC := by simp
  rw [hlA] at hOA
  rw [cellsA] at hRA hOA hBA
  rw [cellsE] at hRE
  have hlen : lA.length = 6 := rfl
  go_enter Try.func14, Try.ntmps14
  go_wp2_with (first
    | (go_at_call 16; refine (check_any 1 lA _ _ hRA.out lA_wf (by decide)).mono ?_; rintro x w1 ⟨rfl, hb1⟩; rw [chkA]; have hown := hid (owns_below hOA.out hb1); have HB1 := hid (hBA.out.trans (hb1.mono (by simp))); clear hb1 hRA hOA hBA)
    | (at_builtin; refine wpList_append_any _ rfl _ _ 22 rfl w.heap.size 31 i0 _ 10 80 Try.underlying22 hi hz0 hz1 hz2 rfl (by decide) _ 6 (lA.flatMap evC) rfl (hown.out.alloc _) _ 1 (evC eA) rfl (hRE.out w1) rfl (evC_one eA) (by decide) (by decide) (Nat.le_trans HB1.out.size (by simp)) ?_; intro bo cap w2 hown' hgrow; have HR2 := hid (show Reads w2 (.slice bo (6 + 1) cap) (lA ++ [eA]).length ((lA ++ [eA]).flatMap evC) from by (rw [List.flatMap_append]; exact Reads.of_owns hown')); have HB2 := hid (below_appended HB1.out HB1.out.size hown.out hgrow); clear hown' hgrow)
    | (go_at_call 16; refine (check_any 1 (lA ++ [eA]) _ _ HR2.out lAe_wf (by decide)).mono ?_; rintro x w3 ⟨rfl, hb3⟩; rw [chkB]; have HB3 := hid (HB2.out.trans (hb3.mono HB2.out.size)); clear hb3))
  go_ret
  exact ⟨rfl, HB3.out⟩
end Go.Proofs.Ytpnkkdpggofanaa
