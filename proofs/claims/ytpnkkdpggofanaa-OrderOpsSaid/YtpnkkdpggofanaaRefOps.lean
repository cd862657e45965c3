/- vergeref24.Ops, by its walk. -/
import Derived.Test.YtpnkkdpggofanaaRefLaw
import Derived.Test.YtpnkkdpggofanaaOrder2
namespace Go.Proofs.Ytpnkkdpggofanaa
open Go.Shelf Go.RowKit Go.Lib Go.Sort Go.Proofs

theorem rop_info : (Try.prog.info? 51).map (fun i => (i.zero, i.size, i.bytes)) = some (some (.agg #[.int .i64 0, .int .i64 0, .int .i64 0, .int .i64 0, .int .i64 0, .int .i64 0]), 6, 48) := by kernel_rfl
theorem refA_succ (l : List Ev) (k : Nat) (h : k < l.length) : refA l (k + 1) = if l[k].kind = 1 ∧ firstE l l[k].call 1 = (k : Int) then refA l k ++ [⟨l[k].call, l[k].thr, l[k].what, k, firstE l l[k].call 3, firstE l l[k].call 2⟩] else refA l k := by
  rw [refA, List.getElem?_eq_getElem h]
theorem refA_len (l : List Ev) (k : Nat) : (refA l k).length ≤ k := by
  induction k with
  | zero => simp [refA]
  | succ k ih =>
    rw [refA]
    cases l[k]? with
    | none => simp only; omega
    | some e =>
      simp only
      split
      · simp; exact ih
      · omega

set_option maxRecDepth 1000000 in
set_option maxHeartbeats 8000000 in
theorem refops_any (l : List Ev) (v : Value) (w : World) (h1 : Reads w v l.length (l.flatMap evC)) (hn : l.length ≤ 1000000) :
    Calls Try.prog 23 #[v] w fun x w' => ∃ v', x = .returned v' ∧ w'.ownsRow w.heap.size 51 6 v' (refOps l).length ((refOps l).flatMap opC) ∧ Below w.heap.size w w' := by
  have HRD := hid h1
  obtain ⟨ao, c1, rfl, g1⟩ := h1.evs
  have H1 := hid g1
  clear g1 h1
  obtain ⟨i0, hi, hz0, hz1, hz2⟩ := info_parts rop_info
  have HEND := hid (show refOps l = refA l l.length from rfl)
  go_enter Try.func23, Try.ntmps23
  go_wp2
  go_loopw [3, 4] (fun o i wr => ∃ k : Nat, k ≤ l.length ∧ i = .int .i64 k ∧ wr.ownsRow w.heap.size 51 6 o (refA l k).length ((refA l k).flatMap opC) ∧ Below w.heap.size w wr) (fun _ i _ => l.length - (intOf i).toNat)
  case atStart => exact ⟨0, by omega, rfl, by simpa [refA] using World.ownsRow_nil _ _ _ _, Below.refl _ _⟩
  case round =>
    obtain ⟨k, hk, rfl, hown, hb⟩ := hrel
    have hle := refA_len l k
    by_cases hlt : k < l.length
    · obtain ⟨b, o, hao, hc⟩ := H1.out k l[k] (List.getElem?_eq_getElem hlt)
      obtain rfl := hao
      have q0 : wr.cell? ⟨b, o + k * 10, none⟩ = some (.int .i64 l[k].kind) := (hb.cell (World.block_lt_of_cell? _ _ (hc 0 _ rfl))).trans (hc 0 _ rfl)
      have q2 : wr.cell? ⟨b, o + k * 10 + 2, none⟩ = some (.int .i64 l[k].call) := (hb.cell (World.block_lt_of_cell? _ _ (hc 2 _ rfl))).trans (hc 2 _ rfl)
      have HC := hid hc
      have HB := hid hb
      have HO := hid hown
      have HS := hid (refA_succ l k hlt)
      have hsz := hb.size
      clear hb hc hown
      by_cases h5 : l[k].kind = 1
      · have h5' : (l[k].kind == 1) = true := by simp [h5]
        by_cases h6 : firstE l l[k].call 1 = (k : Int)
        · have hs2 := HS.out
          rw [if_pos ⟨h5, h6⟩] at hs2
          have HS2 := hid hs2
          have H6 := hid h6
          clear h5 h6 hs2 HS
          obtain ⟨v5, w5, hr5, hown5, hg5, _, _⟩ := run_append_own_at (P := Try.prog) (wr.drew.alloc (.cells (opC ⟨l[k].call, l[k].thr, l[k].what, k, firstE l l[k].call 3, firstE l l[k].call 2⟩).toArray 51)) w.heap.size 49 49 51 i0 _ 6 48 Try.underlying49 hi hz0 hz1 hz2 rfl (by decide) u3 _ _ (HO.out.drew.alloc _) ⟨wr.heap.size, 0, none⟩ 1 1 (opC ⟨l[k].call, l[k].thr, l[k].what, k, firstE l l[k].call 3, firstE l l[k].call 2⟩) rfl (cells_new wr.drew (opC ⟨l[k].call, l[k].thr, l[k].what, k, firstE l l[k].call 3, firstE l l[k].call 2⟩) 51) (opC_one _) (by unfold maxLen; omega) (by omega) (Nat.le_trans hsz (by simp))
          obtain ⟨bo5, cap5, rfl⟩ := owns_shape hown5
          have HR5 := hid hr5
          have HO5 := hid hown5
          have HB5 := hid (((HB.out.drew.alloc hsz (.cells (opC ⟨l[k].call, l[k].thr, l[k].what, k, firstE l l[k].call 3, firstE l l[k].call 2⟩).toArray 51)).grown hg5 (Nat.le_trans hsz (by simp)) (fun j hj => (HO.out.lt j hj).1)))
          clear hown5 hg5 hr5 hi hz0 hz1 hz2
          go_wp2_with (go_at_call 43; refine (first_any l _ _ _ _ (HRD.out.below HB.out (Nat.le_refl _)) hn).mono ?_; rintro e w' ⟨rfl, hw⟩; rw [hw, H6.out])
          refine wp_region_held_drew (S := fun W => Below w.heap.size w W) (by kernel_rfl) HB.out.drew (fun hS => ?_)
          show wpAnyH _ _ _ _ _ 35 _ _ wr.drew
          refine wpAnyH_take (i := 0) (v := u3) rfl (by kernel_rfl) (by kernel_rfl) (by kernel_rfl) (fun _ _ _ h => h) (Or.inl ⟨by rfl, fun W hSw => (by go_simp)⟩) hS ?_
          refine wpAnyH_take (i := 1) (v := .slice (some ⟨b, o, none⟩) l.length c1) rfl (by kernel_rfl) (by kernel_rfl) (by kernel_rfl) (fun _ _ _ h => h) (Or.inl ⟨by rfl, fun W hSw => (by go_simp)⟩) hS ?_
          refine wpAnyH_take (i := 2) (v := .int .i64 k) rfl (by kernel_rfl) (by kernel_rfl) (by kernel_rfl) (fun _ _ _ h => h) (Or.inl ⟨by rfl, fun W hSw => (by go_simp)⟩) hS ?_
          refine wpAnyH_take (i := 3) (v := .pointer (some ⟨b, o + k * 10, none⟩)) rfl (by kernel_rfl) (by kernel_rfl) (by kernel_rfl) (fun _ _ _ h => h) (Or.inl ⟨by rfl, fun W hSw => (by go_simp)⟩) hS ?_
          refine wpAnyH_take (i := 4) (v := .pointer (some ⟨b, o + k * 10 + 2, none⟩)) rfl (by kernel_rfl) (by kernel_rfl) (by kernel_rfl) (fun _ _ _ h => h) (Or.inl ⟨by rfl, fun W hSw => (by go_simp)⟩) hS ?_
          refine wpAnyH_take (i := 5) (v := .int .i64 l[k].call) rfl (by kernel_rfl) (by kernel_rfl) (by kernel_rfl) (fun _ _ _ h => h) (Or.inl ⟨by rfl, fun W hSw => (by have qq := (hSw.cell (World.block_lt_of_cell? _ _ (HC.out 2 _ rfl))).trans (HC.out 2 _ rfl); go_simp)⟩) hS ?_
          refine wpAnyH_take (i := 6) (v := .slice (some ⟨b, o, none⟩) l.length c1) rfl (by kernel_rfl) (by kernel_rfl) (by kernel_rfl) (fun _ _ _ h => h) (Or.inl ⟨by rfl, fun W hSw => (by go_simp)⟩) hS ?_
          refine wpAnyH_take (i := 7) (v := .int .i64 k) rfl (by kernel_rfl) (by kernel_rfl) (by kernel_rfl) (fun _ _ _ h => h) (Or.inl ⟨by rfl, fun W hSw => (by go_simp)⟩) hS ?_
          refine wpAnyH_take (i := 8) (v := .pointer (some ⟨b, o + k * 10, none⟩)) rfl (by kernel_rfl) (by kernel_rfl) (by kernel_rfl) (fun _ _ _ h => h) (Or.inl ⟨by rfl, fun W hSw => (by go_simp)⟩) hS ?_
          refine wpAnyH_take (i := 9) (v := .pointer (some ⟨b, o + k * 10 + 1, none⟩)) rfl (by kernel_rfl) (by kernel_rfl) (by kernel_rfl) (fun _ _ _ h => h) (Or.inl ⟨by rfl, fun W hSw => (by go_simp)⟩) hS ?_
          refine wpAnyH_take (i := 10) (v := .int .i64 l[k].thr) rfl (by kernel_rfl) (by kernel_rfl) (by kernel_rfl) (fun _ _ _ h => h) (Or.inl ⟨by rfl, fun W hSw => (by have qq := (hSw.cell (World.block_lt_of_cell? _ _ (HC.out 1 _ rfl))).trans (HC.out 1 _ rfl); go_simp)⟩) hS ?_
          refine wpAnyH_take (i := 11) (v := .slice (some ⟨b, o, none⟩) l.length c1) rfl (by kernel_rfl) (by kernel_rfl) (by kernel_rfl) (fun _ _ _ h => h) (Or.inl ⟨by rfl, fun W hSw => (by go_simp)⟩) hS ?_
          refine wpAnyH_take (i := 12) (v := .int .i64 k) rfl (by kernel_rfl) (by kernel_rfl) (by kernel_rfl) (fun _ _ _ h => h) (Or.inl ⟨by rfl, fun W hSw => (by go_simp)⟩) hS ?_
          refine wpAnyH_take (i := 13) (v := .pointer (some ⟨b, o + k * 10, none⟩)) rfl (by kernel_rfl) (by kernel_rfl) (by kernel_rfl) (fun _ _ _ h => h) (Or.inl ⟨by rfl, fun W hSw => (by go_simp)⟩) hS ?_
          refine wpAnyH_take (i := 14) (v := .pointer (some ⟨b, o + k * 10 + 3, none⟩)) rfl (by kernel_rfl) (by kernel_rfl) (by kernel_rfl) (fun _ _ _ h => h) (Or.inl ⟨by rfl, fun W hSw => (by go_simp)⟩) hS ?_
          refine wpAnyH_take (i := 15) (v := .int .i64 l[k].what) rfl (by kernel_rfl) (by kernel_rfl) (by kernel_rfl) (fun _ _ _ h => h) (Or.inl ⟨by rfl, fun W hSw => (by have qq := (hSw.cell (World.block_lt_of_cell? _ _ (HC.out 3 _ rfl))).trans (HC.out 3 _ rfl); go_simp)⟩) hS ?_
          refine wpAnyH_take (i := 16) (v := .int .i64 k) rfl (by kernel_rfl) (by kernel_rfl) (by kernel_rfl) (fun _ _ _ h => h) (Or.inl ⟨by rfl, fun W hSw => (by go_simp)⟩) hS ?_
          refine wpAnyH_take (i := 17) (v := .slice (some ⟨b, o, none⟩) l.length c1) rfl (by kernel_rfl) (by kernel_rfl) (by kernel_rfl) (fun _ _ _ h => h) (Or.inl ⟨by rfl, fun W hSw => (by go_simp)⟩) hS ?_
          refine wpAnyH_take (i := 18) (v := .slice (some ⟨b, o, none⟩) l.length c1) rfl (by kernel_rfl) (by kernel_rfl) (by kernel_rfl) (fun _ _ _ h => h) (Or.inl ⟨by rfl, fun W hSw => (by go_simp)⟩) hS ?_
          refine wpAnyH_take (i := 19) (v := .int .i64 k) rfl (by kernel_rfl) (by kernel_rfl) (by kernel_rfl) (fun _ _ _ h => h) (Or.inl ⟨by rfl, fun W hSw => (by go_simp)⟩) hS ?_
          refine wpAnyH_take (i := 20) (v := .pointer (some ⟨b, o + k * 10, none⟩)) rfl (by kernel_rfl) (by kernel_rfl) (by kernel_rfl) (fun _ _ _ h => h) (Or.inl ⟨by rfl, fun W hSw => (by go_simp)⟩) hS ?_
          refine wpAnyH_take (i := 21) (v := .pointer (some ⟨b, o + k * 10 + 2, none⟩)) rfl (by kernel_rfl) (by kernel_rfl) (by kernel_rfl) (fun _ _ _ h => h) (Or.inl ⟨by rfl, fun W hSw => (by go_simp)⟩) hS ?_
          refine wpAnyH_take (i := 22) (v := .int .i64 l[k].call) rfl (by kernel_rfl) (by kernel_rfl) (by kernel_rfl) (fun _ _ _ h => h) (Or.inl ⟨by rfl, fun W hSw => (by have qq := (hSw.cell (World.block_lt_of_cell? _ _ (HC.out 2 _ rfl))).trans (HC.out 2 _ rfl); go_simp)⟩) hS ?_
          refine wpAnyH_take (i := 24) (v := .slice (some ⟨b, o, none⟩) l.length c1) rfl (by kernel_rfl) (by kernel_rfl) (by kernel_rfl) (fun _ _ _ h => h) (Or.inl ⟨by rfl, fun W hSw => (by go_simp)⟩) hS ?_
          refine wpAnyH_take (i := 25) (v := .slice (some ⟨b, o, none⟩) l.length c1) rfl (by kernel_rfl) (by kernel_rfl) (by kernel_rfl) (fun _ _ _ h => h) (Or.inl ⟨by rfl, fun W hSw => (by go_simp)⟩) hS ?_
          refine wpAnyH_take (i := 26) (v := .int .i64 k) rfl (by kernel_rfl) (by kernel_rfl) (by kernel_rfl) (fun _ _ _ h => h) (Or.inl ⟨by rfl, fun W hSw => (by go_simp)⟩) hS ?_
          refine wpAnyH_take (i := 27) (v := .pointer (some ⟨b, o + k * 10, none⟩)) rfl (by kernel_rfl) (by kernel_rfl) (by kernel_rfl) (fun _ _ _ h => h) (Or.inl ⟨by rfl, fun W hSw => (by go_simp)⟩) hS ?_
          refine wpAnyH_take (i := 28) (v := .pointer (some ⟨b, o + k * 10 + 2, none⟩)) rfl (by kernel_rfl) (by kernel_rfl) (by kernel_rfl) (fun _ _ _ h => h) (Or.inl ⟨by rfl, fun W hSw => (by go_simp)⟩) hS ?_
          refine wpAnyH_take (i := 29) (v := .int .i64 l[k].call) rfl (by kernel_rfl) (by kernel_rfl) (by kernel_rfl) (fun _ _ _ h => h) (Or.inl ⟨by rfl, fun W hSw => (by have qq := (hSw.cell (World.block_lt_of_cell? _ _ (HC.out 2 _ rfl))).trans (HC.out 2 _ rfl); go_simp)⟩) hS ?_
          refine wpAnyH_one (k := 23) (by kernel_rfl) rfl (fun K hK => ?_)
          go_simp
          refine (first_any l l[k].call 3 _ _ (HRD.out.below hS (Nat.le_refl _)) hn).mono ?_
          rintro e w5 ⟨rfl, rfl⟩
          go_simp
          refine hK.out _ _ hS ?_
          clear hK K
          refine wpAnyH_one (k := 30) (by kernel_rfl) rfl (fun K hK => ?_)
          go_simp
          refine (first_any l l[k].call 2 _ _ (HRD.out.below hS (Nat.le_refl _)) hn).mono ?_
          rintro e w5 ⟨rfl, rfl⟩
          go_simp
          refine hK.out _ _ hS ?_
          clear hK K
          refine wpAnyH_take (i := 31) (v := .agg #[.int .i64 l[k].call, .int .i64 l[k].thr, .int .i64 l[k].what, .int .i64 k, .int .i64 (firstE l l[k].call 3), .int .i64 (firstE l l[k].call 2)]) rfl (by kernel_rfl) (by kernel_rfl) (by kernel_rfl) (fun _ _ _ h => h) (Or.inl ⟨by rfl, fun W hSw => (by go_simp)⟩) hS ?_
          refine wpAnyH_one (k := 32) (by kernel_rfl) rfl (fun K hK => ?_)
          go_simp
          refine hK.out _ _ (HB.out.drew.alloc hsz _) ?_
          clear hK K
          -- stop at 33: slot 61 := call { builtin append, args := #[t28, t60], argTypes := #[49, 49] }
          refine wpAnyH_append (k := 33) (by kernel_rfl) rfl rfl rfl rfl rfl HR5.out HB5.out ?_
          refine wpAnyH_one (k := 34) (by kernel_rfl) rfl (fun K hK => ?_)
          go_simp
          refine hK.out _ _ HB5.out ?_
          clear hK K
          refine wpAnyH_done (by kernel_rfl) ?_ _
          go_wp2
          go_roundw
          case rel => exact ⟨k + 1, by omega, by go_num, by rw [HS2.out]; simpa using HO5.out, HB5.out⟩
          case measure => simp [intOf]; omega
        · have hs2 := HS.out
          rw [if_neg (fun h => h6 h.2)] at hs2
          have HS2 := hid hs2
          have h6' : (firstE l l[k].call 1 == (k : Int)) = false := by simp [h6]
          clear h5 h6 hs2 HS
          go_wp2_with (go_at_call 43; refine (first_any l _ _ _ _ (HRD.out.below HB.out (Nat.le_refl _)) hn).mono ?_; rintro e w' ⟨rfl, hw⟩; rw [hw])
          go_roundw
          case rel => exact ⟨k + 1, by omega, by go_num, by rw [HS2.out]; exact HO.out, HB.out⟩
          case measure => simp [intOf]; omega
      · have h5' : (l[k].kind == 1) = false := by simp [h5]
        have hs2 := HS.out
        rw [if_neg (fun h => h5 h.1)] at hs2
        have HS2 := hid hs2
        clear h5 hs2 HS
        go_wp2
        go_roundw
        case rel => exact ⟨k + 1, by omega, by go_num, by rw [HS2.out]; exact HO.out, HB.out⟩
        case measure => simp [intOf]; omega
    · obtain rfl : k = l.length := by omega
      have HO := hid hown
      have HB := hid hb
      clear hown hb
      go_wp2
      go_ret
      exact ⟨_, rfl, by rw [HEND.out]; exact HO.out, HB.out⟩
end Go.Proofs.Ytpnkkdpggofanaa
