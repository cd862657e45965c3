/- vergelaw24.OrderOps, by its walk. -/
import Derived.Test.YtpnkkdpggofanaaOpsLaw
import Derived.Test.YtpnkkdpggofanaaRefRight
import Derived.Test.YtpnkkdpggofanaaRefSame
import Derived.Test.YtpnkkdpggofanaaAlive24
namespace Go.Proofs.Ytpnkkdpggofanaa
open Go.RowKit Go.Shelf Go.Sort

theorem refsame_t (l1 l2 : List OpD) (v1 v2 : Value) (w : World) (h1 : Reads w v1 l1.length (l1.flatMap opC)) (h2 : Reads w v2 l2.length (l2.flatMap opC)) (hn1 : l1.length ≤ 1000000) (he : l1 = l2) :
    Calls Try.prog 24 #[v1, v2] w fun e w' => e = .returned (.bool true) ∧ Below w.heap.size w w' :=
  (refsame_any l1 l2 v1 v2 w h1 h2 hn1).mono fun e w' ⟨h3, n, h4⟩ => ⟨by rw [h3, decide_eq_true he], by rw [h4]; exact below_drewN (Below.refl _ _) n⟩

set_option maxRecDepth 1000000 in
set_option maxHeartbeats 8000000 in
theorem ops_walk (l : List Ev) (ao : Option Addr) (c : Nat) (w : World) (h1 : Reads w (.slice ao l.length c) l.length (l.flatMap evC)) (hn : l.length ≤ 9223372036854775807) :
    Calls Try.prog 8 #[.slice ao l.length c] w fun x w' => x = .returned (.bool true) ∧ Below w.heap.size w w' := by
  by_cases h100 : 100 < l.length
  · have h100z : (100 : Int) < (l.length : Int) := by omega
    go_enter Try.func8, Try.ntmps8
    go_wp2_with (go_at_call 17; refine (alive24_any _).mono ?_; rintro e w1 ⟨rfl, hb1⟩; have HB1 := hid hb1; clear hb1)
    go_ret
    exact ⟨rfl, HB1.out⟩
  have h100z : ¬ (100 : Int) < (l.length : Int) := by omega
  have HRD := hid h1
  have HOPS := hid (fun W (h : Reads W (.slice ao l.length c) l.length (l.flatMap evC)) => ops_any l _ W h (by omega))
  have HROPS := hid (fun W (h : Reads W (.slice ao l.length c) l.length (l.flatMap evC)) => refops_any l _ W h (by omega))
  have HLINE := hid (fun W (h : Reads W (.slice ao l.length c) l.length (l.flatMap evC)) => show Calls Try.prog 19 #[.slice ao l.length c] W (fun x w' => ∃ v', x = .returned v' ∧ w'.ownsRow W.heap.size 3 1 v' (refLine l).length ((refLine l).map (Value.int .i64)) ∧ Below W.heap.size W w') from
    (line_any l _ W h (by omega)).mono fun x w' ⟨v', e, ho, hb⟩ => ⟨v', e, by rw [line_ref, List.length_map, List.map_map]; exact ho, hb⟩)
  have HRLINE := hid (fun W (h : Reads W (.slice ao l.length c) l.length (l.flatMap evC)) => refline_any l _ W h (by omega))
  have HRESP := hid (fun W (h : Reads W (.slice ao l.length c) l.length (l.flatMap evC)) => resp_any l _ W h (by omega))
  have HRRESP := hid (fun W (h : Reads W (.slice ao l.length c) l.length (l.flatMap evC)) => refresp_any l _ W h (by omega))
  have HMOST := hid (fun W (h : Reads W (.slice ao l.length c) l.length (l.flatMap evC)) => most_any l _ W h (by omega))
  have HRMOST := hid (fun W (h : Reads W (.slice ao l.length c) l.length (l.flatMap evC)) => refmost_any l _ W h (by omega))
  have HRIGHT := hid (fun W (h : Reads W (.slice ao l.length c) l.length (l.flatMap evC)) => refright_any l _ W h (by omega))
  have HRLL := hid (show (refLine l).length ≤ 100 by rw [line_ref, List.length_map]; have := doneOf_len l; have := List.countP_le_length (p := fun o : OpD => decide (0 ≤ o.did)) (l := opsOf l); have := opsOf_len l; omega)
  have HEQR := hid (resp_ref l)
  have HEQM := hid (fun h => most_ref l h l.length)
  rw [HEQR.out] at HRRESP
  rw [← opsOf_ref] at HEQM HROPS HRMOST HRIGHT
  have hol : (opsOf l).length ≤ 100 := by have := opsOf_len l; omega
  obtain ⟨i0, hi, hz0, hz1, hz2⟩ := info_parts rop_info
  clear h1
  generalize opsOf l = os at *
  generalize refLine l = rl at *
  generalize (rsp (doneOf l)).2 = rb at *
  have hbb : (rb != rb) = false := by simp
  clear HEQR
  go_enter Try.func8, Try.ntmps8
  go_wp2_with (first
    | (go_at_call 17; refine (alive24_any _).mono ?_; rintro e w1 ⟨rfl, hb1⟩; have HB1 := hid hb1; clear hb1)
    | (go_at_call 18; refine (HOPS.out w1 (HRD.out.below HB1.out (Nat.le_refl _))).mono ?_; rintro e w2 ⟨v2, rfl, ho2, hb2⟩; obtain ⟨ao2, c2, rfl⟩ := owns_shape ho2; have HO2 := hid ho2; have HB12 := hid hb2; have HB2 := hid (HB1.out.trans (hb2.mono HB1.out.size)); clear ho2 hb2)
    | (go_at_call 23; refine (HROPS.out w2 (HRD.out.below HB2.out (Nat.le_refl _))).mono ?_; rintro e w3 ⟨v3, rfl, ho3, hb3⟩; obtain ⟨ao3, c3, rfl⟩ := owns_shape ho3; have HO3 := hid ho3; have HB23 := hid hb3; have HB3 := hid (HB2.out.trans (hb3.mono HB2.out.size)); clear ho3 hb3))
  have HR2 := hid ((Reads.of_owns HO2.out).below HB23.out (Nat.le_refl _))
  have HR3 := hid (Reads.of_owns HO3.out)
  have HCELL : Hid (∀ j (hj : j < os.length), ∃ b o, ao2 = some ⟨b, o, none⟩ ∧ ∀ r u, (opC os[j])[r]? = some u → w3.cell? ⟨b, o + j * 6 + r, none⟩ = some u) := by
    intro j hj
    obtain ⟨ao', c', hv, hx⟩ := HR2.out.ops
    simp only [Value.slice.injEq] at hv
    obtain ⟨rfl, _, rfl⟩ := hv
    exact hx j _ (List.getElem?_eq_getElem hj)
  go_loopw [5, 6] (fun cv iv wr => ∃ k : Nat, k ≤ os.length ∧ iv = .int .i64 k ∧ wr.ownsRow w3.heap.size 51 6 cv k ((os.take k).flatMap opC) ∧ Below w3.heap.size w3 wr) (fun _ iv _ => os.length - (intOf iv).toNat)
  case atStart => exact ⟨0, by omega, rfl, World.ownsRow_nil _ _ _ _, Below.refl _ _⟩
  case round =>
  obtain ⟨k, hk, rfl, hown, hb⟩ := hrel
  have hsz := hb.size
  by_cases hlt : k < os.length
  · obtain ⟨b, o, hao, hc⟩ := HCELL.out k hlt
    obtain rfl := hao
    have hx : ∃ x, x = os[k] := ⟨_, rfl⟩
    obtain ⟨x, hx⟩ := hx
    rw [← hx] at hc
    have HT := hid (show (os.take (k + 1)).flatMap opC = (os.take k).flatMap opC ++ opC x by rw [take_snoc_list os k hlt, List.flatMap_append, hx]; simp)
    have HC := hid hc
    have HB := hid hb
    have HO := hid hown
    clear hc hb hown hx
    obtain ⟨v5, w5, hr5, hown5, hg5, _, _⟩ := run_append_own_at (P := Try.prog) (wr.drew.alloc (.cells (opC x).toArray 51)) w3.heap.size 49 49 51 i0 _ 6 48 Try.underlying49 hi hz0 hz1 hz2 rfl (by decide) u5 _ _ (HO.out.drew.alloc _) ⟨wr.heap.size, 0, none⟩ 1 1 (opC x) rfl (cells_new wr.drew (opC x) 51) (opC_one _) (by unfold maxLen; omega) (by omega) (Nat.le_trans hsz (by simp))
    obtain ⟨bo5, cap5, rfl⟩ := owns_shape hown5
    have HR5 := hid hr5
    have HO5 := hid hown5
    have HB5 := hid (((HB.out.drew.alloc hsz (.cells (opC x).toArray 51)).grown hg5 (Nat.le_trans hsz (by simp)) (fun j hj => (HO.out.lt j hj).1)))
    clear hown5 hg5 hr5 hi hz0 hz1 hz2
    go_wp2
    refine wp_region_held_drew (S := fun W => Below w3.heap.size w3 W) (by kernel_rfl) HB.out.drew (fun hS => ?_)
    show wpAnyH _ _ _ _ _ 35 _ _ wr.drew
    refine wpAnyH_take (i := 0) (v := u5) rfl (by kernel_rfl) (by kernel_rfl) (by kernel_rfl) (fun _ _ _ h => h) (Or.inl ⟨by rfl, fun W hSw => (by go_simp)⟩) hS ?_
    refine wpAnyH_take (i := 1) (v := .slice (some ⟨b, o, none⟩) os.length c2) rfl (by kernel_rfl) (by kernel_rfl) (by kernel_rfl) (fun _ _ _ h => h) (Or.inl ⟨by rfl, fun W hSw => (by go_simp)⟩) hS ?_
    refine wpAnyH_take (i := 2) (v := .int .i64 k) rfl (by kernel_rfl) (by kernel_rfl) (by kernel_rfl) (fun _ _ _ h => h) (Or.inl ⟨by rfl, fun W hSw => (by go_simp)⟩) hS ?_
    refine wpAnyH_take (i := 3) (v := .pointer (some ⟨b, o + k * 6, none⟩)) rfl (by kernel_rfl) (by kernel_rfl) (by kernel_rfl) (fun _ _ _ h => h) (Or.inl ⟨by rfl, fun W hSw => (by go_simp)⟩) hS ?_
    refine wpAnyH_take (i := 4) (v := .pointer (some ⟨b, o + k * 6, none⟩)) rfl (by kernel_rfl) (by kernel_rfl) (by kernel_rfl) (fun _ _ _ h => h) (Or.inl ⟨by rfl, fun W hSw => (by go_simp)⟩) hS ?_
    refine wpAnyH_take (i := 5) (v := .int .i64 x.no) rfl (by kernel_rfl) (by kernel_rfl) (by kernel_rfl) (fun _ _ _ h => h) (Or.inl ⟨by rfl, fun W hSw => (by have qq := (show W.cell? ⟨b, o + k * 6, none⟩ = some (.int .i64 x.no) from (hSw.cell (World.block_lt_of_cell? _ _ (HC.out 0 _ rfl))).trans (HC.out 0 _ rfl)); go_simp)⟩) hS ?_
    refine wpAnyH_take (i := 6) (v := .slice (some ⟨b, o, none⟩) os.length c2) rfl (by kernel_rfl) (by kernel_rfl) (by kernel_rfl) (fun _ _ _ h => h) (Or.inl ⟨by rfl, fun W hSw => (by go_simp)⟩) hS ?_
    refine wpAnyH_take (i := 7) (v := .int .i64 k) rfl (by kernel_rfl) (by kernel_rfl) (by kernel_rfl) (fun _ _ _ h => h) (Or.inl ⟨by rfl, fun W hSw => (by go_simp)⟩) hS ?_
    refine wpAnyH_take (i := 8) (v := .pointer (some ⟨b, o + k * 6, none⟩)) rfl (by kernel_rfl) (by kernel_rfl) (by kernel_rfl) (fun _ _ _ h => h) (Or.inl ⟨by rfl, fun W hSw => (by go_simp)⟩) hS ?_
    refine wpAnyH_take (i := 9) (v := .pointer (some ⟨b, o + k * 6 + 1, none⟩)) rfl (by kernel_rfl) (by kernel_rfl) (by kernel_rfl) (fun _ _ _ h => h) (Or.inl ⟨by rfl, fun W hSw => (by go_simp)⟩) hS ?_
    refine wpAnyH_take (i := 10) (v := .int .i64 x.thr) rfl (by kernel_rfl) (by kernel_rfl) (by kernel_rfl) (fun _ _ _ h => h) (Or.inl ⟨by rfl, fun W hSw => (by have qq := (show W.cell? ⟨b, o + k * 6 + 1, none⟩ = some (.int .i64 x.thr) from (hSw.cell (World.block_lt_of_cell? _ _ (HC.out 1 _ rfl))).trans (HC.out 1 _ rfl)); go_simp)⟩) hS ?_
    refine wpAnyH_take (i := 11) (v := .slice (some ⟨b, o, none⟩) os.length c2) rfl (by kernel_rfl) (by kernel_rfl) (by kernel_rfl) (fun _ _ _ h => h) (Or.inl ⟨by rfl, fun W hSw => (by go_simp)⟩) hS ?_
    refine wpAnyH_take (i := 12) (v := .int .i64 k) rfl (by kernel_rfl) (by kernel_rfl) (by kernel_rfl) (fun _ _ _ h => h) (Or.inl ⟨by rfl, fun W hSw => (by go_simp)⟩) hS ?_
    refine wpAnyH_take (i := 13) (v := .pointer (some ⟨b, o + k * 6, none⟩)) rfl (by kernel_rfl) (by kernel_rfl) (by kernel_rfl) (fun _ _ _ h => h) (Or.inl ⟨by rfl, fun W hSw => (by go_simp)⟩) hS ?_
    refine wpAnyH_take (i := 14) (v := .pointer (some ⟨b, o + k * 6 + 2, none⟩)) rfl (by kernel_rfl) (by kernel_rfl) (by kernel_rfl) (fun _ _ _ h => h) (Or.inl ⟨by rfl, fun W hSw => (by go_simp)⟩) hS ?_
    refine wpAnyH_take (i := 15) (v := .int .i64 x.what) rfl (by kernel_rfl) (by kernel_rfl) (by kernel_rfl) (fun _ _ _ h => h) (Or.inl ⟨by rfl, fun W hSw => (by have qq := (show W.cell? ⟨b, o + k * 6 + 2, none⟩ = some (.int .i64 x.what) from (hSw.cell (World.block_lt_of_cell? _ _ (HC.out 2 _ rfl))).trans (HC.out 2 _ rfl)); go_simp)⟩) hS ?_
    refine wpAnyH_take (i := 16) (v := .slice (some ⟨b, o, none⟩) os.length c2) rfl (by kernel_rfl) (by kernel_rfl) (by kernel_rfl) (fun _ _ _ h => h) (Or.inl ⟨by rfl, fun W hSw => (by go_simp)⟩) hS ?_
    refine wpAnyH_take (i := 17) (v := .int .i64 k) rfl (by kernel_rfl) (by kernel_rfl) (by kernel_rfl) (fun _ _ _ h => h) (Or.inl ⟨by rfl, fun W hSw => (by go_simp)⟩) hS ?_
    refine wpAnyH_take (i := 18) (v := .pointer (some ⟨b, o + k * 6, none⟩)) rfl (by kernel_rfl) (by kernel_rfl) (by kernel_rfl) (fun _ _ _ h => h) (Or.inl ⟨by rfl, fun W hSw => (by go_simp)⟩) hS ?_
    refine wpAnyH_take (i := 19) (v := .pointer (some ⟨b, o + k * 6 + 3, none⟩)) rfl (by kernel_rfl) (by kernel_rfl) (by kernel_rfl) (fun _ _ _ h => h) (Or.inl ⟨by rfl, fun W hSw => (by go_simp)⟩) hS ?_
    refine wpAnyH_take (i := 20) (v := .int .i64 x.beg) rfl (by kernel_rfl) (by kernel_rfl) (by kernel_rfl) (fun _ _ _ h => h) (Or.inl ⟨by rfl, fun W hSw => (by have qq := (show W.cell? ⟨b, o + k * 6 + 3, none⟩ = some (.int .i64 x.beg) from (hSw.cell (World.block_lt_of_cell? _ _ (HC.out 3 _ rfl))).trans (HC.out 3 _ rfl)); go_simp)⟩) hS ?_
    refine wpAnyH_take (i := 21) (v := .slice (some ⟨b, o, none⟩) os.length c2) rfl (by kernel_rfl) (by kernel_rfl) (by kernel_rfl) (fun _ _ _ h => h) (Or.inl ⟨by rfl, fun W hSw => (by go_simp)⟩) hS ?_
    refine wpAnyH_take (i := 22) (v := .int .i64 k) rfl (by kernel_rfl) (by kernel_rfl) (by kernel_rfl) (fun _ _ _ h => h) (Or.inl ⟨by rfl, fun W hSw => (by go_simp)⟩) hS ?_
    refine wpAnyH_take (i := 23) (v := .pointer (some ⟨b, o + k * 6, none⟩)) rfl (by kernel_rfl) (by kernel_rfl) (by kernel_rfl) (fun _ _ _ h => h) (Or.inl ⟨by rfl, fun W hSw => (by go_simp)⟩) hS ?_
    refine wpAnyH_take (i := 24) (v := .pointer (some ⟨b, o + k * 6 + 4, none⟩)) rfl (by kernel_rfl) (by kernel_rfl) (by kernel_rfl) (fun _ _ _ h => h) (Or.inl ⟨by rfl, fun W hSw => (by go_simp)⟩) hS ?_
    refine wpAnyH_take (i := 25) (v := .int .i64 x.did) rfl (by kernel_rfl) (by kernel_rfl) (by kernel_rfl) (fun _ _ _ h => h) (Or.inl ⟨by rfl, fun W hSw => (by have qq := (show W.cell? ⟨b, o + k * 6 + 4, none⟩ = some (.int .i64 x.did) from (hSw.cell (World.block_lt_of_cell? _ _ (HC.out 4 _ rfl))).trans (HC.out 4 _ rfl)); go_simp)⟩) hS ?_
    refine wpAnyH_take (i := 26) (v := .slice (some ⟨b, o, none⟩) os.length c2) rfl (by kernel_rfl) (by kernel_rfl) (by kernel_rfl) (fun _ _ _ h => h) (Or.inl ⟨by rfl, fun W hSw => (by go_simp)⟩) hS ?_
    refine wpAnyH_take (i := 27) (v := .int .i64 k) rfl (by kernel_rfl) (by kernel_rfl) (by kernel_rfl) (fun _ _ _ h => h) (Or.inl ⟨by rfl, fun W hSw => (by go_simp)⟩) hS ?_
    refine wpAnyH_take (i := 28) (v := .pointer (some ⟨b, o + k * 6, none⟩)) rfl (by kernel_rfl) (by kernel_rfl) (by kernel_rfl) (fun _ _ _ h => h) (Or.inl ⟨by rfl, fun W hSw => (by go_simp)⟩) hS ?_
    refine wpAnyH_take (i := 29) (v := .pointer (some ⟨b, o + k * 6 + 5, none⟩)) rfl (by kernel_rfl) (by kernel_rfl) (by kernel_rfl) (fun _ _ _ h => h) (Or.inl ⟨by rfl, fun W hSw => (by go_simp)⟩) hS ?_
    refine wpAnyH_take (i := 30) (v := .int .i64 x.fin) rfl (by kernel_rfl) (by kernel_rfl) (by kernel_rfl) (fun _ _ _ h => h) (Or.inl ⟨by rfl, fun W hSw => (by have qq := (show W.cell? ⟨b, o + k * 6 + 5, none⟩ = some (.int .i64 x.fin) from (hSw.cell (World.block_lt_of_cell? _ _ (HC.out 5 _ rfl))).trans (HC.out 5 _ rfl)); go_simp)⟩) hS ?_
    refine wpAnyH_take (i := 31) (v := .agg #[.int .i64 x.no, .int .i64 x.thr, .int .i64 x.what, .int .i64 x.beg, .int .i64 x.did, .int .i64 x.fin]) rfl (by kernel_rfl) (by kernel_rfl) (by kernel_rfl) (fun _ _ _ h => h) (Or.inl ⟨by rfl, fun W hSw => (by go_simp)⟩) hS ?_
    refine wpAnyH_one (k := 32) (by kernel_rfl) rfl (fun K hK => ?_)
    go_simp
    refine hK.out _ _ (HB.out.drew.alloc hsz _) ?_
    clear hK K
    -- stop at 33: slot 55 := call { builtin append, args := #[t22, t54], argTypes := #[49, 49] }
    refine wpAnyH_append (k := 33) (by kernel_rfl) rfl rfl rfl rfl rfl HR5.out HB5.out ?_
    refine wpAnyH_one (k := 34) (by kernel_rfl) rfl (fun K hK => ?_)
    go_simp
    refine hK.out _ _ HB5.out ?_
    clear hK K
    refine wpAnyH_done (by kernel_rfl) ?_ _
    go_wp2
    go_roundw
    case rel => exact ⟨k + 1, by omega, by go_num, by rw [HT.out]; exact HO5.out, HB5.out⟩
    case measure => simp [intOf]; omega
  · obtain rfl : k = os.length := by omega
    rw [List.take_length] at hown
    obtain ⟨ao5, c5, rfl⟩ := owns_shape hown
    have HR5 := hid (Reads.of_owns hown)
    have HR3b := hid (HR3.out.below hb (Nat.le_refl _))
    have HB := hid (HB3.out.trans (hb.mono HB3.out.size))
    have hrl := HRLL.out
    clear hown hb
    cases hrr : refRight l os with
    | false =>
      have HRR := hid hrr
      clear hrr
      go_wp2_with (first
        | (go_at_call 24; refine (refsame_t os os _ _ _ HR5.out HR3b.out (by omega) rfl).mono ?_; rintro e w4 ⟨rfl, hb4⟩; have HB4 := hid (HB.out.trans (hb4.mono HB.out.size)); clear hb4)
        | (go_at_call 19; refine (HLINE.out w4 (HRD.out.below HB4.out (Nat.le_refl _))).mono ?_; rintro e w5 ⟨v5, rfl, ho5, hb5⟩; have HO5 := hid ho5; have HB5 := hid (HB4.out.trans (hb5.mono HB4.out.size)); clear ho5 hb5)
        | (go_at_call 26; refine (HRLINE.out w5 (HRD.out.below HB5.out (Nat.le_refl _))).mono ?_; rintro e w6 ⟨v6, rfl, ho6, hb6⟩; have HO6 := hid ho6; have HO5b := hid ((Reads.of_owns HO5.out).below hb6 (Nat.le_refl _)); have HB6 := hid (HB5.out.trans (hb6.mono HB5.out.size)); clear ho6 hb6)
        | (go_at_call 25; refine (ints_t rl rl _ _ _ HO5b.out (Reads.of_owns HO6.out) (by omega) rfl).mono ?_; rintro e w7 ⟨rfl, hb7⟩; have HB7 := hid (HB6.out.trans (hb7.mono HB6.out.size)); clear hb7)
        | (go_at_call 27; refine (HRESP.out w7 (HRD.out.below HB7.out (Nat.le_refl _))).mono ?_; rintro e w8 ⟨rfl, hb8⟩; have HB8 := hid (HB7.out.trans (hb8.mono HB7.out.size)); clear hb8)
        | (go_at_call 28; refine (HRRESP.out w8 (HRD.out.below HB8.out (Nat.le_refl _))).mono ?_; rintro e w9 ⟨rfl, hb9⟩; have HB9 := hid (HB8.out.trans (hb9.mono HB8.out.size)); clear hb9)
        | (go_at_call 29; refine (HRIGHT.out w9 (HRD.out.below HB9.out (Nat.le_refl _))).mono ?_; rintro e w10 ⟨rfl, hb10⟩; rw [HRR.out]; have HB10 := hid (HB9.out.trans (hb10.mono HB9.out.size)); clear hb10)
        | fail)
      go_ret
      exact ⟨rfl, HB10.out⟩
    | true =>
      have HRR := hid hrr
      rw [HEQM.out hrr] at HMOST
      generalize refMost os l.length = mm at *
      clear hrr
      go_wp2_with (first
        | (go_at_call 24; refine (refsame_t os os _ _ _ HR5.out HR3b.out (by omega) rfl).mono ?_; rintro e w4 ⟨rfl, hb4⟩; have HB4 := hid (HB.out.trans (hb4.mono HB.out.size)); clear hb4)
        | (go_at_call 19; refine (HLINE.out w4 (HRD.out.below HB4.out (Nat.le_refl _))).mono ?_; rintro e w5 ⟨v5, rfl, ho5, hb5⟩; have HO5 := hid ho5; have HB5 := hid (HB4.out.trans (hb5.mono HB4.out.size)); clear ho5 hb5)
        | (go_at_call 26; refine (HRLINE.out w5 (HRD.out.below HB5.out (Nat.le_refl _))).mono ?_; rintro e w6 ⟨v6, rfl, ho6, hb6⟩; have HO6 := hid ho6; have HO5b := hid ((Reads.of_owns HO5.out).below hb6 (Nat.le_refl _)); have HB6 := hid (HB5.out.trans (hb6.mono HB5.out.size)); clear ho6 hb6)
        | (go_at_call 25; refine (ints_t rl rl _ _ _ HO5b.out (Reads.of_owns HO6.out) (by omega) rfl).mono ?_; rintro e w7 ⟨rfl, hb7⟩; have HB7 := hid (HB6.out.trans (hb7.mono HB6.out.size)); clear hb7)
        | (go_at_call 27; refine (HRESP.out w7 (HRD.out.below HB7.out (Nat.le_refl _))).mono ?_; rintro e w8 ⟨rfl, hb8⟩; have HB8 := hid (HB7.out.trans (hb8.mono HB7.out.size)); clear hb8)
        | (go_at_call 28; refine (HRRESP.out w8 (HRD.out.below HB8.out (Nat.le_refl _))).mono ?_; rintro e w9 ⟨rfl, hb9⟩; have HB9 := hid (HB8.out.trans (hb9.mono HB8.out.size)); clear hb9)
        | (go_at_call 29; refine (HRIGHT.out w9 (HRD.out.below HB9.out (Nat.le_refl _))).mono ?_; rintro e w10 ⟨rfl, hb10⟩; rw [HRR.out]; have HB10 := hid (HB9.out.trans (hb10.mono HB9.out.size)); clear hb10)
        | (go_at_call 30; refine (HMOST.out w10 (HRD.out.below HB10.out (Nat.le_refl _))).mono ?_; rintro e w11 ⟨rfl, hb11⟩; have HB11 := hid (HB10.out.trans (hb11.mono HB10.out.size)); clear hb11)
        | (go_at_call 31; refine (HRMOST.out w11 (HRD.out.below HB11.out (Nat.le_refl _))).mono ?_; rintro e w12 ⟨rfl, hb12⟩; have HB12 := hid (HB11.out.trans (hb12.mono HB11.out.size)); clear hb12)
        | fail)
      go_ret
      exact ⟨rfl, HB12.out⟩
end Go.Proofs.Ytpnkkdpggofanaa
