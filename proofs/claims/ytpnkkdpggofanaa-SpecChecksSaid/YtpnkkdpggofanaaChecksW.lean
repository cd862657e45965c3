/- vergelaw21.SpecChecks by its walk. -/
import Derived.Test.YtpnkkdpggofanaaRmV
import Derived.Test.YtpnkkdpggofanaaLive
import Derived.Test.YtpnkkdpggofanaaSame
import Derived.Test.YtpnkkdpggofanaaSpecAlive
import Derived.Test.YtpnkkdpggofanaaSpecBeginsW
namespace Go.Proofs.Ytpnkkdpggofanaa
open Go.RowKit

theorem up_asc {T : List RT} {L K : List Int} (h : IsUp T L) (hn : (rlives T).Nodup) (hp : K.Perm (rlives T)) : asc K = L := by
  have h1 : K.Perm L := hp.trans ((List.perm_ext_iff_of_nodup hn (up_nodup h.up)).2 (fun x => (h.all x).symm))
  rw [asc_perm h1]
  unfold asc
  exact List.mergeSort_of_pairwise (h.up.imp (fun h => decide_eq_true (by omega)))

set_option maxRecDepth 100000 in
set_option maxHeartbeats 8000000 in
theorem checks_walk (n : Int) (l : List Ev) (ao : Option Addr) (c : Nat) (w : World) (h1 : Reads w (.slice ao l.length c) l.length (l.flatMap evC)) (hwf : ∀ e ∈ l, e.wf) (hn : l.length ≤ 9223372036854775807) :
    Calls Try.prog 11 #[.int .i64 n, .slice ao l.length c] w fun x w' => x = .returned (.bool true) ∧ Below w.heap.size w w' := by
  have hrd := hid h1
  have HW := hid hwf
  clear h1 hwf
  by_cases hbig : 100 < l.length
  · have hbig' : decide (100 < (l.length : Int)) = true := decide_eq_true (by omega)
    go_enter Try.func11, Try.ntmps11
    go_wp2_with (go_at_call 14; refine (alive21_any _).mono ?_; rintro e w1 ⟨rfl, hb1⟩; have HB1 := hid hb1; clear hb1)
    go_ret
    exact ⟨rfl, HB1.out⟩
  have hbig' : decide (100 < (l.length : Int)) = false := decide_eq_false (by omega)
  have hl100 : l.length ≤ 100 := by omega
  have hle := playM_le (new n) l
  obtain ⟨hpe, hsim⟩ := sim_play (sim_new n) l HW.out
  have HSIM := hid hsim
  have HPE := hid hpe
  have HCV := hid (show chkV n l = .tuple #[.int .i64 ((playM (new n) l).2 : Int), .int .i64 (if (playM (new n) l).2 < l.length then 7 else 0)] from rfl)
  have HRT := hid (play_new_live n l)
  have HNO := hid (fun (W : World) h => live_no n l (.slice ao l.length c) W h HW.out (by omega))
  have HOK := hid (fun (W : World) h => live_ok n l (.slice ao l.length c) W h HW.out (by omega))
  have HLI := hid (show liveIds n l = asc ((playM (new n) l).1.live.map (·.1)) from rfl)
  have HLL := hid (Nat.le_trans (Nat.le_of_eq (liveIds_len n l)) (play_live_le n l))
  clear hpe hsim
  generalize hr : (playM (new n) l).2 = r at *
  have HR := hid hr
  clear hr hbig
  obtain ⟨i0, hi, hz0, hz1, hz2⟩ := info_parts ev_info
  by_cases hlt : r < l.length
  · have hE : ((r : Int) == (l.length : Int)) = false := by rw [beq_eq_false_iff_ne]; omega
    have HLT := hid hlt
    have hcv := HCV.out
    rw [if_pos hlt] at hcv
    have HCV := hid hcv
    clear hcv hlt
    go_enter Try.func11, Try.ntmps11
    go_wp2_with (first
      | (go_at_call 14; refine (alive21_any _).mono ?_; rintro e w1 ⟨rfl, hb1⟩; have HB1 := hid hb1; clear hb1; have HS0 := hid ((World.ownsRow_lit w1 (#[] : Array Value) 0 (base := w.heap.size) (size := 10) (e := 31) HB1.out.size (by decide) rfl)))
      | (at_builtin; refine wpList_append_any _ rfl _ _ 22 rfl w.heap.size 31 i0 _ 10 80 Try.underlying22 hi hz0 hz1 hz2 rfl (by decide) _ 0 [] rfl HS0.out _ l.length (l.flatMap evC) rfl (hrd.out.below (HB1.out.alloc HB1.out.size _) (Nat.le_refl _)) (evC_len l) (evs_one l) (by unfold maxLen; omega) (by omega) (Nat.le_trans HB1.out.size (by simp)) ?_; intro bo cap w4 hown' hgrow; have HO1 := hid (show w4.ownsRow w.heap.size 31 10 (.slice bo l.length cap) l.length (l.flatMap evC) from (by simpa using hown')); have HB4 := hid ((HB1.out.alloc HB1.out.size _).grown hgrow (Nat.le_trans HB1.out.size (by simp)) (fun k hk => (HS0.out.lt k hk).1)); clear hown' hgrow)
      | (go_at_call 16; refine (check_any n l _ _ (Reads.of_owns HO1.out) HW.out (by omega)).mono ?_; rintro x w5 ⟨rfl, hb5⟩; rw [HCV.out]; have HB5 := hid (HB4.out.trans (hb5.mono HB4.out.size)); clear hb5)
      | (go_at_call 34; refine (rplay_any n l _ _ (hrd.out.below HB5.out (Nat.le_refl _)) HW.out (by omega)).mono ?_; rintro x w6 ⟨hb6, bm, vc, vt, rfl, hrep, hlen⟩; rw [← HPE.out]; have HB6 := hid (HB5.out.trans (hb6.mono HB5.out.size)); have HREP := hid hrep; have HLEN := hid hlen; clear hb6 hrep hlen)
      | (go_at_call 35; refine (HNO.out w6 (hrd.out.below HB6.out (Nat.le_refl _)) HLT.out).mono ?_; rintro x w7 ⟨rfl, hb7⟩; have HB7 := hid (HB6.out.trans (hb7.mono HB6.out.size)); clear hb7))
    go_ret
    exact ⟨rfl, HB7.out⟩
  · have hE : ((r : Int) == (l.length : Int)) = true := by rw [beq_iff_eq]; omega
    have HLT := hid (show r = l.length by omega)
    have hcv := HCV.out
    rw [if_neg hlt] at hcv
    have HCV := hid hcv
    clear hcv hlt
    go_enter Try.func11, Try.ntmps11
    go_wp2_with (first
      | (go_at_call 14; refine (alive21_any _).mono ?_; rintro e w1 ⟨rfl, hb1⟩; have HB1 := hid hb1; clear hb1; have HS0 := hid ((World.ownsRow_lit w1 (#[] : Array Value) 0 (base := w.heap.size) (size := 10) (e := 31) HB1.out.size (by decide) rfl)))
      | (at_builtin; refine wpList_append_any _ rfl _ _ 22 rfl w.heap.size 31 i0 _ 10 80 Try.underlying22 hi hz0 hz1 hz2 rfl (by decide) _ 0 [] rfl HS0.out _ l.length (l.flatMap evC) rfl (hrd.out.below (HB1.out.alloc HB1.out.size _) (Nat.le_refl _)) (evC_len l) (evs_one l) (by unfold maxLen; omega) (by omega) (Nat.le_trans HB1.out.size (by simp)) ?_; intro bo cap w4 hown' hgrow; have HO1 := hid (show w4.ownsRow w.heap.size 31 10 (.slice bo l.length cap) l.length (l.flatMap evC) from (by simpa using hown')); have HB4 := hid ((HB1.out.alloc HB1.out.size _).grown hgrow (Nat.le_trans HB1.out.size (by simp)) (fun k hk => (HS0.out.lt k hk).1)); clear hown' hgrow)
      | (go_at_call 16; refine (check_any n l _ _ (Reads.of_owns HO1.out) HW.out (by omega)).mono ?_; rintro x w5 ⟨rfl, hb5⟩; rw [HCV.out]; have HB5 := hid (HB4.out.trans (hb5.mono HB4.out.size)); clear hb5)
      | (go_at_call 34; refine (rplay_any n l _ _ (hrd.out.below HB5.out (Nat.le_refl _)) HW.out (by omega)).mono ?_; rintro x w6 ⟨hb6, bm, vc, vt, rfl, hrep, hlen⟩; rw [← HPE.out]; have HB6 := hid (HB5.out.trans (hb6.mono HB5.out.size)); have HREP := hid hrep; have HLEN := hid hlen; clear hb6 hrep hlen)
      | (go_at_call 35; refine (HOK.out w6 (hrd.out.below HB6.out (Nat.le_refl _)) HLT.out).mono ?_; rintro x w7 ⟨v7, rfl, hown7, hb7⟩; obtain ⟨a7, p7, rfl⟩ := owns_shape hown7; have HO7 := hid (Reads.of_owns hown7); have HB7 := hid (HB6.out.trans (hb7.mono HB6.out.size)); have HREP7 := hid (HREP.out.below hb7); clear hown7 hb7)
      | (go_at_call 37; refine (rlive_any (rplay (rnew n) l).1.tms bm vt _ (HREP7.out.m.cell 6 rfl) (Reads.of_owns HREP7.out.tms) (by have := HLEN.out; omega)).mono ?_; rintro x w8 ⟨v8, L, rfl, hup, hown8, hb8⟩; obtain ⟨a8, p8, rfl⟩ := owns_shape hown8; have HO8 := hid (Reads.of_owns hown8); have HO9 := hid (HO7.out.below hb8 (Nat.le_refl _)); have HB8 := hid (HB7.out.trans (hb8.mono HB7.out.size)); have HEQ := hid (show liveIds n l = L by rw [HLI.out]; exact up_asc hup HSIM.out.nodup HSIM.out.lives); clear hup hown8 hb8)
      | (go_at_call 36; refine (uints_b (liveIds n l) L _ _ _ HO9.out HO8.out (by have := HLL.out; omega)).mono ?_; rintro x w9 ⟨rfl, hb9⟩; rw [decide_eq_true HEQ.out]; have HB9 := hid (HB8.out.trans (hb9.mono HB8.out.size)); clear hb9))
    go_ret
    exact ⟨rfl, HB9.out⟩
end Go.Proofs.Ytpnkkdpggofanaa
