/- vergelaw21.SpecRoom: its walk: it returns true, and nothing that was there has turned. -/
import Derived.Test.YtpnkkdpggofanaaLive
import Derived.Test.YtpnkkdpggofanaaSpecAlive
import Derived.Test.YtpnkkdpggofanaaSpecBeginsW
namespace Go.Proofs.Ytpnkkdpggofanaa
open Go.RowKit

set_option maxHeartbeats 4000000 in
theorem room_walk (n kk : Int) (l : List Ev) (ao : Option Addr) (c : Nat) (w : World) (h1 : Reads w (.slice ao l.length c) l.length (l.flatMap evC)) (hwf : ∀ e ∈ l, e.wf) (hcap : l.length ≤ c) (hn0 : -9223372036854775808 ≤ n) (hn1 : n ≤ 9223372036854775807) (hk0 : 0 ≤ kk) (hk1 : kk ≤ 255) (hn : l.length ≤ 9223372036854775807) :
    Calls Try.prog 12 #[.int .i64 n, .int .u8 kk, .slice ao l.length c] w fun x w' => x = .returned (.bool true) ∧ Below w.heap.size w w' := by
  have hrd := hid h1
  have HW := hid hwf
  clear h1 hwf
  by_cases hbig : 100 < l.length
  · have hbig' : decide (100 < (l.length : Int)) = true := decide_eq_true (by omega)
    go_enter Try.func12, Try.ntmps12
    go_wp2_with (go_at_call 14; refine (alive21_any _).mono ?_; rintro e w1 ⟨rfl, hb1⟩; have HB1 := hid hb1; clear hb1)
    go_ret
    exact ⟨rfl, HB1.out⟩
  have hbig' : decide (100 < (l.length : Int)) = false := decide_eq_false (by omega)
  by_cases hbig2 : 1099511627776 < n
  · have hbig2' : decide (1099511627776 < n) = true := decide_eq_true hbig2
    go_enter Try.func12, Try.ntmps12
    go_wp2_with (go_at_call 14; refine (alive21_any _).mono ?_; rintro e w1 ⟨rfl, hb1⟩; have HB1 := hid hb1; clear hb1)
    go_ret
    exact ⟨rfl, HB1.out⟩
  have hbig2' : decide (1099511627776 < n) = false := decide_eq_false hbig2
  have hle := playM_le (new n) l
  have hl100 : l.length ≤ 100 := by omega
  have hall : All (new n) (l.take (playM (new n) l).2) := by unfold All; rw [playM_take (Nat.le_refl _), List.length_take, Nat.min_eq_left hle]
  have hty := fun j => playM_take (m := new n) (l := l) (j := j)
  have hmore : (playM (new (n + kk)) (l.take (playM (new n) l).2)).2 = (playM (new n) l).2 := by
    have h := all_roomy hall (n + kk) (by show n ≤ n + kk; omega)
    unfold All at h
    rw [List.length_take, Nat.min_eq_left hle] at h
    exact h
  have hrt := fun W h => right_any n l ao c W h HW.out (by omega) hcap
  generalize hr : (playM (new n) l).2 = r at *
  have hlr : (l.take r).length = r := by rw [List.length_take, Nat.min_eq_left hle]
  have hcj := hid (show chkV (n + kk) (l.take r) = .tuple #[.int .i64 (r : Int), .int .i64 0] by
    unfold chkV; rw [hmore, hlr, if_neg (Nat.lt_irrefl _)])
  have HTK := hid (fun (W : World) (j : Nat) (hj : j ≤ r) (h : Reads W (.slice ao l.length c) l.length (l.flatMap evC)) => (show Reads W (.slice ao j c) (l.take j).length ((l.take j).flatMap evC) from by rw [List.length_take, Nat.min_eq_left (by omega)]; exact Reads.take h j (by omega)))
  have hHR := hid hrt
  have hHT := hid (fun (W : World) (h : Reads W (.slice ao l.length c) l.length (l.flatMap evC)) => check_any (n + kk) (l.take r) (.slice ao r c) W (HTK.out W r (Nat.le_refl _) h) (fun e he => HW.out e (List.mem_of_mem_take he)) (by omega))
  have hHL := hid (fun (W : World) (j : Nat) (hj : j ≤ r) (h : Reads W (.slice ao l.length c) l.length (l.flatMap evC)) => live_ok n (l.take j) (.slice ao j c) W (HTK.out W j hj h) (fun e he => HW.out e (List.mem_of_mem_take he)) (by rw [List.length_take]; omega) (by rw [hty j hj, List.length_take, Nat.min_eq_left (by omega)]))
  have hLL := hid (fun (j : Nat) => (show ((liveIds n (l.take j)).length : Int) ≤ max 0 n by rw [liveIds_len]; exact (play_new_live n (l.take j)).1))
  clear hty hmore hall hrt hr hlr
  go_enter Try.func12, Try.ntmps12
  go_wp2_with fail
  refine (alive21_any _).mono ?_
  rintro e w1 ⟨rfl, hb1⟩
  have HB1 := hid hb1
  clear hb1
  go_wp2_with fail
  refine (hHR.out w1 (hrd.out.below HB1.out (Nat.le_refl _))).mono ?_
  rintro e w2 ⟨rfl, hb2⟩
  have HB2 := hid (HB1.out.trans (hb2.mono HB1.out.size))
  clear hb2
  go_wp2_with fail
  refine (hHT.out w2 (hrd.out.below HB2.out (Nat.le_refl _))).mono ?_
  rintro e w3 ⟨rfl, hb3⟩
  rw [hcj.out]
  have HB3 := hid (HB2.out.trans (hb3.mono HB2.out.size))
  clear hb3
  go_wp2
  go_loopw [10] (fun i wr => ∃ j : Nat, j ≤ r + 1 ∧ i = .int .i64 j ∧ Below w.heap.size w wr) (fun i _ => r + 1 - (intOf i).toNat)
  case atStart => exact ⟨0, by omega, rfl, HB3.out⟩
  case round =>
    obtain ⟨j, hj, rfl, hb⟩ := hrel
    have HB := hid hb
    clear hb
    by_cases hjr : j ≤ r
    · have hjc : (j : Int) ≤ (c : Int) := by omega
      have hjc2 : ¬ ((c : Int) < (j : Int)) := by omega
      go_wp2_with fail
      refine (hHL.out _ j hjr (hrd.out.below HB.out (Nat.le_refl _))).mono ?_
      rintro e w4 ⟨v4, rfl, ho4, hb4⟩
      obtain ⟨ao4, c4, rfl⟩ := owns_shape ho4
      have HB4 := hid (HB.out.trans (hb4.mono HB.out.size))
      have hll := hLL.out j
      generalize (liveIds n (l.take j)).length = q at *
      clear ho4 hb4
      by_cases hnn : 0 < n
      · have hmx : max 0 n = n := by omega
        have hq : ¬ (n < (q : Int)) := by omega
        clear hmx hll
        go_wp2
        go_roundw
        case rel => exact ⟨j + 1, by omega, by go_num, HB4.out⟩
        case measure => simp [intOf]; omega
      · have hq : ¬ (0 < q) := by omega
        obtain rfl : q = 0 := by omega
        clear hll hq
        go_wp2
        go_roundw
        case rel => exact ⟨j + 1, by omega, by go_num, HB4.out⟩
        case measure => simp [intOf]; omega
    · go_wp2
      go_ret
      exact ⟨rfl, HB.out⟩
end Go.Proofs.Ytpnkkdpggofanaa
