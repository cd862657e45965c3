/- SpecBegins by its walk. -/
import Derived.Test.YtpnkkdpggofanaaSpecAlive
import Derived.Test.YtpnkkdpggofanaaSpecRight
namespace Go.Proofs.Ytpnkkdpggofanaa
open Go.RowKit

theorem reads_app {w : World} {B : Nat} {e : TypeId} {v : Value} {l more : List Ev} (h : w.ownsRow B e 10 v (l.length + more.length) (l.flatMap evC ++ more.flatMap evC)) : Reads w v (l ++ more).length ((l ++ more).flatMap evC) := by
  have e : (l ++ more).length = l.length + more.length := by simp
  rw [e, List.flatMap_append]; exact Reads.of_owns h
theorem playM_take {m : Ma} {l : List Ev} {j : Nat} (h : j ≤ (playM m l).2) : (playM m (l.take j)).2 = j := by
  induction l generalizing m j with
  | nil => simp [playM] at h ⊢; omega
  | cons e l ih =>
    cases j with
    | zero => simp [playM]
    | succ j =>
      cases hs : stepM m e with
      | none => rw [playM_none hs] at h; simp at h
      | some m' =>
        rw [playM_some hs] at h
        rw [List.take_succ_cons, playM_some hs]
        have := ih (m := m') (j := j) (by simpa using h)
        simp [this]
theorem playM_more {m : Ma} {l more : List Ev} (h : (playM m l).2 < l.length) : (playM m (l ++ more)).2 = (playM m l).2 := by
  induction l generalizing m with
  | nil => simp at h
  | cons e l ih =>
    cases hs : stepM m e with
    | none => rw [List.cons_append, playM_none hs, playM_none hs]
    | some m' =>
      rw [playM_some hs] at h
      rw [List.cons_append, playM_some hs, playM_some hs]
      have := ih (m := m') (by simpa using h)
      simp [this]

set_option maxRecDepth 4000 in
set_option maxHeartbeats 8000000 in
theorem begins_walk (n kk : Int) (l more : List Ev) (ao am : Option Addr) (c cm : Nat) (w : World) (h1 : Reads w (.slice ao l.length c) l.length (l.flatMap evC)) (hwf : ∀ e ∈ l, e.wf) (hcap : l.length ≤ c)
    (h2 : Reads w (.slice am more.length cm) more.length (more.flatMap evC)) (hwf2 : ∀ e ∈ more, e.wf) (hk0 : 0 ≤ kk) (hk1 : kk ≤ 255) (hn1 : l.length ≤ 9223372036854775807) (hn2 : more.length ≤ 9223372036854775807) :
    Calls Try.prog 3 #[.int .i64 n, .slice ao l.length c, .int .u8 kk, .slice am more.length cm] w fun x w' => x = .returned (.bool true) ∧ Below w.heap.size w w' := by
  have hrd := hid h1
  have hrm := hid h2
  have HW := hid hwf
  have HW2 := hid hwf2
  clear h1 h2 hwf hwf2
  by_cases hbig : 100 < l.length
  · have hbig' : decide (100 < (l.length : Int)) = true := decide_eq_true (by omega)
    go_enter Try.func3, Try.ntmps3
    go_wp2_with (go_at_call 14; refine (alive21_any _).mono ?_; rintro e w1 ⟨rfl, hb1⟩; have HB1 := hid hb1; clear hb1)
    go_ret
    exact ⟨rfl, HB1.out⟩
  have hbig' : decide (100 < (l.length : Int)) = false := decide_eq_false (by omega)
  by_cases hbig2 : 100 < more.length
  · have hbig2' : decide (100 < (more.length : Int)) = true := decide_eq_true (by omega)
    go_enter Try.func3, Try.ntmps3
    go_wp2_with (go_at_call 14; refine (alive21_any _).mono ?_; rintro e w1 ⟨rfl, hb1⟩; have HB1 := hid hb1; clear hb1)
    go_ret
    exact ⟨rfl, HB1.out⟩
  have hbig2' : decide (100 < (more.length : Int)) = false := decide_eq_false (by omega)
  have hle := playM_le (new n) l
  have hty := fun j => playM_take (m := new n) (l := l) (j := j)
  have hmo := playM_more (m := new n) (l := l) (more := more)
  have hrt := fun W h => right_any n l ao c W h HW.out (by omega) hcap
  generalize hr : (playM (new n) l).2 = r at *
  obtain ⟨j, hj⟩ : ∃ j : Nat, kk % ((r : Int) + 1) = (j : Int) := ⟨(kk % ((r : Int) + 1)).toNat, by rw [Int.toNat_of_nonneg (Int.emod_nonneg _ (by omega))]⟩
  have hjr : j ≤ r := by have := Int.emod_lt_of_pos kk (show (0 : Int) < (r : Int) + 1 by omega); omega
  have hcj := hid (show chkV n (l.take j) = .tuple #[.int .i64 (j : Int), .int .i64 0] by
    unfold chkV; rw [hty j hjr, List.length_take, Nat.min_eq_left (by omega), if_neg (Nat.lt_irrefl _)])
  have hHR := hid hrt
  have hHT := hid (fun W h => check_any n (l.take j) (.slice ao j c) W h (fun e he => HW.out e (List.mem_of_mem_take he)) (by rw [List.length_take]; omega))
  have hlt := List.length_take (i := j) (l := l)
  rw [Nat.min_eq_left (by omega)] at hlt
  have hz1 : (j : Int) ≤ (c : Int) := by omega
  have hz2 : (0 : Int) ≤ (j : Int) := by omega
  have HLT := hid hlt
  have HMO := hid hmo
  have HTK := hid (fun (W : World) (h : Reads W (.slice ao l.length c) l.length (l.flatMap evC)) => (show Reads W (.slice ao j c) (l.take j).length ((l.take j).flatMap evC) from by rw [HLT.out]; exact Reads.take h j (by omega)))
  clear hty hrt hmo hlt hr
  have arm1 : True := trivial
  by_cases heq : r = l.length
  · have hE : ((r : Int) == (l.length : Int)) = true := by simp [heq]
    have HEQ := hid heq
    clear heq
    go_enter Try.func3, Try.ntmps3
    go_wp2_with (first
      | (go_at_call 14; refine (alive21_any _).mono ?_; rintro e w1 ⟨rfl, hb1⟩; have HB1 := hid hb1; clear hb1)
      | (go_at_call 15; refine (hHR.out w1 (hrd.out.below HB1.out (Nat.le_refl _))).mono ?_; rintro e w2 ⟨rfl, hb2⟩; have HB2 := hid (HB1.out.trans (hb2.mono HB1.out.size)); clear hb2)
      | (go_at_call 16; refine (hHT.out w2 (HTK.out w2 (hrd.out.below HB2.out (Nat.le_refl _)))).mono ?_; rintro e w3 ⟨rfl, hb3⟩; rw [hcj.out]; have HB3 := hid (HB2.out.trans (hb3.mono HB2.out.size)); clear hb3))
    go_ret
    exact ⟨rfl, HB3.out⟩
  · have hE : ((r : Int) == (l.length : Int)) = false := by simp; omega
    have HEQ := hid heq
    have hlt2 : r < l.length := by omega
    have hcm := hid (show chkV n (l ++ more) = .tuple #[.int .i64 (r : Int), .int .i64 7] by
      unfold chkV; rw [HMO.out hlt2, if_pos (by rw [List.length_append]; omega)])
    clear heq
    obtain ⟨i0, hi, hz0, hz1', hz2'⟩ := info_parts ev_info
    have hwa := hid (show ∀ e ∈ l ++ more, e.wf from fun e he => (List.mem_append.1 he).elim (HW.out e) (HW2.out e))
    go_enter Try.func3, Try.ntmps3
    go_wp2_with (first
      | (go_at_call 14; refine (alive21_any _).mono ?_; rintro e w1 ⟨rfl, hb1⟩; have HB1 := hid hb1; clear hb1)
      | (go_at_call 15; refine (hHR.out w1 (hrd.out.below HB1.out (Nat.le_refl _))).mono ?_; rintro e w2 ⟨rfl, hb2⟩; have HB2 := hid (HB1.out.trans (hb2.mono HB1.out.size)); clear hb2)
      | (go_at_call 16; refine (check_any n (l ++ more) _ _ HO2.out hwa.out (by rw [List.length_append]; omega)).mono ?_; rintro x w6 ⟨rfl, hb6⟩; rw [hcm.out]; have HB6 := hid (HB5.out.trans (hb6.mono HB5.out.size)); clear hb6)
      | (go_at_call 16; refine (hHT.out w2 (HTK.out w2 (hrd.out.below HB2.out (Nat.le_refl _)))).mono ?_; rintro e w3 ⟨rfl, hb3⟩; rw [hcj.out]; have HB3 := hid (HB2.out.trans (hb3.mono HB2.out.size)); clear hb3; have HS0 := hid ((World.ownsRow_lit w3 (#[] : Array Value) 0 (base := w.heap.size) (size := 10) (e := 31) HB3.out.size (by decide) rfl)))
      | (at_builtin; refine wpList_append_any _ rfl _ _ 22 rfl w.heap.size 31 i0 _ 10 80 Try.underlying22 hi hz0 hz1' hz2' rfl (by decide) _ _ _ rfl HO1.out _ more.length (more.flatMap evC) rfl (hrm.out.below HB4.out (Nat.le_refl _)) (evC_len more) (evs_one more) (by unfold maxLen; omega) (by omega) HB4.out.size ?_; intro bo2 cap2 w5 hown' hgrow; have HO2 := hid (reads_app hown'); have HB5 := hid (HB4.out.grown hgrow HB4.out.size (fun k hk => (HO1.out.lt k hk).1)); clear hown' hgrow)
      | (at_builtin; refine wpList_append_any _ rfl _ _ 22 rfl w.heap.size 31 i0 _ 10 80 Try.underlying22 hi hz0 hz1' hz2' rfl (by decide) _ 0 [] rfl HS0.out _ l.length (l.flatMap evC) rfl (hrd.out.below (HB3.out.alloc HB3.out.size _) (Nat.le_refl _)) (evC_len l) (evs_one l) (by unfold maxLen; omega) (by omega) (Nat.le_trans HB3.out.size (by simp)) ?_; intro bo cap w4 hown' hgrow; have HO1 := hid (show w4.ownsRow w.heap.size 31 10 (.slice bo l.length cap) l.length (l.flatMap evC) from (by simpa using hown')); have HB4 := hid ((HB3.out.alloc HB3.out.size _).grown hgrow (Nat.le_trans HB3.out.size (by simp)) (fun k hk => (HS0.out.lt k hk).1)); clear hown' hgrow))
    go_ret
    exact ⟨rfl, HB6.out⟩
end Go.Proofs.Ytpnkkdpggofanaa
