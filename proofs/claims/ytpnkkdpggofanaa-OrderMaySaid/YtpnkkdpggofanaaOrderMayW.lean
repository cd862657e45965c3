/- vergelaw24.OrderMay, by its walk. -/
import Derived.Test.YtpnkkdpggofanaaMayLaw
import Derived.Test.YtpnkkdpggofanaaSpecRight
import Derived.Test.YtpnkkdpggofanaaLive
import Derived.Test.YtpnkkdpggofanaaAlive24
namespace Go.Proofs.Ytpnkkdpggofanaa
open Go.RowKit Go.Shelf Go.Sort

theorem uints_may (l : List Int) (v1 v2 : Value) (w : World) (h1 : Reads w v1 l.length (l.map encU)) (h2 : Reads w v2 l.length (l.map encU)) (hn1 : l.length ≤ 1000000) :
    Calls Try.prog 36 #[v1, v2] w fun e w' => e = .returned (.bool true) ∧ Below w.heap.size w w' :=
  (uints_b l l v1 v2 w h1 h2 hn1).mono fun e w' ⟨he', hb⟩ => ⟨by rw [he', decide_eq_true rfl], hb⟩

set_option maxRecDepth 1000000 in
set_option maxHeartbeats 8000000 in
theorem may_walk (n : Int) (l : List Ev) (ao : Option Addr) (c : Nat) (w : World) (h1 : Reads w (.slice ao l.length c) l.length (l.flatMap evC)) (hwf : ∀ e ∈ l, e.wf) (hcap : l.length ≤ c) (hn : l.length ≤ 9223372036854775807) :
    Calls Try.prog 13 #[.int .i64 n, .slice ao l.length c] w fun x w' => x = .returned (.bool true) ∧ Below w.heap.size w w' := by
  by_cases h100 : 100 < l.length
  · have h100z : (100 : Int) < (l.length : Int) := by omega
    go_enter Try.func13, Try.ntmps13
    go_wp2_with (go_at_call 17; refine (alive24_any _).mono ?_; rintro e w1 ⟨rfl, hb1⟩; have HB1 := hid hb1; clear hb1)
    go_ret
    exact ⟨rfl, HB1.out⟩
  have h100z : ¬ (100 : Int) < (l.length : Int) := by omega
  have HRD := hid h1
  have HCHK := hid (fun W (h : Reads W (.slice ao l.length c) l.length (l.flatMap evC)) => check_any n l _ W h hwf (by omega))
  have hrl := may_len n l
  have hle := may_le n l
  have HR := hid (fun W (h : Reads W (.slice ao l.length c) l.length (l.flatMap evC)) => show Reads W (.slice ao (playM (new n) l).2 c) (may n l).length ((may n l).flatMap evC) from by rw [may_len]; exact Reads.take h _ hle)
  have hall := may_all n l
  have hrwf := may_wf (n := n) hwf
  have hsl := serialOf_len (may n l)
  obtain ⟨er, hcv0⟩ : ∃ er, chkV n l = .tuple #[.int .i64 ((playM (new n) l).2 : Int), .int .i64 er] := ⟨_, rfl⟩
  have hcv := hid hcv0
  clear hcv0
  generalize may n l = r at *
  generalize hp : (playM (new n) l).2 = p at *
  have hswf := serial_wf hall hrwf (by omega)
  have hrsp := resp_of hall
  obtain ⟨hsall, _, hfir, hdone, hlive, _⟩ := serial_law hall
  have hlid : liveIds n (serialOf r) = liveIds n r := by unfold liveIds; rw [hlive]
  have hsl' : (serialOf r).length ≤ 300 := by omega
  have hdl : (doneOf r).length ≤ 1000 := by have := List.countP_le_length (p := fun o : OpD => decide (0 ≤ o.did)) (l := opsOf r); have := doneOf_len r; have := opsOf_len r; omega
  have hil : (liveIds n r).length ≤ 1000 := by rw [liveIds_len]; have := play_live_le n r; omega
  have hfl : (firsOf r).length ≤ 1000 := by unfold firsOf; rw [List.length_map]; have := List.length_filter_le (fun e : Ev => e.kind == 5) r; omega
  have HSER := hid (fun W (h : Reads W (.slice ao p c) r.length (r.flatMap evC)) => serial_any r _ W (by rw [hrl] at h ⊢; exact h) (by omega))
  have HCS := hid (fun W v (h : Reads W v (serialOf r).length ((serialOf r).flatMap evC)) => check_any n (serialOf r) v W h hswf (by omega))
  have HLR := hid (fun W (h : Reads W (.slice ao p c) r.length (r.flatMap evC)) => live_ok n r _ W (by rw [hrl] at h ⊢; exact h) hrwf (by omega) hall)
  have HLS := hid (fun W v (h : Reads W v (serialOf r).length ((serialOf r).flatMap evC)) => show Calls Try.prog 35 #[.int .i64 n, v] W (fun x w' => ∃ v', x = .returned (.tuple #[v', .int .i64 0]) ∧ w'.ownsRow W.heap.size 29 1 v' (liveIds n r).length ((liveIds n r).map encU) ∧ Below W.heap.size W w') from by
    have := live_ok n (serialOf r) v W h hswf (by omega) hsall
    rw [hlid] at this
    exact this)
  have HRS := hid (fun W (h : Reads W (.slice ao p c) r.length (r.flatMap evC)) => show Calls Try.prog 27 #[.slice ao p c] W (fun e w' => e = .returned (.bool true) ∧ Below W.heap.size W w') from by
    have := resp_any r _ W (by rw [hrl] at h ⊢; exact h) (by omega)
    rw [hrsp] at this
    exact this)
  have HFR := hid (fun W (h : Reads W (.slice ao p c) r.length (r.flatMap evC)) => fired_any r _ W (by rw [hrl] at h ⊢; exact h) (by omega))
  have HFS := hid (fun W v (h : Reads W v (serialOf r).length ((serialOf r).flatMap evC)) => show Calls Try.prog 21 #[v] W (fun x w' => ∃ v', x = .returned v' ∧ w'.ownsRow W.heap.size 44 4 v' (firsOf r).length ((firsOf r).flatMap firC) ∧ Below W.heap.size W w') from by
    have := fired_any (serialOf r) v W h (by omega)
    rw [hfir] at this
    exact this)
  have HNR := hid (fun W (h : Reads W (.slice ao p c) r.length (r.flatMap evC)) => show Calls Try.prog 19 #[.slice ao p c] W (fun e w' => ∃ a1 c1, e = .returned (.slice a1 (doneOf r).length c1) ∧ Below W.heap.size W w') from by
    have := line_any r _ W (by rw [hrl] at h ⊢; exact h) (by omega)
    refine this.mono ?_
    rintro e w' ⟨v', rfl, ho, hb⟩
    obtain ⟨a1, c1, rfl⟩ := owns_shape ho
    exact ⟨a1, c1, rfl, hb⟩)
  have HNS := hid (fun W v (h : Reads W v (serialOf r).length ((serialOf r).flatMap evC)) => show Calls Try.prog 19 #[v] W (fun e w' => ∃ a1 c1, e = .returned (.slice a1 (doneOf r).length c1) ∧ Below W.heap.size W w') from by
    have := line_any (serialOf r) v W h (by omega)
    rw [hdone] at this
    refine this.mono ?_
    rintro e w' ⟨v', rfl, ho, hb⟩
    obtain ⟨a1, c1, rfl⟩ := owns_shape ho
    exact ⟨a1, c1, rfl, hb⟩)
  have hcs := hid (show chkV n (serialOf r) = .tuple #[.int .i64 ((serialOf r).length : Int), .int .i64 0] by
    unfold chkV
    rw [show (playM (new n) (serialOf r)).2 = (serialOf r).length from hsall, if_neg (Nat.lt_irrefl _)])
  have HIL := hid hil
  have HFL := hid hfl
  generalize serialOf r = s at *
  generalize doneOf r = dn at *
  generalize firsOf r = fs at *
  generalize liveIds n r = ids at *
  have hz : ¬ ((p : Int) < 0) := by omega
  have hz2 : ¬ ((l.length : Int) < (p : Int)) := by omega
  have hz3 : (p : Int) ≤ (c : Int) := by omega
  have hz4 : ¬ ((c : Int) < (p : Int)) := by omega
  have hz5 : min (p : Int) (l.length : Int) = (p : Int) := by omega
  clear h1 hwf hsl hsl' hp hall hrl hrwf hswf hrsp hsall hfir hdone hlive hlid hil hfl
  go_enter Try.func13, Try.ntmps13
  go_wp2_with (first
    | (go_at_call 17; refine (alive24_any _).mono ?_; rintro e w1 ⟨rfl, hb1⟩; have HB1 := hid hb1; clear hb1)
    | (go_at_call 16; refine (HCS.out w3 _ HO3.out).mono ?_; rintro x w4 ⟨rfl, hb4⟩; rw [hcs.out]; have HX4 := hid hb4; have HB4 := hid (HB3.out.trans (hb4.mono HB3.out.size)); clear hb4)
    | (go_at_call 16; refine (HCHK.out w1 (HRD.out.below HB1.out (Nat.le_refl _))).mono ?_; rintro x w2 ⟨rfl, hb2⟩; rw [hcv.out]; have HB2 := hid (HB1.out.trans (hb2.mono HB1.out.size)); clear hb2)
    | (go_at_call 32; refine (HSER.out w2 (HR.out w2 (HRD.out.below HB2.out (Nat.le_refl _)))).mono ?_; rintro x w3 ⟨v3, rfl, ho3, hb3⟩; obtain ⟨ao3, c3, rfl⟩ := owns_shape ho3; have HO3 := hid (Reads.of_owns ho3); have HB3 := hid (HB2.out.trans (hb3.mono HB2.out.size)); clear ho3 hb3)
    | (go_at_call 35; refine (HLS.out w5 _ (HO3.out.below HX5.out (Nat.le_refl _))).mono ?_; rintro x w6 ⟨v6, rfl, ho6, hb6⟩; obtain ⟨ao6, c6, rfl⟩ := owns_shape ho6; have HI6 := hid (Reads.of_owns ho6); have HI5b := hid (HI5.out.below hb6 (Nat.le_refl _)); have HX6 := hid (HX5.out.trans (hb6.mono HX5.out.size)); have HB6 := hid (HB5.out.trans (hb6.mono HB5.out.size)); clear ho6 hb6)
    | (go_at_call 35; refine (HLR.out w4 (HR.out w4 (HRD.out.below HB4.out (Nat.le_refl _)))).mono ?_; rintro x w5 ⟨v5, rfl, ho5, hb5⟩; obtain ⟨ao5, c5, rfl⟩ := owns_shape ho5; have HI5 := hid (Reads.of_owns ho5); have HX5 := hid (HX4.out.trans (hb5.mono HX4.out.size)); have HB5 := hid (HB4.out.trans (hb5.mono HB4.out.size)); clear ho5 hb5)
    | (go_at_call 27; refine (HRS.out w6 (HR.out w6 (HRD.out.below HB6.out (Nat.le_refl _)))).mono ?_; rintro x w7 ⟨rfl, hb7⟩; have HI6b := hid (HI6.out.below hb7 (Nat.le_refl _)); have HI5c := hid (HI5b.out.below hb7 (Nat.le_refl _)); have HX7 := hid (HX6.out.trans (hb7.mono HX6.out.size)); have HB7 := hid (HB6.out.trans (hb7.mono HB6.out.size)); clear hb7)
    | (go_at_call 36; refine (uints_may ids _ _ w7 HI5c.out HI6b.out (by have := HIL.out; omega)).mono ?_; rintro x w8 ⟨rfl, hb8⟩; have HX8 := hid (HX7.out.trans (hb8.mono HX7.out.size)); have HB8 := hid (HB7.out.trans (hb8.mono HB7.out.size)); clear hb8)
    | (go_at_call 21; refine (HFS.out w9 _ (HO3.out.below HX9.out (Nat.le_refl _))).mono ?_; rintro x w10 ⟨v10, rfl, ho10, hb10⟩; have HF10 := hid (Reads.of_owns ho10); have HF9b := hid (HF9.out.below hb10 (Nat.le_refl _)); have HX10 := hid (HX9.out.trans (hb10.mono HX9.out.size)); have HB10 := hid (HB9.out.trans (hb10.mono HB9.out.size)); clear ho10 hb10)
    | (go_at_call 21; refine (HFR.out w8 (HR.out w8 (HRD.out.below HB8.out (Nat.le_refl _)))).mono ?_; rintro x w9 ⟨v9, rfl, ho9, hb9⟩; have HF9 := hid (Reads.of_owns ho9); have HX9 := hid (HX8.out.trans (hb9.mono HX8.out.size)); have HB9 := hid (HB8.out.trans (hb9.mono HB8.out.size)); clear ho9 hb9)
    | (go_at_call 38; refine (same_t fs fs _ _ _ HF9b.out HF10.out (by have := HFL.out; omega) rfl).mono ?_; rintro x w11 ⟨rfl, hb11⟩; have HX11 := hid (HX10.out.trans (hb11.mono HX10.out.size)); have HB11 := hid (HB10.out.trans (hb11.mono HB10.out.size)); clear hb11)
    | (go_at_call 19; refine (HNS.out w12 _ (HO3.out.below HX12.out (Nat.le_refl _))).mono ?_; rintro x w13 ⟨a13, c13, rfl, hb13⟩; have HB13 := hid (HB12.out.trans (hb13.mono HB12.out.size)); clear hb13)
    | (go_at_call 19; refine (HNR.out w11 (HR.out w11 (HRD.out.below HB11.out (Nat.le_refl _)))).mono ?_; rintro x w12 ⟨a12, c12, rfl, hb12⟩; have HX12 := hid (HX11.out.trans (hb12.mono HX11.out.size)); have HB12 := hid (HB11.out.trans (hb12.mono HB11.out.size)); clear hb12)
    | fail)
  go_ret
  exact ⟨rfl, HB13.out⟩
end Go.Proofs.Ytpnkkdpggofanaa
