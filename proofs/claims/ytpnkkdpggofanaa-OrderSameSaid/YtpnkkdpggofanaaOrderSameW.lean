/- vergelaw24.OrderSame, by its walk. -/
import Derived.Test.YtpnkkdpggofanaaMay
import Derived.Test.YtpnkkdpggofanaaSpecRight
import Derived.Test.YtpnkkdpggofanaaEvNe
import Derived.Test.YtpnkkdpggofanaaAlive24
namespace Go.Proofs.Ytpnkkdpggofanaa
open Go.RowKit Go.Shelf Go.Sort

theorem events_t (l1 l2 : List Ev) (v1 v2 : Value) (w : World) (h1 : Reads w v1 l1.length (l1.flatMap evC)) (h2 : Reads w v2 l2.length (l2.flatMap evC)) (hn1 : l1.length ≤ 1000000) (he : l1 = l2) :
    Calls Try.prog 33 #[v1, v2] w fun e w' => e = .returned (.bool true) ∧ Below w.heap.size w w' :=
  (events_any l1 l2 v1 v2 w h1 h2 hn1).mono fun e w' ⟨h3, n, h4⟩ => ⟨by rw [h3, decide_eq_true he], by rw [h4]; exact below_drewN (Below.refl _ _) n⟩

set_option maxRecDepth 1000000 in
set_option maxHeartbeats 8000000 in
theorem same_walk (n : Int) (l : List Ev) (ao : Option Addr) (c : Nat) (w : World) (h1 : Reads w (.slice ao l.length c) l.length (l.flatMap evC)) (hwf : ∀ e ∈ l, e.wf) (hcap : l.length ≤ c) (hn : l.length ≤ 9223372036854775807) :
    Calls Try.prog 10 #[.int .i64 n, .slice ao l.length c] w fun x w' => x = .returned (.bool true) ∧ Below w.heap.size w w' := by
  by_cases h100 : 100 < l.length
  · have h100z : (100 : Int) < (l.length : Int) := by omega
    go_enter Try.func10, Try.ntmps10
    go_wp2_with (go_at_call 17; refine (alive24_any _).mono ?_; rintro e w1 ⟨rfl, hb1⟩; have HB1 := hid hb1; clear hb1)
    go_ret
    exact ⟨rfl, HB1.out⟩
  have h100z : ¬ (100 : Int) < (l.length : Int) := by omega
  have HRD := hid h1
  have HCHK := hid (fun W (h : Reads W (.slice ao l.length c) l.length (l.flatMap evC)) => check_any n l _ W h hwf (by omega))
  have hrl := may_len n l
  have hle := may_le n l
  have HR := hid (fun W (h : Reads W (.slice ao l.length c) l.length (l.flatMap evC)) => show Reads W (.slice ao (playM (new n) l).2 c) (may n l).length ((may n l).flatMap evC) from by rw [may_len]; exact Reads.take h _ hle)
  have hse := may_serial n l
  have hsl := serialOf_len (may n l)
  have hdl : (doneOf (serialOf (may n l))).length ≤ 1000 := by have := List.countP_le_length (p := fun o : OpD => decide (0 ≤ o.did)) (l := opsOf (serialOf (may n l))); have := doneOf_len (serialOf (may n l)); have := opsOf_len (serialOf (may n l)); omega
  obtain ⟨er, hcv0⟩ : ∃ er, chkV n l = .tuple #[.int .i64 ((playM (new n) l).2 : Int), .int .i64 er] := ⟨_, rfl⟩
  have hcv := hid hcv0
  clear hcv0
  generalize may n l = r at *
  generalize hp : (playM (new n) l).2 = p at *
  have HSE := hid hse
  have hsl' : (serialOf r).length ≤ 300 := by omega
  have HSER := hid (fun W (h : Reads W (.slice ao p c) r.length (r.flatMap evC)) => serial_any r _ W (by rw [hrl] at h ⊢; exact h) (by omega))
  generalize serialOf r = s at *
  have HSER2 := hid (fun W v (h : Reads W v s.length (s.flatMap evC)) => show Calls Try.prog 32 #[v] W (fun x w' => ∃ v', x = .returned v' ∧ w'.ownsRow W.heap.size 31 10 v' s.length (s.flatMap evC) ∧ Below W.heap.size W w') from by
    have := serial_any s v W h (by omega)
    rw [HSE.out] at this
    exact this)
  obtain ⟨ns, hns⟩ : ∃ ns, ns = (doneOf s).map (·.no) := ⟨_, rfl⟩
  have hdl' : ns.length ≤ 1000 := by rw [hns, List.length_map]; omega
  have HLINE := hid (fun W v (h : Reads W v s.length (s.flatMap evC)) => show Calls Try.prog 19 #[v] W (fun x w' => ∃ v', x = .returned v' ∧ w'.ownsRow W.heap.size 3 1 v' ns.length (ns.map (Value.int .i64)) ∧ Below W.heap.size W w') from
    (line_any s v W h (by omega)).mono fun x w' ⟨v', e, ho, hb⟩ => ⟨v', e, by rw [hns, List.length_map, List.map_map]; exact ho, hb⟩)
  have HDL := hid hdl'
  have HSL := hid hsl'
  have hz : ¬ ((p : Int) < 0) := by omega
  have hz2 : ¬ ((l.length : Int) < (p : Int)) := by omega
  have hz3 : (p : Int) ≤ (c : Int) := by omega
  have hz4 : ¬ ((c : Int) < (p : Int)) := by omega
  have hz5 : min (p : Int) (l.length : Int) = (p : Int) := by omega
  clear h1 hwf hse hsl hsl' hdl hdl' hns hp hrl
  go_enter Try.func10, Try.ntmps10
  go_wp2_with (first
    | (go_at_call 17; refine (alive24_any _).mono ?_; rintro e w1 ⟨rfl, hb1⟩; have HB1 := hid hb1; clear hb1)
    | (go_at_call 16; refine (HCHK.out w1 (HRD.out.below HB1.out (Nat.le_refl _))).mono ?_; rintro x w2 ⟨rfl, hb2⟩; rw [hcv.out]; have HB2 := hid (HB1.out.trans (hb2.mono HB1.out.size)); clear hb2)
    | (go_at_call 32; refine (HSER2.out w5 _ HO3c.out).mono ?_; rintro x w6 ⟨v6, rfl, ho6, hb6⟩; obtain ⟨ao6, c6, rfl⟩ := owns_shape ho6; have HO6 := hid (Reads.of_owns ho6); have HO5b := hid (HO5.out.below hb6 (Nat.le_refl _)); have HB6 := hid (HB5.out.trans (hb6.mono HB5.out.size)); clear ho6 hb6)
    | (go_at_call 32; refine (HSER2.out w3 _ HO3.out).mono ?_; rintro x w4 ⟨v4, rfl, ho4, hb4⟩; obtain ⟨ao4, c4, rfl⟩ := owns_shape ho4; have HO4 := hid (Reads.of_owns ho4); have HO3b := hid (HO3.out.below hb4 (Nat.le_refl _)); have HB4 := hid (HB3.out.trans (hb4.mono HB3.out.size)); clear ho4 hb4)
    | (go_at_call 32; refine (HSER.out w2 (HR.out w2 (HRD.out.below HB2.out (Nat.le_refl _)))).mono ?_; rintro x w3 ⟨v3, rfl, ho3, hb3⟩; obtain ⟨ao3, c3, rfl⟩ := owns_shape ho3; have HO3 := hid (Reads.of_owns ho3); have HB3 := hid (HB2.out.trans (hb3.mono HB2.out.size)); clear ho3 hb3)
    | (go_at_call 33; refine (events_t s s _ _ _ HO4.out HO3b.out (by have := HSL.out; omega) rfl).mono ?_; rintro x w4e ⟨rfl, hb4e⟩; have HO3e := hid (HO3b.out.below hb4e (Nat.le_refl _)); have HB4e := hid (HB4.out.trans (hb4e.mono HB4.out.size)); clear hb4e)
    | (go_at_call 19; refine (HLINE.out w6 _ HO6.out).mono ?_; rintro x w7 ⟨v7, rfl, ho7, hb7⟩; have HO7 := hid (Reads.of_owns ho7); have HO5c := hid (HO5b.out.below hb7 (Nat.le_refl _)); have HB7 := hid (HB6.out.trans (hb7.mono HB6.out.size)); clear ho7 hb7)
    | (go_at_call 19; refine (HLINE.out w4e _ HO3e.out).mono ?_; rintro x w5 ⟨v5, rfl, ho5, hb5⟩; have HO5 := hid (Reads.of_owns ho5); have HO3c := hid (HO3e.out.below hb5 (Nat.le_refl _)); have HB5 := hid (HB4e.out.trans (hb5.mono HB4e.out.size)); clear ho5 hb5)
    | (go_at_call 25; refine (ints_t ns ns _ _ _ HO5c.out HO7.out (by have := HDL.out; omega) rfl).mono ?_; rintro x w8 ⟨rfl, hb8⟩; have HB8 := hid (HB7.out.trans (hb8.mono HB7.out.size)); clear hb8)
    | fail)
  go_ret
  exact ⟨rfl, HB8.out⟩
end Go.Proofs.Ytpnkkdpggofanaa
