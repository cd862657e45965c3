/- The document's machine: refused by its walk. -/
import Derived.Test.YtpnkkdpggofanaaRmD
namespace Go.Proofs.Ytpnkkdpggofanaa
open Go.RowKit

theorem rfound {T : List RT} {id : Int} (h : ¬ rfindI T id < 0) : ∃ i : Nat, ∃ h : i < T.length, rfindI T id = (i : Int) ∧ rtm T id = T[i] := by
  unfold rfindI rfindTo at *
  cases h1 : T.findIdx? (fun t => t.id == id) with
  | none => rw [h1] at h; simp at h
  | some i =>
    have h2 := h1
    rw [List.findIdx?_eq_some_iff_getElem] at h2
    obtain ⟨hi, hp, hl⟩ := h2
    refine ⟨i, hi, by simp only, ?_⟩
    unfold rtm rget
    have : T.find? (fun t => t.id == id) = some T[i] := by
      rw [List.find?_eq_some_iff_getElem]
      exact ⟨hp, i, hi, rfl, fun j hj => by simpa using hl j hj⟩
    rw [this]; rfl
theorem rlost {T : List RT} {id : Int} (h : rfindI T id < 0) : rfindI T id = -1 ∧ rtm T id = rt0 := by
  unfold rfindI rfindTo at *
  cases h1 : T.findIdx? (fun t => t.id == id) with
  | some i => rw [h1] at h; simp only at h; omega
  | none =>
    refine ⟨rfl, ?_⟩
    rw [List.findIdx?_eq_none_iff] at h1
    unfold rtm rget
    rw [List.find?_eq_none.2 (fun x hx => by have := h1 x hx; simpa using this)]
    rfl

set_option maxHeartbeats 8000000 in
set_option maxRecDepth 100000 in
theorem rrefused_lost (R : Rm) (b : Ev) (err : Int) (bm : Nat) (vc vt : Value) (w : World) (HM : Hid (Blk w bm 91 (mcC R vc vt))) (HT : Hid (∀ W, Chg (· = bm) w W → Reads W vt R.tms.length (R.tms.flatMap rtC))) (hn : R.tms.length ≤ 1000000) (hd : U64 b.dl) (hp : U64 b.per) (hl : rfindI R.tms b.id < 0) :
    Calls Try.prog 71 #[ptrV bm, evV b, .int .i64 err] w fun x w' => x = .returned (.bool (rrefused R b err)) ∧ Below w.heap.size w w' := by
  have HD := hid (And.intro hd hp)
  clear hd hp
  obtain ⟨hfi, hrt⟩ := rlost hl
  clear hl
  have c1 := HM.out.cell 1 rfl
  have c2 := HM.out.cell 2 rfl
  have c6 := HM.out.cell 6 rfl
  have hlt := HM.out.lt
  have n1 : bm < w.heap.size + 1 := by omega
  have n2 : bm < w.heap.size + 1 + 1 := by omega
  have HRT := hid (And.intro hrt hfi)
  clear hrt hfi
  go_enter Try.func71, Try.ntmps71
  go_wp2_with fail
  refine (rfind_any R.tms b.id bm _ _ (((HM.out.alloc _).alloc _).cell 6 rfl) (HT.out _ (((Chg.refl _ _).trans (Chg.alloc _ _ _)).trans (Chg.alloc _ _ _))) hn).mono ?_
  rintro x w' ⟨rfl, rfl⟩
  obtain ⟨hrt, hfi⟩ := HRT.out
  rw [hfi]
  cases g3 : (decide (b.what ≥ 3)) with
  | true =>
    cases e1 : (err == 1) with
    | true =>
      cases w2 : (b.what == 2) with
      | true =>
        cases p0 : (b.per == 0) with
        | true =>
          have HV := hid (show rrefused R b err = (true) by simp [rrefused, hfi, g3, e1, w2, p0])
          go_wp2_with (go_at_call 69; refine (rfits_any _ _ _ HD.out.1 HD.out.2).mono ?_; rintro x w' ⟨rfl, rfl⟩)
          all_goals
            go_ret
            exact ⟨by rw [HV.out]; rfl, (by repeat (first | with_reducible exact Below.refl _ _ | with_reducible refine Below.alloc ?_ (by simp) _ | with_reducible refine Below.alloc ?_ (by simp; omega) _))⟩
        | false =>
          cases ft : (rfits b.dl b.per) with
          | true =>
            cases g5 : (decide (b.what ≤ 5)) with
            | true =>
              have HV := hid (show rrefused R b err = (true) by simp [rrefused, hfi, g3, g5, e1, w2, p0, ft])
              go_wp2_with (go_at_call 69; refine (rfits_any _ _ _ HD.out.1 HD.out.2).mono ?_; rintro x w' ⟨rfl, rfl⟩)
              all_goals
                go_ret
                exact ⟨by rw [HV.out]; rfl, (by repeat (first | with_reducible exact Below.refl _ _ | with_reducible refine Below.alloc ?_ (by simp) _ | with_reducible refine Below.alloc ?_ (by simp; omega) _))⟩
            | false =>
              have HV := hid (show rrefused R b err = (false) by simp [rrefused, hfi, g3, g5, e1, w2, p0, ft])
              go_wp2_with (go_at_call 69; refine (rfits_any _ _ _ HD.out.1 HD.out.2).mono ?_; rintro x w' ⟨rfl, rfl⟩)
              all_goals
                go_ret
                exact ⟨by rw [HV.out]; rfl, (by repeat (first | with_reducible exact Below.refl _ _ | with_reducible refine Below.alloc ?_ (by simp) _ | with_reducible refine Below.alloc ?_ (by simp; omega) _))⟩
          | false =>
            have HV := hid (show rrefused R b err = (true) by simp [rrefused, hfi, g3, e1, w2, p0, ft])
            go_wp2_with (go_at_call 69; refine (rfits_any _ _ _ HD.out.1 HD.out.2).mono ?_; rintro x w' ⟨rfl, rfl⟩)
            all_goals
              go_ret
              exact ⟨by rw [HV.out]; rfl, (by repeat (first | with_reducible exact Below.refl _ _ | with_reducible refine Below.alloc ?_ (by simp) _ | with_reducible refine Below.alloc ?_ (by simp; omega) _))⟩
      | false =>
        cases g5 : (decide (b.what ≤ 5)) with
        | true =>
          have HV := hid (show rrefused R b err = (true) by simp [rrefused, hfi, g3, g5, e1, w2])
          go_wp2_with (go_at_call 69; refine (rfits_any _ _ _ HD.out.1 HD.out.2).mono ?_; rintro x w' ⟨rfl, rfl⟩)
          all_goals
            go_ret
            exact ⟨by rw [HV.out]; rfl, (by repeat (first | with_reducible exact Below.refl _ _ | with_reducible refine Below.alloc ?_ (by simp) _ | with_reducible refine Below.alloc ?_ (by simp; omega) _))⟩
        | false =>
          have HV := hid (show rrefused R b err = (false) by simp [rrefused, hfi, g3, g5, e1, w2])
          go_wp2_with (go_at_call 69; refine (rfits_any _ _ _ HD.out.1 HD.out.2).mono ?_; rintro x w' ⟨rfl, rfl⟩)
          all_goals
            go_ret
            exact ⟨by rw [HV.out]; rfl, (by repeat (first | with_reducible exact Below.refl _ _ | with_reducible refine Below.alloc ?_ (by simp) _ | with_reducible refine Below.alloc ?_ (by simp; omega) _))⟩
    | false =>
      cases e2 : (err == 2) with
      | true =>
        have HV := hid (show rrefused R b err = (decide (b.what ≤ 3)) by simp [rrefused, e1, e2])
        go_wp2_with (go_at_call 69; refine (rfits_any _ _ _ HD.out.1 HD.out.2).mono ?_; rintro x w' ⟨rfl, rfl⟩)
        all_goals
          go_ret
          exact ⟨by rw [HV.out]; rfl, (by repeat (first | with_reducible exact Below.refl _ _ | with_reducible refine Below.alloc ?_ (by simp) _ | with_reducible refine Below.alloc ?_ (by simp; omega) _))⟩
      | false =>
        cases e3 : (err == 3) with
        | true =>
          have HV := hid (show rrefused R b err = (R.closed) by simp [rrefused, e1, e2, e3])
          go_wp2_with (go_at_call 69; refine (rfits_any _ _ _ HD.out.1 HD.out.2).mono ?_; rintro x w' ⟨rfl, rfl⟩)
          all_goals
            go_ret
            exact ⟨by rw [HV.out]; rfl, (by repeat (first | with_reducible exact Below.refl _ _ | with_reducible refine Below.alloc ?_ (by simp) _ | with_reducible refine Below.alloc ?_ (by simp; omega) _))⟩
        | false =>
          cases e9 : (err == 9) with
          | true =>
            cases w7 : (b.what == 7) with
            | true =>
              have HV := hid (show rrefused R b err = (R.now == u64top) by simp [rrefused, e1, e2, e3, e9, w7])
              go_wp2_with (go_at_call 69; refine (rfits_any _ _ _ HD.out.1 HD.out.2).mono ?_; rintro x w' ⟨rfl, rfl⟩)
              all_goals
                go_ret
                exact ⟨by rw [HV.out]; rfl, (by repeat (first | with_reducible exact Below.refl _ _ | with_reducible refine Below.alloc ?_ (by simp) _ | with_reducible refine Below.alloc ?_ (by simp; omega) _))⟩
            | false =>
              have HV := hid (show rrefused R b err = (false) by simp [rrefused, e1, e2, e3, e9, w7])
              go_wp2_with (go_at_call 69; refine (rfits_any _ _ _ HD.out.1 HD.out.2).mono ?_; rintro x w' ⟨rfl, rfl⟩)
              all_goals
                go_ret
                exact ⟨by rw [HV.out]; rfl, (by repeat (first | with_reducible exact Below.refl _ _ | with_reducible refine Below.alloc ?_ (by simp) _ | with_reducible refine Below.alloc ?_ (by simp; omega) _))⟩
          | false =>
            cases e0 : (err == 0) with
            | true =>
              cases g5 : (decide (b.what ≤ 5)) with
              | true =>
                have HV := hid (show rrefused R b err = (true) by simp [rrefused, hrt, g3, g5, e1, e2, e3, e9, e0, rt0])
                go_wp2_with (go_at_call 69; refine (rfits_any _ _ _ HD.out.1 HD.out.2).mono ?_; rintro x w' ⟨rfl, rfl⟩)
                all_goals
                  go_ret
                  exact ⟨by rw [HV.out]; rfl, (by repeat (first | with_reducible exact Below.refl _ _ | with_reducible refine Below.alloc ?_ (by simp) _ | with_reducible refine Below.alloc ?_ (by simp; omega) _))⟩
              | false =>
                have HV := hid (show rrefused R b err = (false) by simp [rrefused, hrt, g3, g5, e1, e2, e3, e9, e0])
                go_wp2_with (go_at_call 69; refine (rfits_any _ _ _ HD.out.1 HD.out.2).mono ?_; rintro x w' ⟨rfl, rfl⟩)
                all_goals
                  go_ret
                  exact ⟨by rw [HV.out]; rfl, (by repeat (first | with_reducible exact Below.refl _ _ | with_reducible refine Below.alloc ?_ (by simp) _ | with_reducible refine Below.alloc ?_ (by simp; omega) _))⟩
            | false =>
              have HV := hid (show rrefused R b err = (false) by simp [rrefused, e1, e2, e3, e9, e0])
              go_wp2_with (go_at_call 69; refine (rfits_any _ _ _ HD.out.1 HD.out.2).mono ?_; rintro x w' ⟨rfl, rfl⟩)
              all_goals
                go_ret
                exact ⟨by rw [HV.out]; rfl, (by repeat (first | with_reducible exact Below.refl _ _ | with_reducible refine Below.alloc ?_ (by simp) _ | with_reducible refine Below.alloc ?_ (by simp; omega) _))⟩
  | false =>
    cases e1 : (err == 1) with
    | true =>
      cases w2 : (b.what == 2) with
      | true =>
        cases p0 : (b.per == 0) with
        | true =>
          have HV := hid (show rrefused R b err = (true) by simp [rrefused, hfi, g3, e1, w2, p0])
          go_wp2_with (go_at_call 69; refine (rfits_any _ _ _ HD.out.1 HD.out.2).mono ?_; rintro x w' ⟨rfl, rfl⟩)
          all_goals
            go_ret
            exact ⟨by rw [HV.out]; rfl, (by repeat (first | with_reducible exact Below.refl _ _ | with_reducible refine Below.alloc ?_ (by simp) _ | with_reducible refine Below.alloc ?_ (by simp; omega) _))⟩
        | false =>
          cases ft : (rfits b.dl b.per) with
          | true =>
            have HV := hid (show rrefused R b err = (false) by simp [rrefused, hfi, g3, e1, w2, p0, ft])
            go_wp2_with (go_at_call 69; refine (rfits_any _ _ _ HD.out.1 HD.out.2).mono ?_; rintro x w' ⟨rfl, rfl⟩)
            all_goals
              go_ret
              exact ⟨by rw [HV.out]; rfl, (by repeat (first | with_reducible exact Below.refl _ _ | with_reducible refine Below.alloc ?_ (by simp) _ | with_reducible refine Below.alloc ?_ (by simp; omega) _))⟩
          | false =>
            have HV := hid (show rrefused R b err = (true) by simp [rrefused, hfi, g3, e1, w2, p0, ft])
            go_wp2_with (go_at_call 69; refine (rfits_any _ _ _ HD.out.1 HD.out.2).mono ?_; rintro x w' ⟨rfl, rfl⟩)
            all_goals
              go_ret
              exact ⟨by rw [HV.out]; rfl, (by repeat (first | with_reducible exact Below.refl _ _ | with_reducible refine Below.alloc ?_ (by simp) _ | with_reducible refine Below.alloc ?_ (by simp; omega) _))⟩
      | false =>
        have HV := hid (show rrefused R b err = (false) by simp [rrefused, hfi, g3, e1, w2])
        go_wp2_with (go_at_call 69; refine (rfits_any _ _ _ HD.out.1 HD.out.2).mono ?_; rintro x w' ⟨rfl, rfl⟩)
        all_goals
          go_ret
          exact ⟨by rw [HV.out]; rfl, (by repeat (first | with_reducible exact Below.refl _ _ | with_reducible refine Below.alloc ?_ (by simp) _ | with_reducible refine Below.alloc ?_ (by simp; omega) _))⟩
    | false =>
      cases e2 : (err == 2) with
      | true =>
        have HV := hid (show rrefused R b err = (decide (b.what ≤ 3)) by simp [rrefused, e1, e2])
        go_wp2_with (go_at_call 69; refine (rfits_any _ _ _ HD.out.1 HD.out.2).mono ?_; rintro x w' ⟨rfl, rfl⟩)
        all_goals
          go_ret
          exact ⟨by rw [HV.out]; rfl, (by repeat (first | with_reducible exact Below.refl _ _ | with_reducible refine Below.alloc ?_ (by simp) _ | with_reducible refine Below.alloc ?_ (by simp; omega) _))⟩
      | false =>
        cases e3 : (err == 3) with
        | true =>
          have HV := hid (show rrefused R b err = (R.closed) by simp [rrefused, e1, e2, e3])
          go_wp2_with (go_at_call 69; refine (rfits_any _ _ _ HD.out.1 HD.out.2).mono ?_; rintro x w' ⟨rfl, rfl⟩)
          all_goals
            go_ret
            exact ⟨by rw [HV.out]; rfl, (by repeat (first | with_reducible exact Below.refl _ _ | with_reducible refine Below.alloc ?_ (by simp) _ | with_reducible refine Below.alloc ?_ (by simp; omega) _))⟩
        | false =>
          cases e9 : (err == 9) with
          | true =>
            cases w7 : (b.what == 7) with
            | true =>
              have HV := hid (show rrefused R b err = (R.now == u64top) by simp [rrefused, e1, e2, e3, e9, w7])
              go_wp2_with (go_at_call 69; refine (rfits_any _ _ _ HD.out.1 HD.out.2).mono ?_; rintro x w' ⟨rfl, rfl⟩)
              all_goals
                go_ret
                exact ⟨by rw [HV.out]; rfl, (by repeat (first | with_reducible exact Below.refl _ _ | with_reducible refine Below.alloc ?_ (by simp) _ | with_reducible refine Below.alloc ?_ (by simp; omega) _))⟩
            | false =>
              have HV := hid (show rrefused R b err = (false) by simp [rrefused, e1, e2, e3, e9, w7])
              go_wp2_with (go_at_call 69; refine (rfits_any _ _ _ HD.out.1 HD.out.2).mono ?_; rintro x w' ⟨rfl, rfl⟩)
              all_goals
                go_ret
                exact ⟨by rw [HV.out]; rfl, (by repeat (first | with_reducible exact Below.refl _ _ | with_reducible refine Below.alloc ?_ (by simp) _ | with_reducible refine Below.alloc ?_ (by simp; omega) _))⟩
          | false =>
            cases e0 : (err == 0) with
            | true =>
              have HV := hid (show rrefused R b err = (false) by simp [rrefused, hrt, g3, e1, e2, e3, e9, e0])
              go_wp2_with (go_at_call 69; refine (rfits_any _ _ _ HD.out.1 HD.out.2).mono ?_; rintro x w' ⟨rfl, rfl⟩)
              all_goals
                go_ret
                exact ⟨by rw [HV.out]; rfl, (by repeat (first | with_reducible exact Below.refl _ _ | with_reducible refine Below.alloc ?_ (by simp) _ | with_reducible refine Below.alloc ?_ (by simp; omega) _))⟩
            | false =>
              have HV := hid (show rrefused R b err = (false) by simp [rrefused, e1, e2, e3, e9, e0])
              go_wp2_with (go_at_call 69; refine (rfits_any _ _ _ HD.out.1 HD.out.2).mono ?_; rintro x w' ⟨rfl, rfl⟩)
              all_goals
                go_ret
                exact ⟨by rw [HV.out]; rfl, (by repeat (first | with_reducible exact Below.refl _ _ | with_reducible refine Below.alloc ?_ (by simp) _ | with_reducible refine Below.alloc ?_ (by simp; omega) _))⟩

set_option maxHeartbeats 8000000 in
set_option maxRecDepth 100000 in
theorem rrefused_found (R : Rm) (b : Ev) (err : Int) (bm : Nat) (vc vt : Value) (w : World) (HM : Hid (Blk w bm 91 (mcC R vc vt))) (HT : Hid (∀ W, Chg (· = bm) w W → Reads W vt R.tms.length (R.tms.flatMap rtC))) (hn : R.tms.length ≤ 1000000) (hd : U64 b.dl) (hp : U64 b.per) (hl : ¬ rfindI R.tms b.id < 0) :
    Calls Try.prog 71 #[ptrV bm, evV b, .int .i64 err] w fun x w' => x = .returned (.bool (rrefused R b err)) ∧ Below w.heap.size w w' := by
  have HD := hid (And.intro hd hp)
  clear hd hp
  obtain ⟨i, hi, hfi, hrt⟩ := rfound hl
  clear hl
  obtain ⟨at1, ct1, rfl, hx⟩ := (HT.out w (Chg.refl _ _)).enc (sz := 8) (fun _ => rfl) (by decide)
  obtain ⟨bt, ot, rfl, hc⟩ := hx i _ (List.getElem?_eq_getElem hi)
  clear hx
  generalize ht : R.tms[i] = t at hc hrt
  clear ht
  have q0 := hc 0 _ rfl
  have q1 := hc 1 _ rfl
  have q2 := hc 2 _ rfl
  have q3 := hc 3 _ rfl
  have q4 := hc 4 _ rfl
  have q5 := hc 5 _ rfl
  have q6 := hc 6 _ rfl
  have q7 := hc 7 _ rfl
  simp only [Nat.add_zero] at q0
  have hbt : bt < w.heap.size := World.block_lt_of_cell? w _ q0
  clear hc
  have m1 : bt < w.heap.size + 1 := by omega
  have m2 : bt < w.heap.size + 1 + 1 := by omega
  have c1 := HM.out.cell 1 rfl
  have c2 := HM.out.cell 2 rfl
  have c6 := HM.out.cell 6 rfl
  have hlt := HM.out.lt
  have n1 : bm < w.heap.size + 1 := by omega
  have n2 : bm < w.heap.size + 1 + 1 := by omega
  have HRT := hid (And.intro hrt hfi)
  clear hrt hfi
  go_enter Try.func71, Try.ntmps71
  go_wp2_with fail
  refine (rfind_any R.tms b.id bm _ _ (((HM.out.alloc _).alloc _).cell 6 rfl) (HT.out _ (((Chg.refl _ _).trans (Chg.alloc _ _ _)).trans (Chg.alloc _ _ _))) hn).mono ?_
  rintro x w' ⟨rfl, rfl⟩
  obtain ⟨hrt, hfi⟩ := HRT.out
  rw [hfi]
  have hii : (i : Int) < (R.tms.length : Int) := by omega
  cases g3 : (decide (b.what ≥ 3)) with
  | true =>
    cases e1 : (err == 1) with
    | true =>
      cases w2 : (b.what == 2) with
      | true =>
        cases p0 : (b.per == 0) with
        | true =>
          have HV := hid (show rrefused R b err = (true) by simp [rrefused, hfi, g3, e1, w2, p0])
          go_wp2_with (go_at_call 69; refine (rfits_any _ _ _ HD.out.1 HD.out.2).mono ?_; rintro x w' ⟨rfl, rfl⟩)
          all_goals
            go_ret
            exact ⟨by rw [HV.out]; rfl, (by repeat (first | with_reducible exact Below.refl _ _ | with_reducible refine Below.alloc ?_ (by simp) _ | with_reducible refine Below.alloc ?_ (by simp; omega) _))⟩
        | false =>
          cases ft : (rfits b.dl b.per) with
          | true =>
            cases g5 : (decide (b.what ≤ 5)) with
            | true =>
              have HV := hid (show rrefused R b err = (false) by simp [rrefused, hfi, g3, g5, e1, w2, p0, ft])
              go_wp2_with (go_at_call 69; refine (rfits_any _ _ _ HD.out.1 HD.out.2).mono ?_; rintro x w' ⟨rfl, rfl⟩)
              all_goals
                go_ret
                exact ⟨by rw [HV.out]; rfl, (by repeat (first | with_reducible exact Below.refl _ _ | with_reducible refine Below.alloc ?_ (by simp) _ | with_reducible refine Below.alloc ?_ (by simp; omega) _))⟩
            | false =>
              have HV := hid (show rrefused R b err = (false) by simp [rrefused, hfi, g3, g5, e1, w2, p0, ft])
              go_wp2_with (go_at_call 69; refine (rfits_any _ _ _ HD.out.1 HD.out.2).mono ?_; rintro x w' ⟨rfl, rfl⟩)
              all_goals
                go_ret
                exact ⟨by rw [HV.out]; rfl, (by repeat (first | with_reducible exact Below.refl _ _ | with_reducible refine Below.alloc ?_ (by simp) _ | with_reducible refine Below.alloc ?_ (by simp; omega) _))⟩
          | false =>
            have HV := hid (show rrefused R b err = (true) by simp [rrefused, hfi, g3, e1, w2, p0, ft])
            go_wp2_with (go_at_call 69; refine (rfits_any _ _ _ HD.out.1 HD.out.2).mono ?_; rintro x w' ⟨rfl, rfl⟩)
            all_goals
              go_ret
              exact ⟨by rw [HV.out]; rfl, (by repeat (first | with_reducible exact Below.refl _ _ | with_reducible refine Below.alloc ?_ (by simp) _ | with_reducible refine Below.alloc ?_ (by simp; omega) _))⟩
      | false =>
        cases g5 : (decide (b.what ≤ 5)) with
        | true =>
          have HV := hid (show rrefused R b err = (false) by simp [rrefused, hfi, g3, g5, e1, w2])
          go_wp2_with (go_at_call 69; refine (rfits_any _ _ _ HD.out.1 HD.out.2).mono ?_; rintro x w' ⟨rfl, rfl⟩)
          all_goals
            go_ret
            exact ⟨by rw [HV.out]; rfl, (by repeat (first | with_reducible exact Below.refl _ _ | with_reducible refine Below.alloc ?_ (by simp) _ | with_reducible refine Below.alloc ?_ (by simp; omega) _))⟩
        | false =>
          have HV := hid (show rrefused R b err = (false) by simp [rrefused, hfi, g3, g5, e1, w2])
          go_wp2_with (go_at_call 69; refine (rfits_any _ _ _ HD.out.1 HD.out.2).mono ?_; rintro x w' ⟨rfl, rfl⟩)
          all_goals
            go_ret
            exact ⟨by rw [HV.out]; rfl, (by repeat (first | with_reducible exact Below.refl _ _ | with_reducible refine Below.alloc ?_ (by simp) _ | with_reducible refine Below.alloc ?_ (by simp; omega) _))⟩
    | false =>
      cases e2 : (err == 2) with
      | true =>
        have HV := hid (show rrefused R b err = (decide (b.what ≤ 3)) by simp [rrefused, e1, e2])
        go_wp2_with (go_at_call 69; refine (rfits_any _ _ _ HD.out.1 HD.out.2).mono ?_; rintro x w' ⟨rfl, rfl⟩)
        all_goals
          go_ret
          exact ⟨by rw [HV.out]; rfl, (by repeat (first | with_reducible exact Below.refl _ _ | with_reducible refine Below.alloc ?_ (by simp) _ | with_reducible refine Below.alloc ?_ (by simp; omega) _))⟩
      | false =>
        cases e3 : (err == 3) with
        | true =>
          have HV := hid (show rrefused R b err = (R.closed) by simp [rrefused, e1, e2, e3])
          go_wp2_with (go_at_call 69; refine (rfits_any _ _ _ HD.out.1 HD.out.2).mono ?_; rintro x w' ⟨rfl, rfl⟩)
          all_goals
            go_ret
            exact ⟨by rw [HV.out]; rfl, (by repeat (first | with_reducible exact Below.refl _ _ | with_reducible refine Below.alloc ?_ (by simp) _ | with_reducible refine Below.alloc ?_ (by simp; omega) _))⟩
        | false =>
          cases e9 : (err == 9) with
          | true =>
            cases w7 : (b.what == 7) with
            | true =>
              have HV := hid (show rrefused R b err = (R.now == u64top) by simp [rrefused, e1, e2, e3, e9, w7])
              go_wp2_with (go_at_call 69; refine (rfits_any _ _ _ HD.out.1 HD.out.2).mono ?_; rintro x w' ⟨rfl, rfl⟩)
              all_goals
                go_ret
                exact ⟨by rw [HV.out]; rfl, (by repeat (first | with_reducible exact Below.refl _ _ | with_reducible refine Below.alloc ?_ (by simp) _ | with_reducible refine Below.alloc ?_ (by simp; omega) _))⟩
            | false =>
              have HV := hid (show rrefused R b err = (false) by simp [rrefused, e1, e2, e3, e9, w7])
              go_wp2_with (go_at_call 69; refine (rfits_any _ _ _ HD.out.1 HD.out.2).mono ?_; rintro x w' ⟨rfl, rfl⟩)
              all_goals
                go_ret
                exact ⟨by rw [HV.out]; rfl, (by repeat (first | with_reducible exact Below.refl _ _ | with_reducible refine Below.alloc ?_ (by simp) _ | with_reducible refine Below.alloc ?_ (by simp; omega) _))⟩
          | false =>
            cases e0 : (err == 0) with
            | true =>
              cases g5 : (decide (b.what ≤ 5)) with
              | true =>
                cases lv : (t.live) with
                | true =>
                  cases w5 : (b.what == 5) with
                  | true =>
                    cases q0 : (t.per == 0) with
                    | true =>
                      have HV := hid (show rrefused R b err = (true) by simp [rrefused, hrt, g3, g5, e1, e2, e3, e9, e0, lv, w5, q0])
                      go_wp2_with (go_at_call 69; refine (rfits_any _ _ _ HD.out.1 HD.out.2).mono ?_; rintro x w' ⟨rfl, rfl⟩)
                      all_goals
                        go_ret
                        exact ⟨by rw [HV.out]; rfl, (by repeat (first | with_reducible exact Below.refl _ _ | with_reducible refine Below.alloc ?_ (by simp) _ | with_reducible refine Below.alloc ?_ (by simp; omega) _))⟩
                    | false =>
                      have HV := hid (show rrefused R b err = (t.last) by simp [rrefused, hrt, g3, g5, e1, e2, e3, e9, e0, lv, w5, q0])
                      go_wp2_with (go_at_call 69; refine (rfits_any _ _ _ HD.out.1 HD.out.2).mono ?_; rintro x w' ⟨rfl, rfl⟩)
                      all_goals
                        go_ret
                        exact ⟨by rw [HV.out]; rfl, (by repeat (first | with_reducible exact Below.refl _ _ | with_reducible refine Below.alloc ?_ (by simp) _ | with_reducible refine Below.alloc ?_ (by simp; omega) _))⟩
                  | false =>
                    have HV := hid (show rrefused R b err = (false) by simp [rrefused, hrt, g3, g5, e1, e2, e3, e9, e0, lv, w5])
                    go_wp2_with (go_at_call 69; refine (rfits_any _ _ _ HD.out.1 HD.out.2).mono ?_; rintro x w' ⟨rfl, rfl⟩)
                    all_goals
                      go_ret
                      exact ⟨by rw [HV.out]; rfl, (by repeat (first | with_reducible exact Below.refl _ _ | with_reducible refine Below.alloc ?_ (by simp) _ | with_reducible refine Below.alloc ?_ (by simp; omega) _))⟩
                | false =>
                  have HV := hid (show rrefused R b err = (true) by simp [rrefused, hrt, g3, g5, e1, e2, e3, e9, e0, lv])
                  go_wp2_with (go_at_call 69; refine (rfits_any _ _ _ HD.out.1 HD.out.2).mono ?_; rintro x w' ⟨rfl, rfl⟩)
                  all_goals
                    go_ret
                    exact ⟨by rw [HV.out]; rfl, (by repeat (first | with_reducible exact Below.refl _ _ | with_reducible refine Below.alloc ?_ (by simp) _ | with_reducible refine Below.alloc ?_ (by simp; omega) _))⟩
              | false =>
                have HV := hid (show rrefused R b err = (false) by simp [rrefused, hrt, g3, g5, e1, e2, e3, e9, e0])
                go_wp2_with (go_at_call 69; refine (rfits_any _ _ _ HD.out.1 HD.out.2).mono ?_; rintro x w' ⟨rfl, rfl⟩)
                all_goals
                  go_ret
                  exact ⟨by rw [HV.out]; rfl, (by repeat (first | with_reducible exact Below.refl _ _ | with_reducible refine Below.alloc ?_ (by simp) _ | with_reducible refine Below.alloc ?_ (by simp; omega) _))⟩
            | false =>
              have HV := hid (show rrefused R b err = (false) by simp [rrefused, e1, e2, e3, e9, e0])
              go_wp2_with (go_at_call 69; refine (rfits_any _ _ _ HD.out.1 HD.out.2).mono ?_; rintro x w' ⟨rfl, rfl⟩)
              all_goals
                go_ret
                exact ⟨by rw [HV.out]; rfl, (by repeat (first | with_reducible exact Below.refl _ _ | with_reducible refine Below.alloc ?_ (by simp) _ | with_reducible refine Below.alloc ?_ (by simp; omega) _))⟩
  | false =>
    cases e1 : (err == 1) with
    | true =>
      cases w2 : (b.what == 2) with
      | true =>
        cases p0 : (b.per == 0) with
        | true =>
          have HV := hid (show rrefused R b err = (true) by simp [rrefused, hfi, g3, e1, w2, p0])
          go_wp2_with (go_at_call 69; refine (rfits_any _ _ _ HD.out.1 HD.out.2).mono ?_; rintro x w' ⟨rfl, rfl⟩)
          all_goals
            go_ret
            exact ⟨by rw [HV.out]; rfl, (by repeat (first | with_reducible exact Below.refl _ _ | with_reducible refine Below.alloc ?_ (by simp) _ | with_reducible refine Below.alloc ?_ (by simp; omega) _))⟩
        | false =>
          cases ft : (rfits b.dl b.per) with
          | true =>
            have HV := hid (show rrefused R b err = (false) by simp [rrefused, hfi, g3, e1, w2, p0, ft])
            go_wp2_with (go_at_call 69; refine (rfits_any _ _ _ HD.out.1 HD.out.2).mono ?_; rintro x w' ⟨rfl, rfl⟩)
            all_goals
              go_ret
              exact ⟨by rw [HV.out]; rfl, (by repeat (first | with_reducible exact Below.refl _ _ | with_reducible refine Below.alloc ?_ (by simp) _ | with_reducible refine Below.alloc ?_ (by simp; omega) _))⟩
          | false =>
            have HV := hid (show rrefused R b err = (true) by simp [rrefused, hfi, g3, e1, w2, p0, ft])
            go_wp2_with (go_at_call 69; refine (rfits_any _ _ _ HD.out.1 HD.out.2).mono ?_; rintro x w' ⟨rfl, rfl⟩)
            all_goals
              go_ret
              exact ⟨by rw [HV.out]; rfl, (by repeat (first | with_reducible exact Below.refl _ _ | with_reducible refine Below.alloc ?_ (by simp) _ | with_reducible refine Below.alloc ?_ (by simp; omega) _))⟩
      | false =>
        have HV := hid (show rrefused R b err = (false) by simp [rrefused, hfi, g3, e1, w2])
        go_wp2_with (go_at_call 69; refine (rfits_any _ _ _ HD.out.1 HD.out.2).mono ?_; rintro x w' ⟨rfl, rfl⟩)
        all_goals
          go_ret
          exact ⟨by rw [HV.out]; rfl, (by repeat (first | with_reducible exact Below.refl _ _ | with_reducible refine Below.alloc ?_ (by simp) _ | with_reducible refine Below.alloc ?_ (by simp; omega) _))⟩
    | false =>
      cases e2 : (err == 2) with
      | true =>
        have HV := hid (show rrefused R b err = (decide (b.what ≤ 3)) by simp [rrefused, e1, e2])
        go_wp2_with (go_at_call 69; refine (rfits_any _ _ _ HD.out.1 HD.out.2).mono ?_; rintro x w' ⟨rfl, rfl⟩)
        all_goals
          go_ret
          exact ⟨by rw [HV.out]; rfl, (by repeat (first | with_reducible exact Below.refl _ _ | with_reducible refine Below.alloc ?_ (by simp) _ | with_reducible refine Below.alloc ?_ (by simp; omega) _))⟩
      | false =>
        cases e3 : (err == 3) with
        | true =>
          have HV := hid (show rrefused R b err = (R.closed) by simp [rrefused, e1, e2, e3])
          go_wp2_with (go_at_call 69; refine (rfits_any _ _ _ HD.out.1 HD.out.2).mono ?_; rintro x w' ⟨rfl, rfl⟩)
          all_goals
            go_ret
            exact ⟨by rw [HV.out]; rfl, (by repeat (first | with_reducible exact Below.refl _ _ | with_reducible refine Below.alloc ?_ (by simp) _ | with_reducible refine Below.alloc ?_ (by simp; omega) _))⟩
        | false =>
          cases e9 : (err == 9) with
          | true =>
            cases w7 : (b.what == 7) with
            | true =>
              have HV := hid (show rrefused R b err = (R.now == u64top) by simp [rrefused, e1, e2, e3, e9, w7])
              go_wp2_with (go_at_call 69; refine (rfits_any _ _ _ HD.out.1 HD.out.2).mono ?_; rintro x w' ⟨rfl, rfl⟩)
              all_goals
                go_ret
                exact ⟨by rw [HV.out]; rfl, (by repeat (first | with_reducible exact Below.refl _ _ | with_reducible refine Below.alloc ?_ (by simp) _ | with_reducible refine Below.alloc ?_ (by simp; omega) _))⟩
            | false =>
              have HV := hid (show rrefused R b err = (false) by simp [rrefused, e1, e2, e3, e9, w7])
              go_wp2_with (go_at_call 69; refine (rfits_any _ _ _ HD.out.1 HD.out.2).mono ?_; rintro x w' ⟨rfl, rfl⟩)
              all_goals
                go_ret
                exact ⟨by rw [HV.out]; rfl, (by repeat (first | with_reducible exact Below.refl _ _ | with_reducible refine Below.alloc ?_ (by simp) _ | with_reducible refine Below.alloc ?_ (by simp; omega) _))⟩
          | false =>
            cases e0 : (err == 0) with
            | true =>
              have HV := hid (show rrefused R b err = (false) by simp [rrefused, hrt, g3, e1, e2, e3, e9, e0])
              go_wp2_with (go_at_call 69; refine (rfits_any _ _ _ HD.out.1 HD.out.2).mono ?_; rintro x w' ⟨rfl, rfl⟩)
              all_goals
                go_ret
                exact ⟨by rw [HV.out]; rfl, (by repeat (first | with_reducible exact Below.refl _ _ | with_reducible refine Below.alloc ?_ (by simp) _ | with_reducible refine Below.alloc ?_ (by simp; omega) _))⟩
            | false =>
              have HV := hid (show rrefused R b err = (false) by simp [rrefused, e1, e2, e3, e9, e0])
              go_wp2_with (go_at_call 69; refine (rfits_any _ _ _ HD.out.1 HD.out.2).mono ?_; rintro x w' ⟨rfl, rfl⟩)
              all_goals
                go_ret
                exact ⟨by rw [HV.out]; rfl, (by repeat (first | with_reducible exact Below.refl _ _ | with_reducible refine Below.alloc ?_ (by simp) _ | with_reducible refine Below.alloc ?_ (by simp; omega) _))⟩

theorem rrefused_any (R : Rm) (b : Ev) (err : Int) (bm : Nat) (vc vt : Value) (w : World) (HM : Hid (Blk w bm 91 (mcC R vc vt))) (HT : Hid (∀ W, Chg (· = bm) w W → Reads W vt R.tms.length (R.tms.flatMap rtC))) (hn : R.tms.length ≤ 1000000) (hd : U64 b.dl) (hp : U64 b.per) :
    Calls Try.prog 71 #[ptrV bm, evV b, .int .i64 err] w fun x w' => x = .returned (.bool (rrefused R b err)) ∧ Below w.heap.size w w' := by
  by_cases hl : rfindI R.tms b.id < 0
  · exact rrefused_lost R b err bm vc vt w HM HT hn hd hp hl
  · exact rrefused_found R b err bm vc vt w HM HT hn hd hp hl
end Go.Proofs.Ytpnkkdpggofanaa
