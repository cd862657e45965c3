/- spec.step by its walk. -/
import Derived.Test.YtpnkkdpggofanaaSpecRa
import Derived.Test.YtpnkkdpggofanaaSpecRb
import Derived.Test.YtpnkkdpggofanaaSpecRc
import Derived.Test.YtpnkkdpggofanaaSpecRules
namespace Go.Proofs.Ytpnkkdpggofanaa
open Go.RowKit

theorem Blk.below {w w' : World} {b : Nat} {t : TypeId} {cs : List Value} (h : Blk w b t cs) (hc : Below w.heap.size w w') : Blk w' b t cs :=
  h.chg (S := fun k => w.heap.size ≤ k) (Chg.of_below hc (fun k _ h => h)) (fun e => by have := h.lt; omega)
theorem Ends.pre {B bm : Nat} {w W w' : World} {o : Option Ma} {x : Ending} (hb : Below B w W) (h : Ends B bm W o x w') : Ends B bm w o x w' := ⟨hb.trans h.1, h.2⟩
theorem encF_inj {f g : Nat} (h : encF f = encF g) : f = g := by
  simpa [encF] using h

/-- Each function of the maps is its rule. -/
theorem rule_any (B : Nat) (w : World) {bm b i : Nat} {c : Cl} {G : Gm} (h : Rep B w bm G) (hB : B ≤ w.heap.size) (hi : G.cs[i]? = some (b, c)) (hc : G.cp = ptrV b) (e : Ev) (he : e.wf) {f : Nat} (hf : ruleF e.kind = encF f) :
    Calls Try.prog f #[ptrV bm, evV e] w fun x w' => Ends B bm w (ruleM G.ma i c e) x w' := by
  by_cases h4 : e.kind = 4
  · obtain rfl : 76 = f := encF_inj ((show ruleF e.kind = encF 76 by rw [h4]; rfl).symm.trans hf)
    exact (arm_any B w h hB hi hc e he).mono fun _ _ hx => by rw [show ruleM G.ma i c e = armM G.ma c e from by unfold ruleM; rw [h4]; rfl]; exact hx
  by_cases h5 : e.kind = 5
  · obtain rfl : 77 = f := encF_inj ((show ruleF e.kind = encF 77 by rw [h5]; rfl).symm.trans hf)
    exact (fire_any B w h hB hi hc e he).mono fun _ _ hx => by rw [show ruleM G.ma i c e = fireM G.ma c e from by unfold ruleM; rw [h5]; rfl]; exact hx
  by_cases h14 : e.kind = 14
  · obtain rfl : 78 = f := encF_inj ((show ruleF e.kind = encF 78 by rw [h14]; rfl).symm.trans hf)
    exact (over_any B w h hB hi hc e he).mono fun _ _ hx => by rw [show ruleM G.ma i c e = overM G.ma c e from by unfold ruleM; rw [h14]; rfl]; exact hx
  by_cases h2 : e.kind = 2
  · obtain rfl : 79 = f := encF_inj ((show ruleF e.kind = encF 79 by rw [h2]; rfl).symm.trans hf)
    exact (answer_any B w h hB hi hc e he).mono fun _ _ hx => by rw [show ruleM G.ma i c e = answerM G.ma i c e from by unfold ruleM; rw [h2]; rfl]; exact hx
  by_cases h3 : e.kind = 3
  · obtain rfl : 80 = f := encF_inj ((show ruleF e.kind = encF 80 by rw [h3]; rfl).symm.trans hf)
    exact (addRule_any B w h hB hi hc e he).mono fun _ _ hx => by rw [show ruleM G.ma i c e = addM G.ma i c e from by unfold ruleM; rw [h3]; rfl]; exact hx
  by_cases h11 : e.kind = 11
  · obtain rfl : 81 = f := encF_inj ((show ruleF e.kind = encF 81 by rw [h11]; rfl).symm.trans hf)
    exact (tick_any B w h hB hi hc e he).mono fun _ _ hx => by rw [show ruleM G.ma i c e = tickM G.ma i c e from by unfold ruleM; rw [h11]; rfl]; exact hx
  by_cases h6 : e.kind = 6
  · obtain rfl : 82 = f := encF_inj ((show ruleF e.kind = encF 82 by rw [h6]; rfl).symm.trans hf)
    exact (reset_any B w h hB hi hc e he).mono fun _ _ hx => by rw [show ruleM G.ma i c e = resetM G.ma i c e from by unfold ruleM; rw [h6]; rfl]; exact hx
  by_cases h7 : e.kind = 7
  · obtain rfl : 83 = f := encF_inj ((show ruleF e.kind = encF 83 by rw [h7]; rfl).symm.trans hf)
    exact (cancel_any B w h hB hi hc e he).mono fun _ _ hx => by rw [show ruleM G.ma i c e = cancelM G.ma i c e from by unfold ruleM; rw [h7]; rfl]; exact hx
  by_cases h8 : e.kind = 8
  · obtain rfl : 84 = f := encF_inj ((show ruleF e.kind = encF 84 by rw [h8]; rfl).symm.trans hf)
    exact (stop_any B w h hB hi hc e he).mono fun _ _ hx => by rw [show ruleM G.ma i c e = stopM G.ma i c e from by unfold ruleM; rw [h8]; rfl]; exact hx
  by_cases h9 : e.kind = 9
  · obtain rfl : 85 = f := encF_inj ((show ruleF e.kind = encF 85 by rw [h9]; rfl).symm.trans hf)
    exact (refuse_any B w h hB hi hc e he).mono fun _ _ hx => by rw [show ruleM G.ma i c e = refuseM G.ma i c e from by unfold ruleM; rw [h9]; rfl]; exact hx
  by_cases h10 : e.kind = 10
  · obtain rfl : 86 = f := encF_inj ((show ruleF e.kind = encF 86 by rw [h10]; rfl).symm.trans hf)
    exact (close_any B w h hB hi hc e he).mono fun _ _ hx => by rw [show ruleM G.ma i c e = closeM G.ma c e from by unfold ruleM; rw [h10]; rfl]; exact hx
  by_cases h12 : e.kind = 12
  · obtain rfl : 87 = f := encF_inj ((show ruleF e.kind = encF 87 by rw [h12]; rfl).symm.trans hf)
    exact (leave_any B w h hB hi hc e he).mono fun _ _ hx => by rw [show ruleM G.ma i c e = leaveM G.ma e from by unfold ruleM; rw [h12]; rfl]; exact hx
  by_cases h13 : e.kind = 13
  · obtain rfl : 88 = f := encF_inj ((show ruleF e.kind = encF 88 by rw [h13]; rfl).symm.trans hf)
    exact (end_any B w h hB hi hc e he).mono fun _ _ hx => by rw [show ruleM G.ma i c e = endM G.ma i e from by unfold ruleM; rw [h13]; rfl]; exact hx
  · exact absurd (hf.symm.trans (show ruleF e.kind = .nilFunc by unfold ruleF; simp [aget, doneM, openM, h4, h5, h14, h2, h3, h11, h6, h7, h8, h9, h10, h12, h13])) (by simp [encF])

theorem rule_enters {k : Int} {f : Nat} (hf : ruleF k = encF f) (args : Array Value) (w : World) : (callFunc f args).run Try.prog w = .ok (.enter f args) w := by
  by_cases h4 : k = 4
  · obtain rfl : 76 = f := encF_inj ((show ruleF k = encF 76 by rw [h4]; rfl).symm.trans hf)
    kernel_rfl
  by_cases h5 : k = 5
  · obtain rfl : 77 = f := encF_inj ((show ruleF k = encF 77 by rw [h5]; rfl).symm.trans hf)
    kernel_rfl
  by_cases h14 : k = 14
  · obtain rfl : 78 = f := encF_inj ((show ruleF k = encF 78 by rw [h14]; rfl).symm.trans hf)
    kernel_rfl
  by_cases h2 : k = 2
  · obtain rfl : 79 = f := encF_inj ((show ruleF k = encF 79 by rw [h2]; rfl).symm.trans hf)
    kernel_rfl
  by_cases h3 : k = 3
  · obtain rfl : 80 = f := encF_inj ((show ruleF k = encF 80 by rw [h3]; rfl).symm.trans hf)
    kernel_rfl
  by_cases h11 : k = 11
  · obtain rfl : 81 = f := encF_inj ((show ruleF k = encF 81 by rw [h11]; rfl).symm.trans hf)
    kernel_rfl
  by_cases h6 : k = 6
  · obtain rfl : 82 = f := encF_inj ((show ruleF k = encF 82 by rw [h6]; rfl).symm.trans hf)
    kernel_rfl
  by_cases h7 : k = 7
  · obtain rfl : 83 = f := encF_inj ((show ruleF k = encF 83 by rw [h7]; rfl).symm.trans hf)
    kernel_rfl
  by_cases h8 : k = 8
  · obtain rfl : 84 = f := encF_inj ((show ruleF k = encF 84 by rw [h8]; rfl).symm.trans hf)
    kernel_rfl
  by_cases h9 : k = 9
  · obtain rfl : 85 = f := encF_inj ((show ruleF k = encF 85 by rw [h9]; rfl).symm.trans hf)
    kernel_rfl
  by_cases h10 : k = 10
  · obtain rfl : 86 = f := encF_inj ((show ruleF k = encF 86 by rw [h10]; rfl).symm.trans hf)
    kernel_rfl
  by_cases h12 : k = 12
  · obtain rfl : 87 = f := encF_inj ((show ruleF k = encF 87 by rw [h12]; rfl).symm.trans hf)
    kernel_rfl
  by_cases h13 : k = 13
  · obtain rfl : 88 = f := encF_inj ((show ruleF k = encF 88 by rw [h13]; rfl).symm.trans hf)
    kernel_rfl
  · exact absurd (hf.symm.trans (show ruleF k = .nilFunc by unfold ruleF; simp [aget, doneM, openM, h4, h5, h14, h2, h3, h11, h6, h7, h8, h9, h10, h12, h13])) (by simp [encF])

theorem ruleOf_eq (k : Int) : ruleOf k = (if (aget doneM k).isSome then some true else if (aget openM k).isSome then some false else none) := by
  by_cases h4 : k = 4
  · subst h4; rfl
  by_cases h5 : k = 5
  · subst h5; rfl
  by_cases h14 : k = 14
  · subst h14; rfl
  by_cases h2 : k = 2
  · subst h2; rfl
  by_cases h3 : k = 3
  · subst h3; rfl
  by_cases h11 : k = 11
  · subst h11; rfl
  by_cases h6 : k = 6
  · subst h6; rfl
  by_cases h7 : k = 7
  · subst h7; rfl
  by_cases h8 : k = 8
  · subst h8; rfl
  by_cases h9 : k = 9
  · subst h9; rfl
  by_cases h10 : k = 10
  · subst h10; rfl
  by_cases h12 : k = 12
  · subst h12; rfl
  by_cases h13 : k = 13
  · subst h13; rfl
  simp [ruleOf, doneM, openM, aget, h4, h5, h14, h2, h3, h11, h6, h7, h8, h9, h10, h12, h13]

theorem next_ne (f : Nat) (w : World) : (Op.equal 122 (.func (.func f) #[] #[]) .nilFunc).run Try.prog w = .ok false w := by kernel_rfl
theorem next_eq (w : World) : (Op.equal 122 .nilFunc .nilFunc).run Try.prog w = .ok true w := by kernel_rfl
theorem next_ne2 (f : Nat) (w : World) : (binOp .eql 122 (.func (.func f) #[] #[]) .nilFunc).run Try.prog w = .ok (.bool false) w := by kernel_rfl
theorem next_eq2 (w : World) : (binOp .eql 122 .nilFunc .nilFunc).run Try.prog w = .ok (.bool true) w := by kernel_rfl
theorem next_gd (f : Nat) (x y : Operand) (w : World) : (eqGuard .eql 122 x y (.func (.func f) #[] #[]) .nilFunc).run Try.prog w = .ok () w := by kernel_rfl
theorem next_gd2 (x y : Operand) (w : World) : (eqGuard .eql 122 x y .nilFunc .nilFunc).run Try.prog w = .ok () w := by kernel_rfl
theorem ruleF_done {k : Int} {f : Nat} (h : aget doneM k = some f) : ruleF k = encF f := by unfold ruleF; rw [h]
theorem ruleF_open {k : Int} {f : Nat} (h0 : aget doneM k = none) (h : aget openM k = some f) : ruleF k = encF f := by unfold ruleF; rw [h0, h]
theorem ruleF_none {k : Int} (h0 : aget doneM k = none) (h : aget openM k = none) : ruleF k = .nilFunc := by unfold ruleF; rw [h0, h]

set_option maxRecDepth 4000 in
set_option maxHeartbeats 8000000 in
theorem step_any (B : Nat) (w : World) {bm : Nat} {G : Gm} (h : Rep B w bm G) (hB : B ≤ w.heap.size) (hn : G.cs.length ≤ 1000000) (e : Ev) (he : e.wf) :
    Calls Try.prog 49 #[ptrV bm, evV e] w fun x w' => Ends B bm w (stepM G.ma e) x w' := by
  by_cases hk : e.kind = 1
  · have HP := hid (show stepM G.ma e = beginM G.ma e by unfold stepM; simp [hk])
    have hk' : (e.kind == 1) = true := by simp [hk]
    clear hk
    go_enter Try.func49, Try.ntmps49
    go_wp2_with (go_at_call 63; generalize hW : w.alloc _ = W; obtain ⟨hR, hE, hBW, hsz⟩ := h.boxed e hW; clear hW h; generalize hBE : w.heap.size = be at *; have HR := hid hR; have HE := hid hE; have HBW := hid hBW; clear hR hE hBW; have hBw : B ≤ w.heap.size := Nat.le_trans hB (Nat.le_of_eq hBE.symm); refine (begin_any B W HR.out (Nat.le_trans hBw HBW.out.size) hn e he).mono ?_; rintro x w' hE; obtain ⟨hb, r, rfl, hd⟩ := hE; have HD := hid hd; have HB2 := hid hb; clear hd hb)
    go_ret
    exact ⟨(HBW.out.mono hB).trans HB2.out, r, rfl, HP.out ▸ HD.out⟩
  · have hk' : (e.kind == 1) = false := by simp [hk]
    have hq1 := next_ne
    have hq2 := next_eq
    have hq3 := next_ne2
    have hq4 := next_eq2
    have hq5 := next_gd
    have hq6 := next_gd2
    go_enter Try.func49, Try.ntmps49
    go_wp2
    generalize hW : w.alloc _ = W
    obtain ⟨hR, hE, hBW, hsz⟩ := h.boxed e hW
    clear hW h
    generalize hBE : w.heap.size = be at *
    have HR := hid hR
    have HE := hid hE
    have HBW := hid hBW
    clear hR hE hBW
    clear hsz
    have hBw : B ≤ w.heap.size := Nat.le_trans hB (Nat.le_of_eq hBE.symm)
    obtain ⟨bo, cap, hvc⟩ := owns_shape HR.out.calls
    have HVC := hid hvc
    clear hvc
    have m_calls : W.cell? ⟨bm, 5, none⟩ = some (.slice bo G.cs.length cap) := HVC.out ▸ HR.out.mach.cell 5 rfl
    have e_call : W.cell? ⟨be, 2, none⟩ = some (.int .i64 e.call) := HE.out.cell 2 rfl
    by_cases h1 : 1 ≤ e.call
    · have h1' : decide (e.call < 1) = false := decide_eq_false (by omega)
      by_cases h2 : e.call ≤ (G.cs.length : Int)
      · have h2' : decide ((G.cs.length : Int) < e.call) = false := decide_eq_false (by omega)
        obtain ⟨k, hk1⟩ : ∃ k : Nat, e.call = (k : Int) + 1 := ⟨(e.call - 1).toNat, by omega⟩
        have hlt : k < G.cs.length := by omega
        obtain ⟨⟨b, c⟩, hi⟩ : ∃ p, G.cs[k]? = some p := ⟨_, List.getElem?_eq_getElem hlt⟩
        have hsub : IntKind.i64.wrap (e.call - 1) = (k : Int) := by rw [show e.call - 1 = (k : Int) by omega]; exact IntWalk.i64_in _ (by omega)
        have hmi : G.ma.calls[(e.call - 1).toNat]? = some c := by rw [show (e.call - 1).toNat = k by omega]; show (G.cs.map (·.2))[k]? = some c; rw [List.getElem?_map, hi]; rfl
        have HN := hid (show ∀ o : Option Ma, (ruleOf e.kind).isNone = true ∨ c.opn = false ∨ some c.done ≠ ruleOf e.kind ∨ c.bg.thr ≠ e.thr ∨ c.bg.what ≠ e.what → stepM G.ma e = none by intro _ hh; unfold stepM; rw [hmi]; rcases hh with hh | hh | hh | hh | hh <;> simp [hk, hh])
        have HY := hid (show (ruleOf e.kind) = some c.done → c.opn = true → c.bg.thr = e.thr → c.bg.what = e.what → stepM G.ma e = ruleM G.ma k c e by intro q1 q2 q3 q4; unfold stepM; rw [hmi]; simp [hk, q1, q2, q3, q4, cs_len, Int.not_lt.2 h1, Int.not_lt.2 h2, show (e.call - 1).toNat = k by omega])
        have HK1 := hid hk1
        clear hmi h1 h2 hk1
        go_quiet (fail)
        clear m_calls e_call h1' h2'
        generalize hW1 : W.drewN _ = W1
        replace HR := hid (show Rep B W1 bm G from hW1 ▸ HR.out.drewN _)
        replace HE := hid (show Blk W1 be 31 (evC e) from hW1 ▸ HE.out)
        replace HBW := hid (show Below be w W1 from hW1 ▸ below_drewN HBW.out _)
        clear hW1
        go_wp2
        have hbo : ∃ g, bo = some ⟨g, 0, none⟩ := by
          have h0 := HR.out.calls
          rw [HVC.out] at h0
          rcases h0.2 with ⟨h0, _⟩ | ⟨g, cp, cur, h0, _⟩
          · exfalso; simp at h0; omega
          · simp at h0; exact ⟨g, h0.1⟩
        obtain ⟨g, rfl⟩ := hbo
        have hck : W1.cell? ⟨g, k, none⟩ = some (ptrV b) := by
          have h0 := HR.out.calls.cells (g := g) (by rw [HVC.out]; rfl) k (ptrV b) (by rw [List.getElem?_map, hi]; rfl)
          rw [Addr.add_lit] at h0
          simpa using h0
        have m_calls : W1.cell? ⟨bm, 5, none⟩ = some (.slice (some ⟨g, 0, none⟩) G.cs.length cap) := HVC.out ▸ HR.out.mach.cell 5 rfl
        have e_call : W1.cell? ⟨be, 2, none⟩ = some (.int .i64 e.call) := HE.out.cell 2 rfl
        have hkk : 0 ≤ (k : Int) ∧ (k : Int) < (G.cs.length : Int) := by omega
        go_quiet (fail)
        clear m_calls e_call hck hkk hsub
        generalize hW1 : W1.drewN _ = W2
        replace HR := hid (show Rep B W2 bm G from hW1 ▸ HR.out.drewN _)
        replace HE := hid (show Blk W2 be 31 (evC e) from hW1 ▸ HE.out)
        replace HBW := hid (show Below be w W2 from hW1 ▸ below_drewN HBW.out _)
        clear hW1
        have e_kind : W2.cell? ⟨be, 0, none⟩ = some (.int .i64 e.kind) := HE.out.cell 0 rfl
        cases hdm : aget doneM e.kind with
        | some f =>
          have HRO := hid (show ruleOf e.kind = some true by rw [ruleOf_eq, hdm]; rfl)
          have HF := hid (show ruleF e.kind = .func (.func f) #[] #[] from ruleF_done hdm)
          have HRF := hid (ruleF_done hdm)
          have HD0 := hid (show (aget doneM e.kind).isSome = true by rw [hdm]; rfl)
          clear hdm
          cases ho : c.opn
          · have HP := hid (HN.out none (.inr (.inl ho)))
            go_wp2_with (go_at_call 64; refine (rules_any e.kind _).mono ?_; rintro x W3 ⟨rfl, hb⟩; replace HE := hid (HE.out.below hb); replace HBW := hid (HBW.out.trans (hb.mono (Nat.le_trans (Nat.le_of_eq hBE.symm) (hBE ▸ HBW.out.size)))); replace HR := hid (HR.out.below hb); have HC : Hid (Blk W3 b 126 (clC c)) := (HR.out.cl _ (List.mem_of_getElem? hi)).1; clear hb; have e_thr : W3.cell? ⟨be, 1, none⟩ = some (.int .i64 e.thr) := HE.out.cell 1 rfl; have e_what : W3.cell? ⟨be, 3, none⟩ = some (.int .i64 e.what) := HE.out.cell 3 rfl; have c_thr : W3.cell? ⟨b, 1, none⟩ = some (.int .i64 c.bg.thr) := HC.out.cell 1 rfl; have c_what : W3.cell? ⟨b, 3, none⟩ = some (.int .i64 c.bg.what) := HC.out.cell 3 rfl; have c_opn : W3.cell? ⟨b, 10, none⟩ = some (.bool c.opn) := HC.out.cell 10 rfl; have c_done : W3.cell? ⟨b, 11, none⟩ = some (.bool c.done) := HC.out.cell 11 rfl; rw [HF.out, HD0.out])
            rw [ho] at c_opn
            go_quiet (fail)
            go_wp2
            go_ret
            exact Ends.no rfl (below_drewN (HBW.out.mono hB) _) HP.out
          · cases hd : c.done
            · have HP := hid (HN.out none (.inr (.inr (.inl (by rw [hd, HRO.out]; decide)))))
              go_wp2_with (go_at_call 64; refine (rules_any e.kind _).mono ?_; rintro x W3 ⟨rfl, hb⟩; replace HE := hid (HE.out.below hb); replace HBW := hid (HBW.out.trans (hb.mono (Nat.le_trans (Nat.le_of_eq hBE.symm) (hBE ▸ HBW.out.size)))); replace HR := hid (HR.out.below hb); have HC : Hid (Blk W3 b 126 (clC c)) := (HR.out.cl _ (List.mem_of_getElem? hi)).1; clear hb; have e_thr : W3.cell? ⟨be, 1, none⟩ = some (.int .i64 e.thr) := HE.out.cell 1 rfl; have e_what : W3.cell? ⟨be, 3, none⟩ = some (.int .i64 e.what) := HE.out.cell 3 rfl; have c_thr : W3.cell? ⟨b, 1, none⟩ = some (.int .i64 c.bg.thr) := HC.out.cell 1 rfl; have c_what : W3.cell? ⟨b, 3, none⟩ = some (.int .i64 c.bg.what) := HC.out.cell 3 rfl; have c_opn : W3.cell? ⟨b, 10, none⟩ = some (.bool c.opn) := HC.out.cell 10 rfl; have c_done : W3.cell? ⟨b, 11, none⟩ = some (.bool c.done) := HC.out.cell 11 rfl; rw [HF.out, HD0.out])
              rw [ho] at c_opn
              rw [hd] at c_done
              go_quiet (fail)
              go_wp2
              go_ret
              exact Ends.no rfl (below_drewN (HBW.out.mono hB) _) HP.out
            · by_cases ht : c.bg.thr = e.thr
              · have ht' : (c.bg.thr != e.thr) = false := by simp [ht]
                by_cases hw : c.bg.what = e.what
                · have hw' : (c.bg.what != e.what) = false := by simp [hw]
                  have HP := hid (HY.out (by rw [hd, HRO.out]) ho ht hw)
                  have hcf := rule_enters HRF.out
                  clear ht hw
                  go_wp2_with (go_at_call 64; refine (rules_any e.kind _).mono ?_; rintro x W3 ⟨rfl, hb⟩; replace HE := hid (HE.out.below hb); replace HBW := hid (HBW.out.trans (hb.mono (Nat.le_trans (Nat.le_of_eq hBE.symm) (hBE ▸ HBW.out.size)))); replace HR := hid (HR.out.below hb); have HC : Hid (Blk W3 b 126 (clC c)) := (HR.out.cl _ (List.mem_of_getElem? hi)).1; clear hb; have e_thr : W3.cell? ⟨be, 1, none⟩ = some (.int .i64 e.thr) := HE.out.cell 1 rfl; have e_what : W3.cell? ⟨be, 3, none⟩ = some (.int .i64 e.what) := HE.out.cell 3 rfl; have c_thr : W3.cell? ⟨b, 1, none⟩ = some (.int .i64 c.bg.thr) := HC.out.cell 1 rfl; have c_what : W3.cell? ⟨b, 3, none⟩ = some (.int .i64 c.bg.what) := HC.out.cell 3 rfl; have c_opn : W3.cell? ⟨b, 10, none⟩ = some (.bool c.opn) := HC.out.cell 10 rfl; have c_done : W3.cell? ⟨b, 11, none⟩ = some (.bool c.done) := HC.out.cell 11 rfl; rw [HF.out, HD0.out])
                  rw [ho] at c_opn
                  rw [hd] at c_done
                  go_quiet (fail)
                  clear c_thr c_what c_opn c_done e_thr e_what
                  generalize hW1 : W3.drewN _ = W4
                  replace HR := hid (show Rep B W4 bm G from hW1 ▸ HR.out.drewN _)
                  replace HE := hid (show Blk W4 be 31 (evC e) from hW1 ▸ HE.out)
                  replace HBW := hid (show Below be w W4 from hW1 ▸ below_drewN HBW.out _)
                  replace HC := hid (show Blk W4 b 126 (clC c) from hW1 ▸ HC.out)
                  clear hW1
                  have e_kind : W4.cell? ⟨be, 0, none⟩ = some (.int .i64 e.kind) := HE.out.cell 0 rfl
                  have e_thr : W4.cell? ⟨be, 1, none⟩ = some (.int .i64 e.thr) := HE.out.cell 1 rfl
                  have e_call : W4.cell? ⟨be, 2, none⟩ = some (.int .i64 e.call) := HE.out.cell 2 rfl
                  have e_what : W4.cell? ⟨be, 3, none⟩ = some (.int .i64 e.what) := HE.out.cell 3 rfl
                  have e_id : W4.cell? ⟨be, 4, none⟩ = some (.int .u64 e.id) := HE.out.cell 4 rfl
                  have e_gen : W4.cell? ⟨be, 5, none⟩ = some (.int .u64 e.gen) := HE.out.cell 5 rfl
                  have e_dl : W4.cell? ⟨be, 6, none⟩ = some (.int .u64 e.dl) := HE.out.cell 6 rfl
                  have e_per : W4.cell? ⟨be, 7, none⟩ = some (.int .u64 e.per) := HE.out.cell 7 rfl
                  have e_tk : W4.cell? ⟨be, 8, none⟩ = some (.int .u64 e.tk) := HE.out.cell 8 rfl
                  have e_err : W4.cell? ⟨be, 9, none⟩ = some (.int .i64 e.err) := HE.out.cell 9 rfl
                  have m_c : W4.cell? ⟨bm, 9, none⟩ = some G.cp := HR.out.mach.cell 9 rfl
                  have f9 := HR.out.mach.frozen 9
                  have hne : be ≠ bm := fun h => HE.out.ne HR.out.mach (by decide) h
                  have hne' := hne.symm
                  go_wp2_with (generalize hW5 : W4.setCell ⟨bm, 9, none⟩ (ptrV b) = W5; have hch := hid (show Chg (· = bm) W4 W5 from hW5 ▸ (Chg.refl (· = bm) W4).sets rfl 9 (ptrV b)); have HB5 := hid (below_chg (HBW.out.mono hB) hBw hch.out (fun k hk => hk ▸ HR.out.base.1)); have HR5 := hid (HR.out.mset hch.out (room := G.room) (now := G.now) (closed := G.closed) (ended := G.ended) (closer := G.closer) (cp := ptrV b) HR.out.now (show Blk W5 bm _ (mC _) from hW5 ▸ HR.out.mach.set 9 (ptrV b))); refine (rule_any B W5 HR5.out (Nat.le_trans hBw HB5.out.size) (i := k) (b := b) (c := c) hi rfl e he HRF.out).mono ?_; rintro x w' hE; obtain ⟨hb, r, rfl, hd5⟩ := hE; have HD := hid hd5; have HB6 := hid hb; clear hd5 hb)
                  go_ret
                  exact ⟨HB5.out.trans HB6.out, r, rfl, HP.out ▸ HD.out⟩
                · have hw' : (c.bg.what != e.what) = true := by simp [hw]
                  have HP := hid (HN.out none (.inr (.inr (.inr (.inr hw)))))
                  clear ht hw
                  go_wp2_with (go_at_call 64; refine (rules_any e.kind _).mono ?_; rintro x W3 ⟨rfl, hb⟩; replace HE := hid (HE.out.below hb); replace HBW := hid (HBW.out.trans (hb.mono (Nat.le_trans (Nat.le_of_eq hBE.symm) (hBE ▸ HBW.out.size)))); replace HR := hid (HR.out.below hb); have HC : Hid (Blk W3 b 126 (clC c)) := (HR.out.cl _ (List.mem_of_getElem? hi)).1; clear hb; have e_thr : W3.cell? ⟨be, 1, none⟩ = some (.int .i64 e.thr) := HE.out.cell 1 rfl; have e_what : W3.cell? ⟨be, 3, none⟩ = some (.int .i64 e.what) := HE.out.cell 3 rfl; have c_thr : W3.cell? ⟨b, 1, none⟩ = some (.int .i64 c.bg.thr) := HC.out.cell 1 rfl; have c_what : W3.cell? ⟨b, 3, none⟩ = some (.int .i64 c.bg.what) := HC.out.cell 3 rfl; have c_opn : W3.cell? ⟨b, 10, none⟩ = some (.bool c.opn) := HC.out.cell 10 rfl; have c_done : W3.cell? ⟨b, 11, none⟩ = some (.bool c.done) := HC.out.cell 11 rfl; rw [HF.out, HD0.out])
                  rw [ho] at c_opn
                  rw [hd] at c_done
                  go_quiet (fail)
                  go_wp2
                  go_ret
                  exact Ends.no rfl (below_drewN (HBW.out.mono hB) _) HP.out
              · have ht' : (c.bg.thr != e.thr) = true := by simp [ht]
                have HP := hid (HN.out none (.inr (.inr (.inr (.inl ht)))))
                clear ht
                go_wp2_with (go_at_call 64; refine (rules_any e.kind _).mono ?_; rintro x W3 ⟨rfl, hb⟩; replace HE := hid (HE.out.below hb); replace HBW := hid (HBW.out.trans (hb.mono (Nat.le_trans (Nat.le_of_eq hBE.symm) (hBE ▸ HBW.out.size)))); replace HR := hid (HR.out.below hb); have HC : Hid (Blk W3 b 126 (clC c)) := (HR.out.cl _ (List.mem_of_getElem? hi)).1; clear hb; have e_thr : W3.cell? ⟨be, 1, none⟩ = some (.int .i64 e.thr) := HE.out.cell 1 rfl; have e_what : W3.cell? ⟨be, 3, none⟩ = some (.int .i64 e.what) := HE.out.cell 3 rfl; have c_thr : W3.cell? ⟨b, 1, none⟩ = some (.int .i64 c.bg.thr) := HC.out.cell 1 rfl; have c_what : W3.cell? ⟨b, 3, none⟩ = some (.int .i64 c.bg.what) := HC.out.cell 3 rfl; have c_opn : W3.cell? ⟨b, 10, none⟩ = some (.bool c.opn) := HC.out.cell 10 rfl; have c_done : W3.cell? ⟨b, 11, none⟩ = some (.bool c.done) := HC.out.cell 11 rfl; rw [HF.out, HD0.out])
                rw [ho] at c_opn
                rw [hd] at c_done
                go_quiet (fail)
                go_wp2
                go_ret
                exact Ends.no rfl (below_drewN (HBW.out.mono hB) _) HP.out
        | none =>
          cases hom : aget openM e.kind with
          | some f =>
            have HRO := hid (show ruleOf e.kind = some false by rw [ruleOf_eq, hdm, hom]; rfl)
            have HF := hid (show ruleF e.kind = .func (.func f) #[] #[] from ruleF_open hdm hom)
            have HRF := hid (ruleF_open hdm hom)
            have HD0 := hid (show (aget doneM e.kind).isSome = false by rw [hdm]; rfl)
            clear hdm hom
            cases ho : c.opn
            · have HP := hid (HN.out none (.inr (.inl ho)))
              go_wp2_with (go_at_call 64; refine (rules_any e.kind _).mono ?_; rintro x W3 ⟨rfl, hb⟩; replace HE := hid (HE.out.below hb); replace HBW := hid (HBW.out.trans (hb.mono (Nat.le_trans (Nat.le_of_eq hBE.symm) (hBE ▸ HBW.out.size)))); replace HR := hid (HR.out.below hb); have HC : Hid (Blk W3 b 126 (clC c)) := (HR.out.cl _ (List.mem_of_getElem? hi)).1; clear hb; have e_thr : W3.cell? ⟨be, 1, none⟩ = some (.int .i64 e.thr) := HE.out.cell 1 rfl; have e_what : W3.cell? ⟨be, 3, none⟩ = some (.int .i64 e.what) := HE.out.cell 3 rfl; have c_thr : W3.cell? ⟨b, 1, none⟩ = some (.int .i64 c.bg.thr) := HC.out.cell 1 rfl; have c_what : W3.cell? ⟨b, 3, none⟩ = some (.int .i64 c.bg.what) := HC.out.cell 3 rfl; have c_opn : W3.cell? ⟨b, 10, none⟩ = some (.bool c.opn) := HC.out.cell 10 rfl; have c_done : W3.cell? ⟨b, 11, none⟩ = some (.bool c.done) := HC.out.cell 11 rfl; rw [HF.out, HD0.out])
              rw [ho] at c_opn
              go_quiet (fail)
              go_wp2
              go_ret
              exact Ends.no rfl (below_drewN (HBW.out.mono hB) _) HP.out
            · cases hd : c.done
              · by_cases ht : c.bg.thr = e.thr
                · have ht' : (c.bg.thr != e.thr) = false := by simp [ht]
                  by_cases hw : c.bg.what = e.what
                  · have hw' : (c.bg.what != e.what) = false := by simp [hw]
                    have HP := hid (HY.out (by rw [hd, HRO.out]) ho ht hw)
                    have hcf := rule_enters HRF.out
                    clear ht hw
                    go_wp2_with (go_at_call 64; refine (rules_any e.kind _).mono ?_; rintro x W3 ⟨rfl, hb⟩; replace HE := hid (HE.out.below hb); replace HBW := hid (HBW.out.trans (hb.mono (Nat.le_trans (Nat.le_of_eq hBE.symm) (hBE ▸ HBW.out.size)))); replace HR := hid (HR.out.below hb); have HC : Hid (Blk W3 b 126 (clC c)) := (HR.out.cl _ (List.mem_of_getElem? hi)).1; clear hb; have e_thr : W3.cell? ⟨be, 1, none⟩ = some (.int .i64 e.thr) := HE.out.cell 1 rfl; have e_what : W3.cell? ⟨be, 3, none⟩ = some (.int .i64 e.what) := HE.out.cell 3 rfl; have c_thr : W3.cell? ⟨b, 1, none⟩ = some (.int .i64 c.bg.thr) := HC.out.cell 1 rfl; have c_what : W3.cell? ⟨b, 3, none⟩ = some (.int .i64 c.bg.what) := HC.out.cell 3 rfl; have c_opn : W3.cell? ⟨b, 10, none⟩ = some (.bool c.opn) := HC.out.cell 10 rfl; have c_done : W3.cell? ⟨b, 11, none⟩ = some (.bool c.done) := HC.out.cell 11 rfl; rw [HF.out, HD0.out])
                    rw [ho] at c_opn
                    rw [hd] at c_done
                    go_quiet (fail)
                    clear c_thr c_what c_opn c_done e_thr e_what
                    generalize hW1 : W3.drewN _ = W4
                    replace HR := hid (show Rep B W4 bm G from hW1 ▸ HR.out.drewN _)
                    replace HE := hid (show Blk W4 be 31 (evC e) from hW1 ▸ HE.out)
                    replace HBW := hid (show Below be w W4 from hW1 ▸ below_drewN HBW.out _)
                    replace HC := hid (show Blk W4 b 126 (clC c) from hW1 ▸ HC.out)
                    clear hW1
                    have e_kind : W4.cell? ⟨be, 0, none⟩ = some (.int .i64 e.kind) := HE.out.cell 0 rfl
                    have e_thr : W4.cell? ⟨be, 1, none⟩ = some (.int .i64 e.thr) := HE.out.cell 1 rfl
                    have e_call : W4.cell? ⟨be, 2, none⟩ = some (.int .i64 e.call) := HE.out.cell 2 rfl
                    have e_what : W4.cell? ⟨be, 3, none⟩ = some (.int .i64 e.what) := HE.out.cell 3 rfl
                    have e_id : W4.cell? ⟨be, 4, none⟩ = some (.int .u64 e.id) := HE.out.cell 4 rfl
                    have e_gen : W4.cell? ⟨be, 5, none⟩ = some (.int .u64 e.gen) := HE.out.cell 5 rfl
                    have e_dl : W4.cell? ⟨be, 6, none⟩ = some (.int .u64 e.dl) := HE.out.cell 6 rfl
                    have e_per : W4.cell? ⟨be, 7, none⟩ = some (.int .u64 e.per) := HE.out.cell 7 rfl
                    have e_tk : W4.cell? ⟨be, 8, none⟩ = some (.int .u64 e.tk) := HE.out.cell 8 rfl
                    have e_err : W4.cell? ⟨be, 9, none⟩ = some (.int .i64 e.err) := HE.out.cell 9 rfl
                    have m_c : W4.cell? ⟨bm, 9, none⟩ = some G.cp := HR.out.mach.cell 9 rfl
                    have f9 := HR.out.mach.frozen 9
                    have hne : be ≠ bm := fun h => HE.out.ne HR.out.mach (by decide) h
                    have hne' := hne.symm
                    go_wp2_with (generalize hW5 : W4.setCell ⟨bm, 9, none⟩ (ptrV b) = W5; have hch := hid (show Chg (· = bm) W4 W5 from hW5 ▸ (Chg.refl (· = bm) W4).sets rfl 9 (ptrV b)); have HB5 := hid (below_chg (HBW.out.mono hB) hBw hch.out (fun k hk => hk ▸ HR.out.base.1)); have HR5 := hid (HR.out.mset hch.out (room := G.room) (now := G.now) (closed := G.closed) (ended := G.ended) (closer := G.closer) (cp := ptrV b) HR.out.now (show Blk W5 bm _ (mC _) from hW5 ▸ HR.out.mach.set 9 (ptrV b))); refine (rule_any B W5 HR5.out (Nat.le_trans hBw HB5.out.size) (i := k) (b := b) (c := c) hi rfl e he HRF.out).mono ?_; rintro x w' hE; obtain ⟨hb, r, rfl, hd5⟩ := hE; have HD := hid hd5; have HB6 := hid hb; clear hd5 hb)
                    go_ret
                    exact ⟨HB5.out.trans HB6.out, r, rfl, HP.out ▸ HD.out⟩
                  · have hw' : (c.bg.what != e.what) = true := by simp [hw]
                    have HP := hid (HN.out none (.inr (.inr (.inr (.inr hw)))))
                    clear ht hw
                    go_wp2_with (go_at_call 64; refine (rules_any e.kind _).mono ?_; rintro x W3 ⟨rfl, hb⟩; replace HE := hid (HE.out.below hb); replace HBW := hid (HBW.out.trans (hb.mono (Nat.le_trans (Nat.le_of_eq hBE.symm) (hBE ▸ HBW.out.size)))); replace HR := hid (HR.out.below hb); have HC : Hid (Blk W3 b 126 (clC c)) := (HR.out.cl _ (List.mem_of_getElem? hi)).1; clear hb; have e_thr : W3.cell? ⟨be, 1, none⟩ = some (.int .i64 e.thr) := HE.out.cell 1 rfl; have e_what : W3.cell? ⟨be, 3, none⟩ = some (.int .i64 e.what) := HE.out.cell 3 rfl; have c_thr : W3.cell? ⟨b, 1, none⟩ = some (.int .i64 c.bg.thr) := HC.out.cell 1 rfl; have c_what : W3.cell? ⟨b, 3, none⟩ = some (.int .i64 c.bg.what) := HC.out.cell 3 rfl; have c_opn : W3.cell? ⟨b, 10, none⟩ = some (.bool c.opn) := HC.out.cell 10 rfl; have c_done : W3.cell? ⟨b, 11, none⟩ = some (.bool c.done) := HC.out.cell 11 rfl; rw [HF.out, HD0.out])
                    rw [ho] at c_opn
                    rw [hd] at c_done
                    go_quiet (fail)
                    go_wp2
                    go_ret
                    exact Ends.no rfl (below_drewN (HBW.out.mono hB) _) HP.out
                · have ht' : (c.bg.thr != e.thr) = true := by simp [ht]
                  have HP := hid (HN.out none (.inr (.inr (.inr (.inl ht)))))
                  clear ht
                  go_wp2_with (go_at_call 64; refine (rules_any e.kind _).mono ?_; rintro x W3 ⟨rfl, hb⟩; replace HE := hid (HE.out.below hb); replace HBW := hid (HBW.out.trans (hb.mono (Nat.le_trans (Nat.le_of_eq hBE.symm) (hBE ▸ HBW.out.size)))); replace HR := hid (HR.out.below hb); have HC : Hid (Blk W3 b 126 (clC c)) := (HR.out.cl _ (List.mem_of_getElem? hi)).1; clear hb; have e_thr : W3.cell? ⟨be, 1, none⟩ = some (.int .i64 e.thr) := HE.out.cell 1 rfl; have e_what : W3.cell? ⟨be, 3, none⟩ = some (.int .i64 e.what) := HE.out.cell 3 rfl; have c_thr : W3.cell? ⟨b, 1, none⟩ = some (.int .i64 c.bg.thr) := HC.out.cell 1 rfl; have c_what : W3.cell? ⟨b, 3, none⟩ = some (.int .i64 c.bg.what) := HC.out.cell 3 rfl; have c_opn : W3.cell? ⟨b, 10, none⟩ = some (.bool c.opn) := HC.out.cell 10 rfl; have c_done : W3.cell? ⟨b, 11, none⟩ = some (.bool c.done) := HC.out.cell 11 rfl; rw [HF.out, HD0.out])
                  rw [ho] at c_opn
                  rw [hd] at c_done
                  go_quiet (fail)
                  go_wp2
                  go_ret
                  exact Ends.no rfl (below_drewN (HBW.out.mono hB) _) HP.out
              · have HP := hid (HN.out none (.inr (.inr (.inl (by rw [hd, HRO.out]; decide)))))
                go_wp2_with (go_at_call 64; refine (rules_any e.kind _).mono ?_; rintro x W3 ⟨rfl, hb⟩; replace HE := hid (HE.out.below hb); replace HBW := hid (HBW.out.trans (hb.mono (Nat.le_trans (Nat.le_of_eq hBE.symm) (hBE ▸ HBW.out.size)))); replace HR := hid (HR.out.below hb); have HC : Hid (Blk W3 b 126 (clC c)) := (HR.out.cl _ (List.mem_of_getElem? hi)).1; clear hb; have e_thr : W3.cell? ⟨be, 1, none⟩ = some (.int .i64 e.thr) := HE.out.cell 1 rfl; have e_what : W3.cell? ⟨be, 3, none⟩ = some (.int .i64 e.what) := HE.out.cell 3 rfl; have c_thr : W3.cell? ⟨b, 1, none⟩ = some (.int .i64 c.bg.thr) := HC.out.cell 1 rfl; have c_what : W3.cell? ⟨b, 3, none⟩ = some (.int .i64 c.bg.what) := HC.out.cell 3 rfl; have c_opn : W3.cell? ⟨b, 10, none⟩ = some (.bool c.opn) := HC.out.cell 10 rfl; have c_done : W3.cell? ⟨b, 11, none⟩ = some (.bool c.done) := HC.out.cell 11 rfl; rw [HF.out, HD0.out])
                rw [ho] at c_opn
                rw [hd] at c_done
                go_quiet (fail)
                go_wp2
                go_ret
                exact Ends.no rfl (below_drewN (HBW.out.mono hB) _) HP.out
          | none =>
            have HP := hid (HN.out none (.inl (by rw [ruleOf_eq, hdm, hom]; rfl)))
            have HF := hid (ruleF_none hdm hom)
            have HD0 := hid (show (aget doneM e.kind).isSome = false by rw [hdm]; rfl)
            clear hdm hom
            go_wp2_with (go_at_call 64; refine (rules_any e.kind _).mono ?_; rintro x W3 ⟨rfl, hb⟩; replace HE := hid (HE.out.below hb); replace HBW := hid (HBW.out.trans (hb.mono (Nat.le_trans (Nat.le_of_eq hBE.symm) (hBE ▸ HBW.out.size)))); replace HR := hid (HR.out.below hb); have HC : Hid (Blk W3 b 126 (clC c)) := (HR.out.cl _ (List.mem_of_getElem? hi)).1; clear hb; have e_thr : W3.cell? ⟨be, 1, none⟩ = some (.int .i64 e.thr) := HE.out.cell 1 rfl; have e_what : W3.cell? ⟨be, 3, none⟩ = some (.int .i64 e.what) := HE.out.cell 3 rfl; have c_thr : W3.cell? ⟨b, 1, none⟩ = some (.int .i64 c.bg.thr) := HC.out.cell 1 rfl; have c_what : W3.cell? ⟨b, 3, none⟩ = some (.int .i64 c.bg.what) := HC.out.cell 3 rfl; have c_opn : W3.cell? ⟨b, 10, none⟩ = some (.bool c.opn) := HC.out.cell 10 rfl; have c_done : W3.cell? ⟨b, 11, none⟩ = some (.bool c.done) := HC.out.cell 11 rfl; rw [HF.out, HD0.out])
            go_quiet (fail)
            go_wp2
            go_ret
            exact Ends.no rfl (below_drewN (HBW.out.mono hB) _) HP.out
      · have h2' : decide ((G.cs.length : Int) < e.call) = true := decide_eq_true (by omega)
        have HP := hid (show stepM G.ma e = none by unfold stepM; simp [hk, Int.not_lt.2 h1, cs_len, Int.not_le.1 h2])
        clear h1 h2
        go_quiet (fail)
        go_wp2
        go_ret
        exact Ends.no rfl (below_drewN (HBW.out.mono hB) _) HP.out
    · have h1' : decide (e.call < 1) = true := decide_eq_true (by omega)
      have HP := hid (show stepM G.ma e = none by unfold stepM; simp [hk, Int.not_le.1 h1])
      clear h1
      go_quiet (fail)
      go_wp2
      go_ret
      exact Ends.no rfl (below_drewN (HBW.out.mono hB) _) HP.out
end Go.Proofs.Ytpnkkdpggofanaa
