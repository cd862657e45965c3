/- vergeref24.Right, by its walk. -/
import Derived.Test.YtpnkkdpggofanaaRightLex
namespace Go.Proofs.Ytpnkkdpggofanaa
open Go.Shelf Go.RowKit Go.Lib Go.Sort Go.Proofs

set_option maxRecDepth 1000000 in
set_option maxHeartbeats 40000000 in
theorem refright_any (l : List Ev) (v : Value) (w : World) (h1 : Reads w v l.length (l.flatMap evC)) (hn : l.length ≤ 1000) :
    Calls Try.prog 29 #[v] w fun x w' => x = .returned (.bool (refRight l (refOps l))) ∧ Below w.heap.size w w' := by
  have HRD := hid h1
  obtain ⟨ao, c1, rfl, g1⟩ := h1.evs
  have H1 := hid g1
  clear g1 h1
  have hol := refOps_len l
  have HOPS := hid (refops_any l (.slice ao l.length c1) w HRD.out (by omega))
  generalize refOps l = os at *
  have HT := hid (refRight_true l os)
  have HF := hid (refRight_false l os)
  generalize refRight l os = RR at *
  go_enter Try.func29, Try.ntmps29
  go_wp2_with (go_at_call 23; refine HOPS.out.mono ?_; rintro e w1 ⟨v1, rfl, ho1, hb1⟩; obtain ⟨ao1, c2, rfl⟩ := owns_shape ho1; have HO1 := hid ho1; have HB1 := hid hb1; have hs1 := hb1.size; clear ho1 hb1)
  have HC : Hid (∀ W, Below w1.heap.size w1 W → ∀ j (hj : j < os.length), ∃ b o, ao1 = some ⟨b, o, none⟩ ∧ W.cell? ⟨b, o + j * 6, none⟩ = some (.int .i64 os[j].no) ∧ W.cell? ⟨b, o + j * 6 + 3, none⟩ = some (.int .i64 os[j].beg) ∧ W.cell? ⟨b, o + j * 6 + 4, none⟩ = some (.int .i64 os[j].did) ∧ W.cell? ⟨b, o + j * 6 + 5, none⟩ = some (.int .i64 os[j].fin)) := by
    intro W hW j hj
    obtain ⟨ao', c', hv, hx⟩ := ((Reads.of_owns HO1.out).below hW (Nat.le_refl _)).ops
    simp only [Value.slice.injEq] at hv
    obtain ⟨rfl, _, rfl⟩ := hv
    obtain ⟨b, o, e, hc⟩ := hx j _ (List.getElem?_eq_getElem hj)
    exact ⟨b, o, e, by simpa using hc 0 _ rfl, hc 3 _ rfl, hc 4 _ rfl, hc 5 _ rfl⟩

  go_loopw [4] (fun i wr => ∃ k : Nat, k ≤ l.length ∧ i = .int .i64 k ∧ Below w1.heap.size w1 wr ∧ Hid (∀ i (hi : i < l.length), i < k → thereTo os i l[i] os.length = true)) (fun i _ => l.length - (intOf i).toNat)
  case atStart => exact ⟨0, by omega, rfl, Below.refl _ _, fun _ _ h => absurd h (by omega)⟩
  case round =>
    obtain ⟨i, hi, rfl, hb, HI⟩ := hrel
    by_cases hlt : i < l.length
    · have HB := hid hb
      obtain ⟨be, oe, hae, hce⟩ := H1.out i l[i] (List.getElem?_eq_getElem hlt)
      obtain rfl := hae
      have HCE := hid hce
      have HSUC := hid (thereTo_succ os i l[i])
      have HZ := hid (show thereTo os i l[i] 0 = false from rfl)
      have HFI := hid (HF.out i hlt)
      have HTI := hid (fun (h : thereTo os i l[i] os.length = true) => show Hid (∀ j (hj : j < l.length), j < i + 1 → thereTo os j l[j] os.length = true) from fun j hj hji => by
        by_cases e : j = i
        · subst e; exact h
        · exact HI.out j hj (by omega))
      have HRT := hid (fun o => show rthere i l[i] o = (decide (o.beg ≤ (i : Int)) && (((i : Int) == o.beg) == (l[i].kind == 1)) && (decide (o.fin < 0) || decide ((i : Int) ≤ o.fin)) && (!isDoes l[i].kind || ((i : Int) == o.did)) && (l[i].kind != 2 || (decide (0 ≤ o.did) && decide (o.did < (i : Int))))) from rfl)
      have HDO := hid (fun W => rdoes_any l[i].kind W)
      clear hb hce
      generalize hE : l[i] = E at *
      clear hE
      have HK1 := hid (show E.kind = 1 → isDoes E.kind = false from fun h => by rw [h]; rfl)
      have HF1 := hid (show isDoes E.kind = true → E.kind ≠ 2 from does_ne2)
      generalize hdd : isDoes E.kind = dd at *
      clear hdd
      go_wp2
      go_loopw [5, 6] (fun t j wr => ∃ q : Nat, q ≤ os.length ∧ j = .int .i64 q ∧ t = .bool (thereTo os i E q) ∧ Below w1.heap.size w1 wr) (fun _ j _ => os.length - (intOf j).toNat)
      case atStart => exact ⟨0, by omega, rfl, by rw [HZ.out], HB.out⟩
      case round =>
        clear HB
        obtain ⟨q, hq, rfl, rfl, hb⟩ := hrel
        by_cases hqt : q < os.length
        · obtain ⟨b, o, hao, p0, p3, p4, p5⟩ := HC.out wr hb q hqt
          obtain rfl := hao
          have hbw := (HB1.out.trans (hb.mono hs1))
          have r0 : wr.cell? ⟨be, oe + i * 10, none⟩ = some (.int .i64 E.kind) := (hbw.cell (World.block_lt_of_cell? _ _ (HCE.out 0 _ rfl))).trans (HCE.out 0 _ rfl)
          have r2 : wr.cell? ⟨be, oe + i * 10 + 2, none⟩ = some (.int .i64 E.call) := (hbw.cell (World.block_lt_of_cell? _ _ (HCE.out 2 _ rfl))).trans (HCE.out 2 _ rfl)
          have HB := hid hb
          have HX := hid (HRT.out os[q])
          have hs := hid (HSUC.out q hqt)
          clear hb hbw
          generalize rthere i E os[q] = rt at *
          generalize thereTo os i E q = tq at *
          generalize os[q].no = no at *
          generalize os[q].did = dq at *
          generalize os[q].fin = fq at *
          generalize os[q].beg = bq at *
          by_cases t0 : no = E.call
          case neg =>
            have HS2 := hs.out
            rw [if_neg t0] at HS2
            have HV := hid HS2
            have u0 : (no != E.call) = true := by simp [t0]
            clear t0 HS2 hs
            go_wp2
            go_quiet (fail)
            go_wp2
            go_roundw
            case rel => exact ⟨q + 1, by omega, by go_num, by rw [HV.out], below_drewN HB.out _⟩
            case measure => simp [intOf]; omega
          have HS2 := hs.out
          rw [if_pos t0] at HS2
          have HV := hid HS2
          have u0 : (no != E.call) = false := by simp [t0]
          clear t0 HS2 hs
          generalize E.kind = ek at *
          generalize E.call = ec at *
          go_wp2
          go_quiet (fail)
          go_wp2
          simp only [List.append]
          refine wp_region_quiet_lit (by kernel_rfl) (Eq.mp (by kernel_rfl) right_lex) ?_
          cases hA : decide (bq ≤ (i : Int))
          · have HW := hid (show rt = false by rw [HX.out]; simp [hA])
            have hs2 := HV.out
            rw [HW.out] at hs2
            have HS3 := hid hs2
            clear hs2 HW HV HX
            repeat (go_big_quiet_step (first | (go_at_call 44; exact (HDO.out _).mono fun e w5 h5 => ⟨h5.1, _, h5.2⟩)))
            refine wpQuiet_nil ?_
            intro _ hw2
            obtain ⟨nq2, hw3⟩ := hw2
            subst hw3
            go_wp2
            go_roundw
            case rel => exact ⟨q + 1, by omega, by go_num, by rw [HS3.out], below_drewN HB.out _⟩
            case measure => simp [intOf]; omega
          · cases hB : ((i : Int) == bq)
            · cases hK : (ek == 1)
              · cases hC : decide (fq < 0)
                · cases hD : decide ((i : Int) ≤ fq)
                  · have HW := hid (show rt = false by rw [HX.out]; simp [hA, hB, hK, hC, hD])
                    have hs2 := HV.out
                    rw [HW.out] at hs2
                    have HS3 := hid hs2
                    clear hs2 HW HV HX
                    repeat (go_big_quiet_step (first | (go_at_call 44; exact (HDO.out _).mono fun e w5 h5 => ⟨h5.1, _, h5.2⟩)))
                    refine wpQuiet_nil ?_
                    intro _ hw2
                    obtain ⟨nq2, hw3⟩ := hw2
                    subst hw3
                    go_wp2
                    go_roundw
                    case rel => exact ⟨q + 1, by omega, by go_num, by rw [HS3.out], below_drewN HB.out _⟩
                    case measure => simp [intOf]; omega
                  · cases hF : dd
                    · cases hH : (ek != 2)
                      · cases hJ : decide (0 ≤ dq)
                        · have HW := hid (show rt = false by rw [HX.out]; simp [hA, hB, hK, hC, hD, hF, hH, hJ])
                          have hs2 := HV.out
                          rw [HW.out] at hs2
                          have HS3 := hid hs2
                          clear hs2 HW HV HX
                          repeat (go_big_quiet_step (first | (go_at_call 44; exact (HDO.out _).mono fun e w5 h5 => ⟨h5.1, _, h5.2⟩)))
                          refine wpQuiet_nil ?_
                          intro _ hw2
                          obtain ⟨nq2, hw3⟩ := hw2
                          subst hw3
                          go_wp2
                          go_roundw
                          case rel => exact ⟨q + 1, by omega, by go_num, by rw [HS3.out], below_drewN HB.out _⟩
                          case measure => simp [intOf]; omega
                        · cases hL : decide (dq < (i : Int))
                          · have HW := hid (show rt = false by rw [HX.out]; simp [hA, hB, hK, hC, hD, hF, hH, hJ, hL])
                            have hs2 := HV.out
                            rw [HW.out] at hs2
                            have HS3 := hid hs2
                            clear hs2 HW HV HX
                            repeat (go_big_quiet_step (first | (go_at_call 44; exact (HDO.out _).mono fun e w5 h5 => ⟨h5.1, _, h5.2⟩)))
                            refine wpQuiet_nil ?_
                            intro _ hw2
                            obtain ⟨nq2, hw3⟩ := hw2
                            subst hw3
                            go_wp2
                            go_roundw
                            case rel => exact ⟨q + 1, by omega, by go_num, by rw [HS3.out], below_drewN HB.out _⟩
                            case measure => simp [intOf]; omega
                          · have HW := hid (show rt = true by rw [HX.out]; simp [hA, hB, hK, hC, hD, hF, hH, hJ, hL])
                            have hs2 := HV.out
                            rw [HW.out] at hs2
                            have HS3 := hid hs2
                            clear hs2 HW HV HX
                            repeat (go_big_quiet_step (first | (go_at_call 44; exact (HDO.out _).mono fun e w5 h5 => ⟨h5.1, _, h5.2⟩)))
                            refine wpQuiet_nil ?_
                            intro _ hw2
                            obtain ⟨nq2, hw3⟩ := hw2
                            subst hw3
                            go_wp2
                            go_roundw
                            case rel => exact ⟨q + 1, by omega, by go_num, by rw [HS3.out], below_drewN HB.out _⟩
                            case measure => simp [intOf]; omega
                      · have HW := hid (show rt = true by rw [HX.out]; simp [hA, hB, hK, hC, hD, hF, hH])
                        have hs2 := HV.out
                        rw [HW.out] at hs2
                        have HS3 := hid hs2
                        clear hs2 HW HV HX
                        repeat (go_big_quiet_step (first | (go_at_call 44; exact (HDO.out _).mono fun e w5 h5 => ⟨h5.1, _, h5.2⟩)))
                        refine wpQuiet_nil ?_
                        intro _ hw2
                        obtain ⟨nq2, hw3⟩ := hw2
                        subst hw3
                        go_wp2
                        go_roundw
                        case rel => exact ⟨q + 1, by omega, by go_num, by rw [HS3.out], below_drewN HB.out _⟩
                        case measure => simp [intOf]; omega
                    · have hH : (ek != 2) = true := by have := HF1.out hF; simp [this]
                      cases hG : ((i : Int) == dq)
                      · have HW := hid (show rt = false by rw [HX.out]; simp [hA, hB, hK, hC, hD, hF, hH, hG])
                        have hs2 := HV.out
                        rw [HW.out] at hs2
                        have HS3 := hid hs2
                        clear hs2 HW HV HX
                        repeat (go_big_quiet_step (first | (go_at_call 44; exact (HDO.out _).mono fun e w5 h5 => ⟨h5.1, _, h5.2⟩)))
                        refine wpQuiet_nil ?_
                        intro _ hw2
                        obtain ⟨nq2, hw3⟩ := hw2
                        subst hw3
                        go_wp2
                        go_roundw
                        case rel => exact ⟨q + 1, by omega, by go_num, by rw [HS3.out], below_drewN HB.out _⟩
                        case measure => simp [intOf]; omega
                      · have HW := hid (show rt = true by rw [HX.out]; simp [hA, hB, hK, hC, hD, hF, hH, hG])
                        have hs2 := HV.out
                        rw [HW.out] at hs2
                        have HS3 := hid hs2
                        clear hs2 HW HV HX
                        repeat (go_big_quiet_step (first | (go_at_call 44; exact (HDO.out _).mono fun e w5 h5 => ⟨h5.1, _, h5.2⟩)))
                        refine wpQuiet_nil ?_
                        intro _ hw2
                        obtain ⟨nq2, hw3⟩ := hw2
                        subst hw3
                        go_wp2
                        go_roundw
                        case rel => exact ⟨q + 1, by omega, by go_num, by rw [HS3.out], below_drewN HB.out _⟩
                        case measure => simp [intOf]; omega
                · cases hF : dd
                  · cases hH : (ek != 2)
                    · cases hJ : decide (0 ≤ dq)
                      · have HW := hid (show rt = false by rw [HX.out]; simp [hA, hB, hK, hC, hF, hH, hJ])
                        have hs2 := HV.out
                        rw [HW.out] at hs2
                        have HS3 := hid hs2
                        clear hs2 HW HV HX
                        repeat (go_big_quiet_step (first | (go_at_call 44; exact (HDO.out _).mono fun e w5 h5 => ⟨h5.1, _, h5.2⟩)))
                        refine wpQuiet_nil ?_
                        intro _ hw2
                        obtain ⟨nq2, hw3⟩ := hw2
                        subst hw3
                        go_wp2
                        go_roundw
                        case rel => exact ⟨q + 1, by omega, by go_num, by rw [HS3.out], below_drewN HB.out _⟩
                        case measure => simp [intOf]; omega
                      · cases hL : decide (dq < (i : Int))
                        · have HW := hid (show rt = false by rw [HX.out]; simp [hA, hB, hK, hC, hF, hH, hJ, hL])
                          have hs2 := HV.out
                          rw [HW.out] at hs2
                          have HS3 := hid hs2
                          clear hs2 HW HV HX
                          repeat (go_big_quiet_step (first | (go_at_call 44; exact (HDO.out _).mono fun e w5 h5 => ⟨h5.1, _, h5.2⟩)))
                          refine wpQuiet_nil ?_
                          intro _ hw2
                          obtain ⟨nq2, hw3⟩ := hw2
                          subst hw3
                          go_wp2
                          go_roundw
                          case rel => exact ⟨q + 1, by omega, by go_num, by rw [HS3.out], below_drewN HB.out _⟩
                          case measure => simp [intOf]; omega
                        · have HW := hid (show rt = true by rw [HX.out]; simp [hA, hB, hK, hC, hF, hH, hJ, hL])
                          have hs2 := HV.out
                          rw [HW.out] at hs2
                          have HS3 := hid hs2
                          clear hs2 HW HV HX
                          repeat (go_big_quiet_step (first | (go_at_call 44; exact (HDO.out _).mono fun e w5 h5 => ⟨h5.1, _, h5.2⟩)))
                          refine wpQuiet_nil ?_
                          intro _ hw2
                          obtain ⟨nq2, hw3⟩ := hw2
                          subst hw3
                          go_wp2
                          go_roundw
                          case rel => exact ⟨q + 1, by omega, by go_num, by rw [HS3.out], below_drewN HB.out _⟩
                          case measure => simp [intOf]; omega
                    · have HW := hid (show rt = true by rw [HX.out]; simp [hA, hB, hK, hC, hF, hH])
                      have hs2 := HV.out
                      rw [HW.out] at hs2
                      have HS3 := hid hs2
                      clear hs2 HW HV HX
                      repeat (go_big_quiet_step (first | (go_at_call 44; exact (HDO.out _).mono fun e w5 h5 => ⟨h5.1, _, h5.2⟩)))
                      refine wpQuiet_nil ?_
                      intro _ hw2
                      obtain ⟨nq2, hw3⟩ := hw2
                      subst hw3
                      go_wp2
                      go_roundw
                      case rel => exact ⟨q + 1, by omega, by go_num, by rw [HS3.out], below_drewN HB.out _⟩
                      case measure => simp [intOf]; omega
                  · have hH : (ek != 2) = true := by have := HF1.out hF; simp [this]
                    cases hG : ((i : Int) == dq)
                    · have HW := hid (show rt = false by rw [HX.out]; simp [hA, hB, hK, hC, hF, hH, hG])
                      have hs2 := HV.out
                      rw [HW.out] at hs2
                      have HS3 := hid hs2
                      clear hs2 HW HV HX
                      repeat (go_big_quiet_step (first | (go_at_call 44; exact (HDO.out _).mono fun e w5 h5 => ⟨h5.1, _, h5.2⟩)))
                      refine wpQuiet_nil ?_
                      intro _ hw2
                      obtain ⟨nq2, hw3⟩ := hw2
                      subst hw3
                      go_wp2
                      go_roundw
                      case rel => exact ⟨q + 1, by omega, by go_num, by rw [HS3.out], below_drewN HB.out _⟩
                      case measure => simp [intOf]; omega
                    · have HW := hid (show rt = true by rw [HX.out]; simp [hA, hB, hK, hC, hF, hH, hG])
                      have hs2 := HV.out
                      rw [HW.out] at hs2
                      have HS3 := hid hs2
                      clear hs2 HW HV HX
                      repeat (go_big_quiet_step (first | (go_at_call 44; exact (HDO.out _).mono fun e w5 h5 => ⟨h5.1, _, h5.2⟩)))
                      refine wpQuiet_nil ?_
                      intro _ hw2
                      obtain ⟨nq2, hw3⟩ := hw2
                      subst hw3
                      go_wp2
                      go_roundw
                      case rel => exact ⟨q + 1, by omega, by go_num, by rw [HS3.out], below_drewN HB.out _⟩
                      case measure => simp [intOf]; omega
              · have HW := hid (show rt = false by rw [HX.out]; simp [hA, hB, hK])
                have hs2 := HV.out
                rw [HW.out] at hs2
                have HS3 := hid hs2
                clear hs2 HW HV HX
                repeat (go_big_quiet_step (first | (go_at_call 44; exact (HDO.out _).mono fun e w5 h5 => ⟨h5.1, _, h5.2⟩)))
                refine wpQuiet_nil ?_
                intro _ hw2
                obtain ⟨nq2, hw3⟩ := hw2
                subst hw3
                go_wp2
                go_roundw
                case rel => exact ⟨q + 1, by omega, by go_num, by rw [HS3.out], below_drewN HB.out _⟩
                case measure => simp [intOf]; omega
            · cases hK : (ek == 1)
              · have HW := hid (show rt = false by rw [HX.out]; simp [hA, hB, hK])
                have hs2 := HV.out
                rw [HW.out] at hs2
                have HS3 := hid hs2
                clear hs2 HW HV HX
                repeat (go_big_quiet_step (first | (go_at_call 44; exact (HDO.out _).mono fun e w5 h5 => ⟨h5.1, _, h5.2⟩)))
                refine wpQuiet_nil ?_
                intro _ hw2
                obtain ⟨nq2, hw3⟩ := hw2
                subst hw3
                go_wp2
                go_roundw
                case rel => exact ⟨q + 1, by omega, by go_num, by rw [HS3.out], below_drewN HB.out _⟩
                case measure => simp [intOf]; omega
              · cases hC : decide (fq < 0)
                · cases hD : decide ((i : Int) ≤ fq)
                  · have HW := hid (show rt = false by rw [HX.out]; simp [hA, hB, hK, hC, hD])
                    have hs2 := HV.out
                    rw [HW.out] at hs2
                    have HS3 := hid hs2
                    clear hs2 HW HV HX
                    repeat (go_big_quiet_step (first | (go_at_call 44; exact (HDO.out _).mono fun e w5 h5 => ⟨h5.1, _, h5.2⟩)))
                    refine wpQuiet_nil ?_
                    intro _ hw2
                    obtain ⟨nq2, hw3⟩ := hw2
                    subst hw3
                    go_wp2
                    go_roundw
                    case rel => exact ⟨q + 1, by omega, by go_num, by rw [HS3.out], below_drewN HB.out _⟩
                    case measure => simp [intOf]; omega
                  · have hF : dd = false := HK1.out (beq_iff_eq.1 hK)
                    have hH : (ek != 2) = true := by rw [beq_iff_eq.1 hK]; rfl
                    have HW := hid (show rt = true by rw [HX.out]; simp [hA, hB, hK, hC, hD, hF, hH])
                    have hs2 := HV.out
                    rw [HW.out] at hs2
                    have HS3 := hid hs2
                    clear hs2 HW HV HX
                    repeat (go_big_quiet_step (first | (go_at_call 44; exact (HDO.out _).mono fun e w5 h5 => ⟨h5.1, _, h5.2⟩)))
                    refine wpQuiet_nil ?_
                    intro _ hw2
                    obtain ⟨nq2, hw3⟩ := hw2
                    subst hw3
                    go_wp2
                    go_roundw
                    case rel => exact ⟨q + 1, by omega, by go_num, by rw [HS3.out], below_drewN HB.out _⟩
                    case measure => simp [intOf]; omega
                · have hF : dd = false := HK1.out (beq_iff_eq.1 hK)
                  have hH : (ek != 2) = true := by rw [beq_iff_eq.1 hK]; rfl
                  have HW := hid (show rt = true by rw [HX.out]; simp [hA, hB, hK, hC, hF, hH])
                  have hs2 := HV.out
                  rw [HW.out] at hs2
                  have HS3 := hid hs2
                  clear hs2 HW HV HX
                  repeat (go_big_quiet_step (first | (go_at_call 44; exact (HDO.out _).mono fun e w5 h5 => ⟨h5.1, _, h5.2⟩)))
                  refine wpQuiet_nil ?_
                  intro _ hw2
                  obtain ⟨nq2, hw3⟩ := hw2
                  subst hw3
                  go_wp2
                  go_roundw
                  case rel => exact ⟨q + 1, by omega, by go_num, by rw [HS3.out], below_drewN HB.out _⟩
                  case measure => simp [intOf]; omega
        · obtain rfl : q = os.length := by omega
          have HB := hid hb
          clear hb
          generalize hth : thereTo os i E os.length = th at *
          cases th
          · have HV := hid (HFI.out rfl)
            go_wp2
            go_ret
            exact ⟨by rw [HV.out]; rfl, HB1.out.trans (HB.out.mono hs1)⟩
          · have HV := hid (HTI.out rfl)
            go_wp2
            go_roundw
            case rel => exact ⟨i + 1, by omega, by go_num, HB.out, HV.out⟩
            case measure => simp [intOf]; omega
    · obtain rfl : i = l.length := by omega
      have HB := hid (HB1.out.trans (hb.mono hs1))
      have HV := hid (HT.out (fun j hj => HI.out j hj hj))
      clear hb
      go_wp2
      go_ret
      exact ⟨by rw [HV.out]; rfl, HB.out⟩
end Go.Proofs.Ytpnkkdpggofanaa
