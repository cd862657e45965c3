/- vergeref24.Respects, by its walk. -/
import Derived.Test.YtpnkkdpggofanaaRefLine
namespace Go.Proofs.Ytpnkkdpggofanaa
open Go.Shelf Go.RowKit Go.Lib Go.Sort Go.Proofs

def rbad (a b : OpD) : Bool := decide (0 ≤ a.did) && decide (0 ≤ b.did) && decide (0 ≤ a.fin) && decide (a.fin < b.beg) && decide (b.did < a.did)
def refResp (os : List OpD) : Bool := os.all fun a => os.all fun b => !(rbad a b)
theorem refResp_false (os : List OpD) (i k : Nat) (hi : i < os.length) (hk : k < os.length) (h : rbad os[i] os[k] = true) : refResp os = false := by
  unfold refResp
  rw [List.all_eq_false]
  refine ⟨os[i], List.getElem_mem hi, ?_⟩
  simp only [Bool.not_eq_true]
  rw [List.all_eq_false]
  exact ⟨os[k], List.getElem_mem hk, by rw [h]; decide⟩
theorem refResp_true (os : List OpD) (h : ∀ i (hi : i < os.length) k (hk : k < os.length), rbad os[i] os[k] = false) : refResp os = true := by
  unfold refResp
  rw [List.all_eq_true]
  intro a ha
  rw [List.all_eq_true]
  intro b hb
  obtain ⟨i, hi, rfl⟩ := List.mem_iff_getElem.1 ha
  obtain ⟨k, hk, rfl⟩ := List.mem_iff_getElem.1 hb
  rw [h i hi k hk]
  rfl

set_option maxRecDepth 1000000 in
set_option maxHeartbeats 4000000 in
theorem refresp_any (l : List Ev) (v : Value) (w : World) (h1 : Reads w v l.length (l.flatMap evC)) (hn : l.length ≤ 1000) :
    Calls Try.prog 28 #[v] w fun x w' => x = .returned (.bool (refResp (refOps l))) ∧ Below w.heap.size w w' := by
  have HRD := hid h1
  obtain ⟨ao, c1, rfl, g1⟩ := h1.evs
  have H1 := hid g1
  clear g1 h1
  have hol := refOps_len l
  have HOPS := hid (refops_any l (.slice ao l.length c1) w HRD.out (by omega))
  generalize refOps l = os at *
  have HT := hid (refResp_true os)
  have HF := hid (refResp_false os)
  generalize refResp os = RR at *
  go_enter Try.func28, Try.ntmps28
  go_wp2_with (go_at_call 23; refine HOPS.out.mono ?_; rintro e w1 ⟨v1, rfl, ho1, hb1⟩; obtain ⟨ao1, c2, rfl⟩ := owns_shape ho1; have HO1 := hid ho1; have HB1 := hid hb1; have hs1 := hb1.size; clear ho1 hb1)
  have HC : Hid (∀ W, Below w1.heap.size w1 W → ∀ j (hj : j < os.length), ∃ b o, ao1 = some ⟨b, o, none⟩ ∧ W.cell? ⟨b, o + j * 6, none⟩ = some (.int .i64 os[j].no) ∧ W.cell? ⟨b, o + j * 6 + 3, none⟩ = some (.int .i64 os[j].beg) ∧ W.cell? ⟨b, o + j * 6 + 4, none⟩ = some (.int .i64 os[j].did) ∧ W.cell? ⟨b, o + j * 6 + 5, none⟩ = some (.int .i64 os[j].fin)) := by
    intro W hW j hj
    obtain ⟨ao', c', hv, hx⟩ := ((Reads.of_owns HO1.out).below hW (Nat.le_refl _)).ops
    simp only [Value.slice.injEq] at hv
    obtain ⟨rfl, _, rfl⟩ := hv
    obtain ⟨b, o, e, hc⟩ := hx j _ (List.getElem?_eq_getElem hj)
    exact ⟨b, o, e, by simpa using hc 0 _ rfl, hc 3 _ rfl, hc 4 _ rfl, hc 5 _ rfl⟩

  go_loopw [4] (fun i wr => ∃ k : Nat, k ≤ os.length ∧ i = .int .i64 k ∧ Below w1.heap.size w1 wr ∧ Hid (∀ i (hi : i < os.length) q (hq : q < os.length), i < k → rbad os[i] os[q] = false)) (fun i _ => os.length - (intOf i).toNat)
  case atStart => exact ⟨0, by omega, rfl, Below.refl _ _, fun _ _ _ _ h => absurd h (by omega)⟩
  case round =>
    obtain ⟨i, hi, rfl, hb, HI⟩ := hrel
    by_cases hlt : i < os.length
    · have HB := hid hb
      clear hb
      go_wp2
      go_loopw [5] (fun j wr => ∃ q : Nat, q ≤ os.length ∧ j = .int .i64 q ∧ Below w1.heap.size w1 wr ∧ Hid (∀ p (hp : p < os.length), p < q → rbad os[i] os[p] = false)) (fun j _ => os.length - (intOf j).toNat)
      case atStart => exact ⟨0, by omega, rfl, HB.out, fun _ _ h => absurd h (by omega)⟩
      case round =>
        clear HB
        obtain ⟨q, hq, rfl, hb, HQ⟩ := hrel
        by_cases hqt : q < os.length
        · obtain ⟨b, o, hao, p0, p3, p4, p5⟩ := HC.out wr hb i hlt
          obtain rfl := hao
          obtain ⟨b2, o2, hao2, r0, r3, r4, r5⟩ := HC.out wr hb q hqt
          cases hao2
          have HB := hid hb
          have HX := hid (show rbad os[i] os[q] = (decide (0 ≤ os[i].did) && decide (0 ≤ os[q].did) && decide (0 ≤ os[i].fin) && decide (os[i].fin < os[q].beg) && decide (os[q].did < os[i].did)) from rfl)
          have HBAD := hid (HF.out i q hlt hqt)
          have HOK := hid (fun (h : rbad os[i] os[q] = false) => show Hid (∀ p (hp : p < os.length), p < q + 1 → rbad os[i] os[p] = false) from fun p hp hpq => by
            by_cases e : p = q
            · subst e; exact h
            · exact HQ.out p hp (by omega))
          clear hb p0 r0
          generalize rbad os[i] os[q] = bad at *
          generalize os[i].did = di at *
          generalize os[i].fin = fi at *
          generalize os[i].beg = bi at *
          generalize os[q].did = dq at *
          generalize os[q].fin = fq at *
          generalize os[q].beg = bq at *
          by_cases t1 : 0 ≤ di
          · by_cases t2 : 0 ≤ dq
            · by_cases t3 : 0 ≤ fi
              · by_cases t4 : fi < bq
                · by_cases t5 : dq < di
                  · have HV := hid (show bad = true by rw [HX.out]; simp [t1, t2, t3, t4, t5])
                    have ut1 : decide (0 ≤ di) = true := by simp [t1]
                    have ut2 : decide (0 ≤ dq) = true := by simp [t2]
                    have ut3 : decide (0 ≤ fi) = true := by simp [t3]
                    have ut4 : decide (fi < bq) = true := by simp [t4]
                    have ut5 : decide (dq < di) = true := by simp [t5]
                    clear t1 t2 t3 t4 t5
                    go_wp2
                    go_quiet (fail)
                    go_wp2
                    go_ret
                    exact ⟨by rw [HBAD.out HV.out]; rfl, HB1.out.trans ((below_drewN HB.out _).mono hs1)⟩
                  · have HV := hid (show bad = false by rw [HX.out]; simp [t1, t2, t3, t4, t5])
                    have ut1 : decide (0 ≤ di) = true := by simp [t1]
                    have ut2 : decide (0 ≤ dq) = true := by simp [t2]
                    have ut3 : decide (0 ≤ fi) = true := by simp [t3]
                    have ut4 : decide (fi < bq) = true := by simp [t4]
                    have ut5 : decide (dq < di) = false := by simp [t5]
                    clear t1 t2 t3 t4 t5
                    go_wp2
                    go_quiet (fail)
                    go_wp2
                    go_roundw
                    case rel => exact ⟨q + 1, by omega, by go_num, below_drewN HB.out _, HOK.out HV.out⟩
                    case measure => simp [intOf]; omega
                · have HV := hid (show bad = false by rw [HX.out]; simp [t1, t2, t3, t4])
                  have ut1 : decide (0 ≤ di) = true := by simp [t1]
                  have ut2 : decide (0 ≤ dq) = true := by simp [t2]
                  have ut3 : decide (0 ≤ fi) = true := by simp [t3]
                  have ut4 : decide (fi < bq) = false := by simp [t4]
                  clear t1 t2 t3 t4
                  go_wp2
                  go_quiet (fail)
                  go_wp2
                  go_roundw
                  case rel => exact ⟨q + 1, by omega, by go_num, below_drewN HB.out _, HOK.out HV.out⟩
                  case measure => simp [intOf]; omega
              · have HV := hid (show bad = false by rw [HX.out]; simp [t1, t2, t3])
                have ut1 : decide (0 ≤ di) = true := by simp [t1]
                have ut2 : decide (0 ≤ dq) = true := by simp [t2]
                have ut3 : decide (0 ≤ fi) = false := by simp [t3]
                clear t1 t2 t3
                go_wp2
                go_quiet (fail)
                go_wp2
                go_roundw
                case rel => exact ⟨q + 1, by omega, by go_num, below_drewN HB.out _, HOK.out HV.out⟩
                case measure => simp [intOf]; omega
            · have HV := hid (show bad = false by rw [HX.out]; simp [t1, t2])
              have ut1 : decide (0 ≤ di) = true := by simp [t1]
              have ut2 : decide (0 ≤ dq) = false := by simp [t2]
              clear t1 t2
              go_wp2
              go_quiet (fail)
              go_wp2
              go_roundw
              case rel => exact ⟨q + 1, by omega, by go_num, below_drewN HB.out _, HOK.out HV.out⟩
              case measure => simp [intOf]; omega
          · have HV := hid (show bad = false by rw [HX.out]; simp [t1])
            have ut1 : decide (0 ≤ di) = false := by simp [t1]
            clear t1
            go_wp2
            go_quiet (fail)
            go_wp2
            go_roundw
            case rel => exact ⟨q + 1, by omega, by go_num, below_drewN HB.out _, HOK.out HV.out⟩
            case measure => simp [intOf]; omega
        · obtain rfl : q = os.length := by omega
          have HB := hid hb
          clear hb
          go_wp2
          go_roundw
          case rel =>
            refine ⟨i + 1, by omega, by go_num, HB.out, ?_⟩
            intro j hj p hp hji
            by_cases e : j = i
            · subst e; exact HQ.out p hp hp
            · exact HI.out j hj p hp (by omega)
          case measure => simp [intOf]; omega
    · obtain rfl : i = os.length := by omega
      have HB := hid (HB1.out.trans (hb.mono hs1))
      have HV := hid (HT.out (fun j hj p hp => HI.out j hj p hp hj))
      clear hb
      go_wp2
      go_ret
      exact ⟨by rw [HV.out]; rfl, HB.out⟩
end Go.Proofs.Ytpnkkdpggofanaa
