/- vergeref24.Most, by its walk. -/
import Derived.Test.YtpnkkdpggofanaaRefLine
namespace Go.Proofs.Ytpnkkdpggofanaa
open Go.Shelf Go.RowKit Go.Lib Go.Sort Go.Proofs

def ropen (i : Nat) (o : OpD) : Bool := decide (o.beg ≤ (i : Int)) && (decide (o.fin < 0) || decide ((i : Int) ≤ o.fin) || decide (o.fin < o.beg))
def ropens (os : List OpD) (i k : Nat) : Nat := (os.take k).countP (ropen i)
def refMost (os : List OpD) : Nat → Nat
  | 0 => 0
  | i + 1 => max (refMost os i) (ropens os i os.length)
theorem ropens_succ (os : List OpD) (i k : Nat) (h : k < os.length) : ropens os i (k + 1) = ropens os i k + if ropen i os[k] = true then 1 else 0 := by
  unfold ropens
  rw [take_snoc_list os k h, List.countP_append, List.countP_cons, List.countP_nil, Nat.zero_add]
theorem ropens_le (os : List OpD) (i k : Nat) : ropens os i k ≤ os.length := by
  unfold ropens
  exact Nat.le_trans List.countP_le_length (List.length_take_le' _ _)
theorem refMost_le (os : List OpD) (i : Nat) : refMost os i ≤ os.length := by
  induction i with
  | zero => simp [refMost]
  | succ i ih => rw [refMost]; exact Nat.max_le.2 ⟨ih, ropens_le _ _ _⟩

set_option maxRecDepth 1000000 in
set_option maxHeartbeats 4000000 in
theorem refmost_any (l : List Ev) (v : Value) (w : World) (h1 : Reads w v l.length (l.flatMap evC)) (hn : l.length ≤ 1000) :
    Calls Try.prog 31 #[v] w fun x w' => x = .returned (.int .i64 (refMost (refOps l) l.length : Nat)) ∧ Below w.heap.size w w' := by
  have HRD := hid h1
  obtain ⟨ao, c1, rfl, g1⟩ := h1.evs
  have H1 := hid g1
  clear g1 h1
  have hol := refOps_len l
  have HOPS := hid (refops_any l (.slice ao l.length c1) w HRD.out (by omega))
  generalize refOps l = os at *
  go_enter Try.func31, Try.ntmps31
  go_wp2_with (go_at_call 23; refine HOPS.out.mono ?_; rintro e w1 ⟨v1, rfl, ho1, hb1⟩; obtain ⟨ao1, c2, rfl⟩ := owns_shape ho1; have HO1 := hid ho1; have HB1 := hid hb1; have hs1 := hb1.size; clear ho1 hb1)
  have HC : Hid (∀ W, Below w1.heap.size w1 W → ∀ j (hj : j < os.length), ∃ b o, ao1 = some ⟨b, o, none⟩ ∧ W.cell? ⟨b, o + j * 6, none⟩ = some (.int .i64 os[j].no) ∧ W.cell? ⟨b, o + j * 6 + 3, none⟩ = some (.int .i64 os[j].beg) ∧ W.cell? ⟨b, o + j * 6 + 4, none⟩ = some (.int .i64 os[j].did) ∧ W.cell? ⟨b, o + j * 6 + 5, none⟩ = some (.int .i64 os[j].fin)) := by
    intro W hW j hj
    obtain ⟨ao', c', hv, hx⟩ := ((Reads.of_owns HO1.out).below hW (Nat.le_refl _)).ops
    simp only [Value.slice.injEq] at hv
    obtain ⟨rfl, _, rfl⟩ := hv
    obtain ⟨b, o, e, hc⟩ := hx j _ (List.getElem?_eq_getElem hj)
    exact ⟨b, o, e, by simpa using hc 0 _ rfl, hc 3 _ rfl, hc 4 _ rfl, hc 5 _ rfl⟩

  go_loopw [4, 5] (fun m i wr => ∃ k : Nat, k ≤ l.length ∧ i = .int .i64 k ∧ m = .int .i64 (refMost os k : Nat) ∧ Below w1.heap.size w1 wr) (fun _ i _ => l.length - (intOf i).toNat)
  case atStart => exact ⟨0, by omega, rfl, rfl, Below.refl _ _⟩
  case round =>
    obtain ⟨i, hi, rfl, rfl, hb⟩ := hrel
    have hml := refMost_le os i
    by_cases hlt : i < l.length
    · have HB := hid hb
      have HM := hid (show refMost os (i + 1) = max (refMost os i) (ropens os i os.length) from rfl)
      clear hb
      generalize refMost os i = mo at *
      go_wp2
      go_loopw [6, 7] (fun n j wr => ∃ q : Nat, q ≤ os.length ∧ j = .int .i64 q ∧ n = .int .i64 (ropens os i q : Nat) ∧ Below w1.heap.size w1 wr) (fun _ j _ => os.length - (intOf j).toNat)
      case atStart => exact ⟨0, by omega, rfl, by simp [ropens], HB.out⟩
      case round =>
        clear HB
        obtain ⟨q, hq, rfl, rfl, hb⟩ := hrel
        have hol2 := ropens_le os i q
        by_cases hqt : q < os.length
        · obtain ⟨b, o, hao, p0, p3, p4, p5⟩ := HC.out wr hb q hqt
          obtain rfl := hao
          have HB := hid hb
          have HX := hid (show ropen i os[q] = (decide (os[q].beg ≤ (i : Int)) && (decide (os[q].fin < 0) || decide ((i : Int) ≤ os[q].fin) || decide (os[q].fin < os[q].beg))) from rfl)
          have HS := hid (ropens_succ os i q hqt)
          clear hb p0 p4
          generalize ropens os i q = cn at *
          generalize ropen i os[q] = op at *
          generalize os[q].fin = fq at *
          generalize os[q].beg = bq at *
          by_cases t1 : bq ≤ (i : Int)
          · by_cases t2 : fq < 0
            · have HV := hid (show op = true by rw [HX.out]; simp [t1, t2])
              have hs := HS.out
              rw [HV.out] at hs
              have HS2 := hid hs
              clear hs HS
              have ut1 : decide (bq ≤ (i : Int)) = true := by simp [t1]
              have ut2 : decide (fq < 0) = true := by simp [t2]
              clear t1 t2
              go_wp2
              go_quiet (fail)
              go_wp2
              go_roundw
              case rel => exact ⟨q + 1, by omega, by go_num, by rw [HS2.out]; first | rfl | (simp; done) | go_num, below_drewN HB.out _⟩
              case measure => simp [intOf]; omega
            · by_cases t3 : (i : Int) ≤ fq
              · have HV := hid (show op = true by rw [HX.out]; simp [t1, t2, t3])
                have hs := HS.out
                rw [HV.out] at hs
                have HS2 := hid hs
                clear hs HS
                have ut1 : decide (bq ≤ (i : Int)) = true := by simp [t1]
                have ut2 : decide (fq < 0) = false := by simp [t2]
                have ut3 : decide ((i : Int) ≤ fq) = true := by simp [t3]
                clear t1 t2 t3
                go_wp2
                go_quiet (fail)
                go_wp2
                go_roundw
                case rel => exact ⟨q + 1, by omega, by go_num, by rw [HS2.out]; first | rfl | (simp; done) | go_num, below_drewN HB.out _⟩
                case measure => simp [intOf]; omega
              · by_cases t4 : fq < bq
                · have HV := hid (show op = true by rw [HX.out]; simp [t1, t2, t3, t4])
                  have hs := HS.out
                  rw [HV.out] at hs
                  have HS2 := hid hs
                  clear hs HS
                  have ut1 : decide (bq ≤ (i : Int)) = true := by simp [t1]
                  have ut2 : decide (fq < 0) = false := by simp [t2]
                  have ut3 : decide ((i : Int) ≤ fq) = false := by simp [t3]
                  have ut4 : decide (fq < bq) = true := by simp [t4]
                  clear t1 t2 t3 t4
                  go_wp2
                  go_quiet (fail)
                  go_wp2
                  go_roundw
                  case rel => exact ⟨q + 1, by omega, by go_num, by rw [HS2.out]; first | rfl | (simp; done) | go_num, below_drewN HB.out _⟩
                  case measure => simp [intOf]; omega
                · have HV := hid (show op = false by rw [HX.out]; simp [t1, t2, t3, t4])
                  have hs := HS.out
                  rw [HV.out] at hs
                  have HS2 := hid hs
                  clear hs HS
                  have ut1 : decide (bq ≤ (i : Int)) = true := by simp [t1]
                  have ut2 : decide (fq < 0) = false := by simp [t2]
                  have ut3 : decide ((i : Int) ≤ fq) = false := by simp [t3]
                  have ut4 : decide (fq < bq) = false := by simp [t4]
                  clear t1 t2 t3 t4
                  go_wp2
                  go_quiet (fail)
                  go_wp2
                  go_roundw
                  case rel => exact ⟨q + 1, by omega, by go_num, by rw [HS2.out]; first | rfl | (simp; done) | go_num, below_drewN HB.out _⟩
                  case measure => simp [intOf]; omega
          · have HV := hid (show op = false by rw [HX.out]; simp [t1])
            have hs := HS.out
            rw [HV.out] at hs
            have HS2 := hid hs
            clear hs HS
            have ut1 : decide (bq ≤ (i : Int)) = false := by simp [t1]
            clear t1
            go_wp2
            go_quiet (fail)
            go_wp2
            go_roundw
            case rel => exact ⟨q + 1, by omega, by go_num, by rw [HS2.out]; first | rfl | (simp; done) | go_num, below_drewN HB.out _⟩
            case measure => simp [intOf]; omega
        · obtain rfl : q = os.length := by omega
          have HB := hid hb
          clear hb
          generalize ropens os i os.length = cn at *
          by_cases hgt : (mo : Int) < (cn : Int)
          · have HV := hid (show refMost os (i + 1) = cn by rw [HM.out]; omega)
            go_wp2
            go_roundw
            case rel => exact ⟨i + 1, by omega, by go_num, by rw [HV.out], HB.out⟩
            case measure => simp [intOf]; omega
          · have HV := hid (show refMost os (i + 1) = mo by rw [HM.out]; omega)
            go_wp2
            go_roundw
            case rel => exact ⟨i + 1, by omega, by go_num, by rw [HV.out], HB.out⟩
            case measure => simp [intOf]; omega
    · obtain rfl : i = l.length := by omega
      have HB := hid (HB1.out.trans (hb.mono hs1))
      clear hb
      go_wp2
      go_ret
      exact ⟨rfl, HB.out⟩
end Go.Proofs.Ytpnkkdpggofanaa
