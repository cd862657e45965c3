/- SpecCancel by its walk. -/
import Derived.Test.YtpnkkdpggofanaaSpecBeginsW
import Derived.Test.YtpnkkdpggofanaaCancelLaw
namespace Go.Proofs.Ytpnkkdpggofanaa
open Go.RowKit

set_option maxRecDepth 4000 in
set_option maxHeartbeats 8000000 in
theorem cancelLaw_walk (n : Int) (l : List Ev) (ao : Option Addr) (c : Nat) (w : World) (h1 : Reads w (.slice ao l.length c) l.length (l.flatMap evC)) (hwf : ∀ e ∈ l, e.wf) (hcap : l.length ≤ c) (hn1 : l.length ≤ 9223372036854775807) :
    Calls Try.prog 4 #[.int .i64 n, .slice ao l.length c] w fun x w' => x = .returned (.bool true) ∧ Below w.heap.size w w' := by
  have hrd := hid h1
  have HW := hid hwf
  obtain ⟨ao', c', hv, g1⟩ := h1.evs
  simp only [Value.slice.injEq] at hv
  obtain ⟨rfl, _, rfl⟩ := hv
  have H1 := hid g1
  clear h1 hwf g1
  by_cases hbig : 100 < l.length
  · have hbig' : decide (100 < (l.length : Int)) = true := decide_eq_true (by omega)
    go_enter Try.func4, Try.ntmps4
    go_wp2_with (go_at_call 14; refine (alive21_any _).mono ?_; rintro e w1 ⟨rfl, hb1⟩; have HB1 := hid hb1; clear hb1)
    go_ret
    exact ⟨rfl, HB1.out⟩
  have hbig' : decide (100 < (l.length : Int)) = false := decide_eq_false (by omega)
  have hle := playM_le (new n) l
  have hall : All (new n) (l.take (playM (new n) l).2) := by unfold All; rw [playM_take (Nat.le_refl _), List.length_take, Nat.min_eq_left hle]
  have hrt := fun W h => right_any n l ao c W h HW.out (by omega) hcap
  generalize hr : (playM (new n) l).2 = r at *
  have LAW := hid (fun (i k : Nat) (hi : i < r) (hk : k < r) => cancel_law (n := n) hall (i := i) (k := k) (a := l[i]) (b := l[k]) (by rw [List.getElem?_take, if_pos hi]; exact List.getElem?_eq_getElem (by omega)) (by rw [List.getElem?_take, if_pos hk]; exact List.getElem?_eq_getElem (by omega)))
  have hHR := hid hrt
  clear hall hrt hr
  go_enter Try.func4, Try.ntmps4
  go_wp2_with (first
    | (go_at_call 14; refine (alive21_any _).mono ?_; rintro e w1 ⟨rfl, hb1⟩; have HB1 := hid hb1; clear hb1)
    | (go_at_call 15; refine (hHR.out w1 (hrd.out.below HB1.out (Nat.le_refl _))).mono ?_; rintro e w2 ⟨rfl, hb2⟩; have HB2 := hid (HB1.out.trans (hb2.mono HB1.out.size)); clear hb2))
  go_loopw [6] (fun iv wr => ∃ i : Nat, i ≤ r ∧ iv = .int .i64 i ∧ Below w.heap.size w wr) (fun iv _ => r - (intOf iv).toNat)
  case atStart => exact ⟨0, by omega, rfl, HB2.out⟩
  case round =>
    obtain ⟨i, hi, rfl, hbi⟩ := hrel
    by_cases hlt : i < r
    · have hli : i < l.length := by omega
      obtain ⟨b, o, hao, hcp⟩ := H1.out i l[i] (List.getElem?_eq_getElem hli)
      obtain rfl := hao
      have p0 : wr.cell? ⟨b, o + i * 10, none⟩ = some (.int .i64 l[i].kind) := (hbi.cell (World.block_lt_of_cell? _ _ (hcp 0 _ rfl))).trans (hcp 0 _ rfl)
      have p4 : wr.cell? ⟨b, o + i * 10 + 4, none⟩ = some (.int .u64 l[i].id) := (hbi.cell (World.block_lt_of_cell? _ _ (hcp 4 _ rfl))).trans (hcp 4 _ rfl)
      have p5 : wr.cell? ⟨b, o + i * 10 + 5, none⟩ = some (.int .u64 l[i].gen) := (hbi.cell (World.block_lt_of_cell? _ _ (hcp 5 _ rfl))).trans (hcp 5 _ rfl)
      have HCP := hid hcp
      have HBI := hid hbi
      clear hcp hbi
      by_cases h7 : l[i].kind = 7
      · have h7' : (l[i].kind != 7) = false := by simp [h7]
        have H7 := hid h7
        clear h7
        go_wp2
        clear p0 p4 p5
        go_loopw [7] (fun kv wr => ∃ k : Nat, k ≤ r ∧ kv = .int .i64 k ∧ Below w.heap.size w wr) (fun kv _ => r - (intOf kv).toNat)
        case atStart => exact ⟨0, by omega, rfl, HBI.out⟩
        case round =>
          obtain ⟨k, hk, rfl, hbk⟩ := hrel
          by_cases hltk : k < r
          · have hlk : k < l.length := by omega
            obtain ⟨b', o', hao, hcq⟩ := H1.out k l[k] (List.getElem?_eq_getElem hlk)
            simp only [Option.some.injEq, Addr.mk.injEq] at hao
            obtain ⟨rfl, rfl, _⟩ := hao
            have hcp := HCP.out
            have p0 : wr.cell? ⟨b, o + i * 10, none⟩ = some (.int .i64 l[i].kind) := (hbk.cell (World.block_lt_of_cell? _ _ (hcp 0 _ rfl))).trans (hcp 0 _ rfl)
            have p4 : wr.cell? ⟨b, o + i * 10 + 4, none⟩ = some (.int .u64 l[i].id) := (hbk.cell (World.block_lt_of_cell? _ _ (hcp 4 _ rfl))).trans (hcp 4 _ rfl)
            have p5 : wr.cell? ⟨b, o + i * 10 + 5, none⟩ = some (.int .u64 l[i].gen) := (hbk.cell (World.block_lt_of_cell? _ _ (hcp 5 _ rfl))).trans (hcp 5 _ rfl)
            have q0 : wr.cell? ⟨b, o + k * 10, none⟩ = some (.int .i64 l[k].kind) := (hbk.cell (World.block_lt_of_cell? _ _ (hcq 0 _ rfl))).trans (hcq 0 _ rfl)
            have q4 : wr.cell? ⟨b, o + k * 10 + 4, none⟩ = some (.int .u64 l[k].id) := (hbk.cell (World.block_lt_of_cell? _ _ (hcq 4 _ rfl))).trans (hcq 4 _ rfl)
            have q5 : wr.cell? ⟨b, o + k * 10 + 5, none⟩ = some (.int .u64 l[k].gen) := (hbk.cell (World.block_lt_of_cell? _ _ (hcq 5 _ rfl))).trans (hcq 5 _ rfl)
            have HBK := hid hbk
            clear hbk hcp hcq
            have law := hid (LAW.out i k hlt hltk H7.out)
            by_cases hown : l[k].id = l[i].id
            · have hown' : (l[k].id == l[i].id) = true := by simp [hown]
              have L1 := hid (law.out hown)
              have hki : decide ((i : Int) < (k : Int)) = decide (i < k) := by simp
              have HOWN := hid hown
              clear hown
              by_cases h5 : l[k].kind = 5
              · have h5' : (l[k].kind == 5) = true := by simp [h5]
                have hnlt : ¬ i < k := fun h => (L1.out.1 h).2.2.1 h5
                have hgen := L1.out.2 h5
                have hki' : decide ((i : Int) < (k : Int)) = false := decide_eq_false (by omega)
                have hki2 : decide (i < k) = false := decide_eq_false (by omega)
                have hgen' : decide (l[i].gen ≤ l[k].gen) = false := decide_eq_false (by omega)
                clear h5 hnlt hgen hki
                go_wp2
                go_quiet (fail)
                generalize hW4 : wr.drewN _ = w4
                have hc4 : ∀ a, w4.cell? a = wr.cell? a := fun a => by rw [← hW4]; rfl
                replace p0 := (hc4 _).trans p0
                replace p4 := (hc4 _).trans p4
                replace p5 := (hc4 _).trans p5
                replace q0 := (hc4 _).trans q0
                replace q4 := (hc4 _).trans q4
                replace q5 := (hc4 _).trans q5
                replace HBK := hid (show Below w.heap.size w w4 from hW4 ▸ below_drewN HBK.out _)
                clear hW4 hc4
                go_wp2
                go_quiet (fail)
                go_wp2
                go_round
                case rel => exact ⟨k + 1, by omega, by go_num, below_drewN HBK.out _⟩
                case measure => simp [intOf]; omega
              · have h5' : (l[k].kind == 5) = false := by simp [h5]
                clear h5 hki
                by_cases hlt2 : i < k
                · have hki' : decide ((i : Int) < (k : Int)) = true := decide_eq_true (by omega)
                  have hki2 : decide (i < k) = true := decide_eq_true (by omega)
                  have k4 : (l[k].kind == 4) = false := by have := (L1.out.1 hlt2).2.1; simp [this]
                  have k6 : (l[k].kind == 6) = false := by have := (L1.out.1 hlt2).2.2.2.1; simp [this]
                  have k7 : (l[k].kind == 7) = false := by have := (L1.out.1 hlt2).2.2.2.2.1; simp [this]
                  have k8 : (l[k].kind == 8) = false := by have := (L1.out.1 hlt2).2.2.2.2.2.1; simp [this]
                  have k12 : (l[k].kind == 12) = false := by have := (L1.out.1 hlt2).2.2.2.2.2.2.1; simp [this]
                  have k14 : (l[k].kind == 14) = false := by have := (L1.out.1 hlt2).2.2.2.2.2.2.2; simp [this]
                  have k3 : (l[k].kind == 3) = false := by have := (L1.out.1 hlt2).1; simp [this]
                  go_wp2
                  go_quiet (fail)
                  generalize hW4 : wr.drewN _ = w4
                  have hc4 : ∀ a, w4.cell? a = wr.cell? a := fun a => by rw [← hW4]; rfl
                  replace p0 := (hc4 _).trans p0
                  replace p4 := (hc4 _).trans p4
                  replace p5 := (hc4 _).trans p5
                  replace q0 := (hc4 _).trans q0
                  replace q4 := (hc4 _).trans q4
                  replace q5 := (hc4 _).trans q5
                  replace HBK := hid (show Below w.heap.size w w4 from hW4 ▸ below_drewN HBK.out _)
                  clear hW4 hc4
                  go_wp2
                  go_quiet (fail)
                  go_wp2
                  go_round
                  case rel => exact ⟨k + 1, by omega, by go_num, below_drewN HBK.out _⟩
                  case measure => simp [intOf]; omega
                · have hki' : decide ((i : Int) < (k : Int)) = false := decide_eq_false (by omega)
                  have hki2 : decide (i < k) = false := decide_eq_false (by omega)
                  go_wp2
                  go_quiet (fail)
                  generalize hW4 : wr.drewN _ = w4
                  have hc4 : ∀ a, w4.cell? a = wr.cell? a := fun a => by rw [← hW4]; rfl
                  replace p0 := (hc4 _).trans p0
                  replace p4 := (hc4 _).trans p4
                  replace p5 := (hc4 _).trans p5
                  replace q0 := (hc4 _).trans q0
                  replace q4 := (hc4 _).trans q4
                  replace q5 := (hc4 _).trans q5
                  replace HBK := hid (show Below w.heap.size w w4 from hW4 ▸ below_drewN HBK.out _)
                  clear hW4 hc4
                  go_wp2
                  go_quiet (fail)
                  go_wp2
                  go_round
                  case rel => exact ⟨k + 1, by omega, by go_num, below_drewN HBK.out _⟩
                  case measure => simp [intOf]; omega
            · have hown' : (l[k].id == l[i].id) = false := by simp [hown]
              clear hown law
              go_wp2
              go_quiet (fail)
              generalize hW4 : wr.drewN _ = w4
              have hc4 : ∀ a, w4.cell? a = wr.cell? a := fun a => by rw [← hW4]; rfl
              replace p0 := (hc4 _).trans p0
              replace p4 := (hc4 _).trans p4
              replace p5 := (hc4 _).trans p5
              replace q0 := (hc4 _).trans q0
              replace q4 := (hc4 _).trans q4
              replace q5 := (hc4 _).trans q5
              replace HBK := hid (show Below w.heap.size w w4 from hW4 ▸ below_drewN HBK.out _)
              clear hW4 hc4
              go_wp2
              go_quiet (fail)
              go_wp2
              go_round
              case rel => exact ⟨k + 1, by omega, by go_num, below_drewN HBK.out _⟩
              case measure => simp [intOf]; omega
          · have HBK := hid hbk
            clear hbk
            go_wp2
            go_round
            case rel => exact ⟨i + 1, by omega, by go_num, HBK.out⟩
            case measure => simp [intOf]; omega
      · have h7' : (l[i].kind != 7) = true := by simp [h7]
        clear h7
        go_wp2
        go_round
        case rel => exact ⟨i + 1, by omega, by go_num, HBI.out⟩
        case measure => simp [intOf]; omega
    · have HBI := hid hbi
      clear hbi
      go_wp2
      go_ret
      exact ⟨rfl, HBI.out⟩
end Go.Proofs.Ytpnkkdpggofanaa
