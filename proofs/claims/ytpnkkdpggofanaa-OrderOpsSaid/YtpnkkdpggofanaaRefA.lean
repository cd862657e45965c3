/- vergeref24: does, first, by their walks. -/
import Derived.Test.YtpnkkdpggofanaaOpsW
namespace Go.Proofs.Ytpnkkdpggofanaa
open Go.Shelf Go.RowKit Go.Lib Go.Sort Go.Proofs

set_option maxHeartbeats 4000000 in
set_option maxRecDepth 100000 in
theorem rdoes_any (k : Int) (w : World) : Calls Try.prog 44 #[.int .i64 k] w fun e w' => e = .returned (.bool (isDoes k)) ∧ w' = w := by
  by_cases h1 : k = 3
  · subst h1; go_enter Try.func44, Try.ntmps44; go_wp2; go_ret; exact ⟨rfl, rfl⟩
  by_cases h2 : k = 11
  · subst h2; go_enter Try.func44, Try.ntmps44; go_wp2; go_ret; exact ⟨rfl, rfl⟩
  by_cases h3 : k = 6
  · subst h3; go_enter Try.func44, Try.ntmps44; go_wp2; go_ret; exact ⟨rfl, rfl⟩
  by_cases h4 : k = 7
  · subst h4; go_enter Try.func44, Try.ntmps44; go_wp2; go_ret; exact ⟨rfl, rfl⟩
  by_cases h5 : k = 8
  · subst h5; go_enter Try.func44, Try.ntmps44; go_wp2; go_ret; exact ⟨rfl, rfl⟩
  by_cases h6 : k = 9
  · subst h6; go_enter Try.func44, Try.ntmps44; go_wp2; go_ret; exact ⟨rfl, rfl⟩
  by_cases h7 : k = 13
  · subst h7; go_enter Try.func44, Try.ntmps44; go_wp2; go_ret; exact ⟨rfl, rfl⟩
  have hd := hid (show isDoes k = false by simp [isDoes, h1, h2, h3, h4, h5, h6, h7])
  have b1 : (k == 3) = false := by simp [h1]
  have b2 : (k == 11) = false := by simp [h2]
  have b3 : (k == 6) = false := by simp [h3]
  have b4 : (k == 7) = false := by simp [h4]
  have b5 : (k == 8) = false := by simp [h5]
  have b6 : (k == 9) = false := by simp [h6]
  have b7 : (k == 13) = false := by simp [h7]
  clear h1 h2 h3 h4 h5 h6 h7
  go_enter Try.func44, Try.ntmps44
  go_wp2
  go_ret
  exact ⟨by rw [hd.out]; simp [b7], rfl⟩

/-- Is the event one of the call's, of that sort? -/
def hitE (c s : Int) (e : Ev) : Bool := e.call == c && (e.kind == s || (decide (2 < s) && isDoes e.kind))
def firstE (l : List Ev) (c s : Int) : Int := match l.findIdx? (hitE c s) with
  | some i => (i : Int)
  | none => -1

theorem firstE_none (l : List Ev) (c s : Int) (h : ∀ j (hj : j < l.length), hitE c s l[j] = false) : firstE l c s = -1 := by
  unfold firstE
  have : l.findIdx? (hitE c s) = none := by
    rw [List.findIdx?_eq_none_iff]
    intro x hx
    obtain ⟨j, hj, rfl⟩ := List.mem_iff_getElem.1 hx
    exact h j hj
  rw [this]
theorem firstE_some (l : List Ev) (c s : Int) (k : Nat) (hk : k < l.length) (h : ∀ j (hj : j < k), hitE c s (l[j]'(by omega)) = false) (ht : hitE c s l[k] = true) : firstE l c s = (k : Int) := by
  unfold firstE
  have : l.findIdx? (hitE c s) = some k := by
    rw [List.findIdx?_eq_some_iff_getElem]
    exact ⟨hk, ht, fun j hj => by rw [h j hj]; simp⟩
  rw [this]

set_option maxHeartbeats 4000000 in
set_option maxRecDepth 100000 in
theorem first_any (l : List Ev) (c s : Int) (v : Value) (w : World) (h1 : Reads w v l.length (l.flatMap evC)) (hn : l.length ≤ 1000000) :
    Calls Try.prog 43 #[v, .int .i64 c, .int .i64 s] w fun e w' => e = .returned (.int .i64 (firstE l c s)) ∧ w' = w := by
  obtain ⟨ao, c1, rfl, g1⟩ := h1.evs
  have H1 := hid g1
  have HN := hid (firstE_none l c s)
  have HS := hid (firstE_some l c s)
  generalize firstE l c s = r at *
  clear g1 h1
  go_enter Try.func43, Try.ntmps43
  go_wp2
  go_loopw [7] (fun i wr => ∃ k : Nat, k ≤ l.length ∧ i = .int .i64 k ∧ wr = w ∧ Hid (∀ j (hj : j < k) (hl : j < l.length), hitE c s l[j] = false)) (fun i _ => l.length - (intOf i).toNat)
  case atStart => exact ⟨0, by omega, rfl, rfl, fun j hj => absurd hj (by omega)⟩
  case round =>
    obtain ⟨k, hk, rfl, rfl, HB⟩ := hrel
    by_cases hlt : k < l.length
    · obtain ⟨b, o, hao, hc⟩ := H1.out k l[k] (List.getElem?_eq_getElem hlt)
      obtain rfl := hao
      have q0 := hc 0 _ rfl
      have q2 := hc 2 _ rfl
      simp only [Nat.add_zero] at q0
      clear hc
      have HX := hid (show hitE c s l[k] = (l[k].call == c && (l[k].kind == s || (decide (2 < s) && isDoes l[k].kind))) from rfl)
      have HST := hid (fun (h : hitE c s l[k] = false) => show Hid (∀ j (hj : j < k + 1) (hl : j < l.length), hitE c s l[j] = false) from fun j hj hl => by
        by_cases e : j = k
        · subst e; exact h
        · exact HB.out j (by omega) hl)
      have HFI := hid (fun (h : hitE c s l[k] = true) => HS.out k hlt (fun j hj => HB.out j hj (by omega)) h)
      generalize hitE c s l[k] = hit at *
      generalize l[k].call = ec at *
      generalize l[k].kind = ek at *
      by_cases hcc : ec = c
      · have bcc : (ec == c) = true := by simp [hcc]
        rw [bcc] at HX
        clear hcc
        by_cases hks : ek = s
        · have bks : (ek == s) = true := by simp [hks]
          have HH := hid (show hit = true by rw [HX.out, bks]; rfl)
          clear hks
          go_wp2
          go_ret
          exact ⟨by rw [HFI.out HH.out]; rfl, rfl⟩
        · have bks : (ek == s) = false := by simp [hks]
          rw [bks] at HX
          clear hks
          by_cases h2 : 2 < s
          · have hx2 : hit = isDoes ek := by rw [HX.out]; simp [h2]
            cases hD : isDoes ek with
            | true =>
              have HH := hid (hx2.trans hD)
              have HDO := hid hD
              clear hx2 hD
              go_wp2_with (go_at_call 44; refine (rdoes_any _ _).mono ?_; rintro e w' ⟨rfl, hw⟩; rw [hw, HDO.out])
              go_ret
              exact ⟨by rw [HFI.out HH.out]; rfl, rfl⟩
            | false =>
              have HH := hid (hx2.trans hD)
              have HDO := hid hD
              clear hx2 hD
              go_wp2_with (go_at_call 44; refine (rdoes_any _ _).mono ?_; rintro e w' ⟨rfl, hw⟩; rw [hw, HDO.out])
              go_roundw
              case rel => exact ⟨k + 1, by omega, by go_num, (by first | trivial | rfl), HST.out HH.out⟩
              case measure => simp [intOf]; omega
          · have HH := hid (show hit = false by rw [HX.out]; simp [h2])
            go_wp2
            go_roundw
            case rel => exact ⟨k + 1, by omega, by go_num, (by first | trivial | rfl), HST.out HH.out⟩
            case measure => simp [intOf]; omega
      · have bcc : (ec == c) = false := by simp [hcc]
        have HH := hid (show hit = false by rw [HX.out, bcc]; rfl)
        clear hcc
        go_wp2
        go_roundw
        case rel => exact ⟨k + 1, by omega, by go_num, (by first | trivial | rfl), HST.out HH.out⟩
        case measure => simp [intOf]; omega
    · obtain rfl : k = l.length := by omega
      have hr := HN.out (fun j hj => HB.out j hj hj)
      have HR := hid hr
      clear hr
      go_wp2
      go_ret
      exact ⟨by rw [HR.out]; rfl, rfl⟩
end Go.Proofs.Ytpnkkdpggofanaa
