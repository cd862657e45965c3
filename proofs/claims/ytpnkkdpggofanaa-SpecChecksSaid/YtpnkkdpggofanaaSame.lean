/- vergeref12.Same, vergeref12.Uints, vergeref05.Ints: by their walks. -/
import Derived.Test.YtpnkkdpggofanaaFir
namespace Go.Proofs.Ytpnkkdpggofanaa
open Go.RowKit

theorem take_eq_step {α : Type} {l1 l2 : List α} {k : Nat} (h1 : k < l1.length) (h2 : k < l2.length) (ht : l1.take k = l2.take k) (he : l1[k] = l2[k]) : l1.take (k + 1) = l2.take (k + 1) := by
  rw [take_snoc_list _ _ h1, take_snoc_list _ _ h2, ht, he]
theorem ne_of_at {α : Type} {l1 l2 : List α} {k : Nat} (h1 : k < l1.length) (h2 : k < l2.length) (he : l1[k] ≠ l2[k]) : l1 ≠ l2 := by
  intro e; subst e; exact he rfl
theorem eq_of_take {α : Type} {l1 l2 : List α} {k : Nat} (hl : l1.length = l2.length) (hk : k ≤ l1.length) (h : ¬ k < l1.length) (ht : l1.take k = l2.take k) : l1 = l2 := by
  rw [List.take_of_length_le (by omega), List.take_of_length_le (by omega)] at ht; exact ht

set_option maxHeartbeats 400000 in
theorem same_any (l1 l2 : List Fir) (v1 v2 : Value) (w : World) (h1 : Reads w v1 l1.length (l1.flatMap firC)) (h2 : Reads w v2 l2.length (l2.flatMap firC)) (hn1 : l1.length ≤ 1000000) :
    Calls Try.prog 38 #[v1, v2] w fun e w' => e = .returned (.bool (decide (l1 = l2))) ∧ ∃ n, w' = w.drewN n := by
  obtain ⟨a1, c1, rfl, g1⟩ := h1.fir
  obtain ⟨a2, c2, rfl, g2⟩ := h2.fir
  by_cases hl : l1.length = l2.length
  case neg =>
    have hl' : ((l1.length : Int) != (l2.length : Int)) = true := by simp; omega
    go_enter Try.func38, Try.ntmps38
    go_wp2
    go_ret
    exact ⟨by congr 2; symm; simp; intro e; exact hl (by rw [e]), 0, rfl⟩
  have hl' : ((l1.length : Int) != (l2.length : Int)) = false := by simp; omega
  have H1 := hid g1
  have H2 := hid g2
  have HL := hid hl
  clear h1 h2 g1 g2 hl
  go_enter Try.func38, Try.ntmps38
  go_wp2
  go_loopw [5] (fun i wr => ∃ k : Nat, k ≤ l1.length ∧ i = .int .i64 k ∧ l1.take k = l2.take k ∧ ∃ n, wr = w.drewN n) (fun i _ => l1.length - (intOf i).toNat)
  case atStart => exact ⟨0, by omega, rfl, rfl, 0, rfl⟩
  case round =>
    obtain ⟨k, hk, rfl, ht, m, rfl⟩ := hrel
    have HT := hid ht
    clear ht
    by_cases hlt : k < l1.length
    · have hlt2 : k < l2.length := by have := HL.out; omega
      obtain ⟨b1, o1, rfl, p0, p1, p2, p3⟩ := H1.out k _ (List.getElem?_eq_getElem hlt)
      obtain ⟨b2, o2, rfl, q0, q1, q2, q3⟩ := H2.out k _ (List.getElem?_eq_getElem hlt2)
      by_cases he : l1[k] = l2[k]
      · have he' := firNe_false he
        have HE := hid he
        clear he
        go_wp2
        go_quiet (fail)
        go_wp2
        go_roundw
        case rel => exact ⟨k + 1, by omega, by go_num, take_eq_step hlt hlt2 HT.out HE.out, _, rfl⟩
        case measure => simp [intOf]; omega
      · have he' := firNe_true he
        have HE := hid he
        clear he
        go_wp2
        go_quiet (fail)
        go_wp2
        go_ret
        exact ⟨by congr 2; symm; simp; exact ne_of_at hlt hlt2 HE.out, _, drewN_drewN w m _⟩
    · go_wp2
      go_ret
      exact ⟨by congr 2; symm; simp; exact eq_of_take HL.out hk hlt HT.out, _, rfl⟩

set_option maxHeartbeats 400000 in
theorem ints_any (l1 l2 : List Int) (v1 v2 : Value) (w : World) (h1 : Reads w v1 l1.length (l1.map (Value.int .i64))) (h2 : Reads w v2 l2.length (l2.map (Value.int .i64))) (hn1 : l1.length ≤ 1000000) :
    Calls Try.prog 25 #[v1, v2] w fun e w' => e = .returned (.bool (decide (l1 = l2))) ∧ ∃ n, w' = w.drewN n := by
  obtain ⟨a1, c1, rfl, g1⟩ := h1.ints
  obtain ⟨a2, c2, rfl, g2⟩ := h2.ints
  by_cases hl : l1.length = l2.length
  case neg =>
    have hl' : ((l1.length : Int) != (l2.length : Int)) = true := by simp; omega
    go_enter Try.func25, Try.ntmps25
    go_wp2
    go_ret
    exact ⟨by congr 2; symm; simp; intro e; exact hl (by rw [e]), 0, rfl⟩
  have hl' : ((l1.length : Int) != (l2.length : Int)) = false := by simp; omega
  have H1 := hid g1
  have H2 := hid g2
  have HL := hid hl
  clear h1 h2 g1 g2 hl
  go_enter Try.func25, Try.ntmps25
  go_wp2
  go_loopw [5] (fun i wr => ∃ k : Nat, k ≤ l1.length ∧ i = .int .i64 k ∧ l1.take k = l2.take k ∧ ∃ n, wr = w.drewN n) (fun i _ => l1.length - (intOf i).toNat)
  case atStart => exact ⟨0, by omega, rfl, rfl, 0, rfl⟩
  case round =>
    obtain ⟨k, hk, rfl, ht, m, rfl⟩ := hrel
    have HT := hid ht
    clear ht
    by_cases hlt : k < l1.length
    · have hlt2 : k < l2.length := by have := HL.out; omega
      obtain ⟨b1, o1, rfl, p0⟩ := H1.out k _ (List.getElem?_eq_getElem hlt)
      obtain ⟨b2, o2, rfl, q0⟩ := H2.out k _ (List.getElem?_eq_getElem hlt2)
      by_cases he : l1[k] = l2[k]
      · have he' : (l1[k] != l2[k]) = false := by simp [he]
        have HE := hid he
        clear he
        go_wp2
        go_quiet (fail)
        go_wp2
        go_roundw
        case rel => exact ⟨k + 1, by omega, by go_num, take_eq_step hlt hlt2 HT.out HE.out, _, rfl⟩
        case measure => simp [intOf]; omega
      · have he' : (l1[k] != l2[k]) = true := by simp [he]
        have HE := hid he
        clear he
        go_wp2
        go_quiet (fail)
        go_wp2
        go_ret
        exact ⟨by congr 2; symm; simp; exact ne_of_at hlt hlt2 HE.out, _, drewN_drewN w m _⟩
    · go_wp2
      go_ret
      exact ⟨by congr 2; symm; simp; exact eq_of_take HL.out hk hlt HT.out, _, rfl⟩

set_option maxHeartbeats 400000 in
theorem uints_any (l1 l2 : List Int) (v1 v2 : Value) (w : World) (h1 : Reads w v1 l1.length (l1.map (Value.int .u64))) (h2 : Reads w v2 l2.length (l2.map (Value.int .u64))) (hn1 : l1.length ≤ 1000000) :
    Calls Try.prog 36 #[v1, v2] w fun e w' => e = .returned (.bool (decide (l1 = l2))) ∧ ∃ n, w' = w.drewN n := by
  obtain ⟨a1, c1, rfl, g1⟩ := h1.ints
  obtain ⟨a2, c2, rfl, g2⟩ := h2.ints
  by_cases hl : l1.length = l2.length
  case neg =>
    have hl' : ((l1.length : Int) != (l2.length : Int)) = true := by simp; omega
    go_enter Try.func36, Try.ntmps36
    go_wp2
    go_ret
    exact ⟨by congr 2; symm; simp; intro e; exact hl (by rw [e]), 0, rfl⟩
  have hl' : ((l1.length : Int) != (l2.length : Int)) = false := by simp; omega
  have H1 := hid g1
  have H2 := hid g2
  have HL := hid hl
  clear h1 h2 g1 g2 hl
  go_enter Try.func36, Try.ntmps36
  go_wp2
  go_loopw [5] (fun i wr => ∃ k : Nat, k ≤ l1.length ∧ i = .int .i64 k ∧ l1.take k = l2.take k ∧ ∃ n, wr = w.drewN n) (fun i _ => l1.length - (intOf i).toNat)
  case atStart => exact ⟨0, by omega, rfl, rfl, 0, rfl⟩
  case round =>
    obtain ⟨k, hk, rfl, ht, m, rfl⟩ := hrel
    have HT := hid ht
    clear ht
    by_cases hlt : k < l1.length
    · have hlt2 : k < l2.length := by have := HL.out; omega
      obtain ⟨b1, o1, rfl, p0⟩ := H1.out k _ (List.getElem?_eq_getElem hlt)
      obtain ⟨b2, o2, rfl, q0⟩ := H2.out k _ (List.getElem?_eq_getElem hlt2)
      by_cases he : l1[k] = l2[k]
      · have he' : (l1[k] != l2[k]) = false := by simp [he]
        have HE := hid he
        clear he
        go_wp2
        go_quiet (fail)
        go_wp2
        go_roundw
        case rel => exact ⟨k + 1, by omega, by go_num, take_eq_step hlt hlt2 HT.out HE.out, _, rfl⟩
        case measure => simp [intOf]; omega
      · have he' : (l1[k] != l2[k]) = true := by simp [he]
        have HE := hid he
        clear he
        go_wp2
        go_quiet (fail)
        go_wp2
        go_ret
        exact ⟨by congr 2; symm; simp; exact ne_of_at hlt hlt2 HE.out, _, drewN_drewN w m _⟩
    · go_wp2
      go_ret
      exact ⟨by congr 2; symm; simp; exact eq_of_take HL.out hk hlt HT.out, _, rfl⟩

theorem below_of_drewN {w w' : World} (h : ∃ n, w' = w.drewN n) : Below w.heap.size w w' := by
  obtain ⟨n, rfl⟩ := h; exact below_drewN (Below.refl _ _) n
theorem same_b (l1 l2 : List Fir) (v1 v2 : Value) (w : World) (h1 : Reads w v1 l1.length (l1.flatMap firC)) (h2 : Reads w v2 l2.length (l2.flatMap firC)) (hn1 : l1.length ≤ 1000000) :
    Calls Try.prog 38 #[v1, v2] w fun e w' => e = .returned (.bool (decide (l1 = l2))) ∧ Below w.heap.size w w' :=
  (same_any l1 l2 v1 v2 w h1 h2 hn1).mono fun _ _ ⟨he, hw⟩ => ⟨he, below_of_drewN hw⟩
theorem same_t (l1 l2 : List Fir) (v1 v2 : Value) (w : World) (h1 : Reads w v1 l1.length (l1.flatMap firC)) (h2 : Reads w v2 l2.length (l2.flatMap firC)) (hn1 : l1.length ≤ 1000000) (he : l1 = l2) :
    Calls Try.prog 38 #[v1, v2] w fun e w' => e = .returned (.bool true) ∧ Below w.heap.size w w' :=
  (same_b l1 l2 v1 v2 w h1 h2 hn1).mono fun _ _ ⟨hr, hw⟩ => ⟨by rw [hr, decide_eq_true he], hw⟩
theorem ints_b (l1 l2 : List Int) (v1 v2 : Value) (w : World) (h1 : Reads w v1 l1.length (l1.map (Value.int .i64))) (h2 : Reads w v2 l2.length (l2.map (Value.int .i64))) (hn1 : l1.length ≤ 1000000) :
    Calls Try.prog 25 #[v1, v2] w fun e w' => e = .returned (.bool (decide (l1 = l2))) ∧ Below w.heap.size w w' :=
  (ints_any l1 l2 v1 v2 w h1 h2 hn1).mono fun _ _ ⟨he, hw⟩ => ⟨he, below_of_drewN hw⟩
theorem ints_t (l1 l2 : List Int) (v1 v2 : Value) (w : World) (h1 : Reads w v1 l1.length (l1.map (Value.int .i64))) (h2 : Reads w v2 l2.length (l2.map (Value.int .i64))) (hn1 : l1.length ≤ 1000000) (he : l1 = l2) :
    Calls Try.prog 25 #[v1, v2] w fun e w' => e = .returned (.bool true) ∧ Below w.heap.size w w' :=
  (ints_b l1 l2 v1 v2 w h1 h2 hn1).mono fun _ _ ⟨hr, hw⟩ => ⟨by rw [hr, decide_eq_true he], hw⟩
theorem uints_b (l1 l2 : List Int) (v1 v2 : Value) (w : World) (h1 : Reads w v1 l1.length (l1.map (Value.int .u64))) (h2 : Reads w v2 l2.length (l2.map (Value.int .u64))) (hn1 : l1.length ≤ 1000000) :
    Calls Try.prog 36 #[v1, v2] w fun e w' => e = .returned (.bool (decide (l1 = l2))) ∧ Below w.heap.size w w' :=
  (uints_any l1 l2 v1 v2 w h1 h2 hn1).mono fun _ _ ⟨he, hw⟩ => ⟨he, below_of_drewN hw⟩
end Go.Proofs.Ytpnkkdpggofanaa
