/- vergelaw21's right by its walk. -/
import Derived.Test.YtpnkkdpggofanaaSpecPlay
namespace Go.Proofs.Ytpnkkdpggofanaa
open Go.RowKit

theorem playM_le (m : Ma) (l : List Ev) : (playM m l).2 ≤ l.length := by
  induction l generalizing m with
  | nil => simp [playM]
  | cons e l ih =>
    cases h : stepM m e with
    | none => rw [playM_none h]; simp
    | some m' => rw [playM_some h]; have := ih m'; simp; omega
theorem Reads.take {w : World} {ao : Option Addr} {l : List Ev} {c : Nat} (h : Reads w (.slice ao l.length c) l.length (l.flatMap evC)) (k : Nat) (hk : k ≤ l.length) : Reads w (.slice ao k c) k ((l.take k).flatMap evC) := by
  obtain ⟨ao', c', hv, hn, hx⟩ := h
  simp only [Value.slice.injEq] at hv
  obtain ⟨rfl, _, rfl⟩ := hv
  have hpre : ∀ (j : Nat) (u : Value), ((l.take k).flatMap evC)[j]? = some u → (l.flatMap evC)[j]? = some u := by
    intro j u hj
    have : l.flatMap evC = (l.take k).flatMap evC ++ (l.drop k).flatMap evC := by rw [← List.flatMap_append, List.take_append_drop]
    rw [this, List.getElem?_append_left (List.getElem?_eq_some_iff.1 hj).1]
    exact hj
  refine ⟨ao, c, rfl, fun h => ?_, fun hne => ?_⟩
  · have := hn h; omega
  · have hne' : l.flatMap evC ≠ [] := by
      intro h0
      apply hne
      cases hh : (l.take k).flatMap evC with
      | nil => rfl
      | cons a t => exact absurd (hpre 0 a (by rw [hh]; rfl)) (by rw [h0]; simp)
    obtain ⟨b, o, hao, hc⟩ := hx hne'
    exact ⟨b, o, hao, fun j u hu => hc j u (hpre j u hu)⟩

set_option maxHeartbeats 4000000 in
theorem right_any (n : Int) (l : List Ev) (ao : Option Addr) (c : Nat) (w : World) (h1 : Reads w (.slice ao l.length c) l.length (l.flatMap evC)) (hwf : ∀ e ∈ l, e.wf) (hn : l.length ≤ 1000000) (hcap : l.length ≤ c) :
    Calls Try.prog 15 #[.int .i64 n, .slice ao l.length c] w fun x w' => x = .returned (.slice ao (playM (new n) l).2 c) ∧ Below w.heap.size w w' := by
  have hrd := hid h1
  have HW := hid hwf
  have hle := playM_le (new n) l
  clear h1 hwf
  generalize hp : (playM (new n) l).2 = r at hle
  have hcv := hid (show chkV n l = .tuple #[.int .i64 (r : Int), .int .i64 (if r < l.length then 7 else 0)] by unfold chkV; rw [hp])
  clear hp
  have hz : ¬ ((r : Int) < 0) := by omega
  have hz2 : ¬ ((l.length : Int) < (r : Int)) := by omega
  have hz3 : (r : Int) ≤ (c : Int) := by omega
  have hz4 : ¬ ((c : Int) < (r : Int)) := by omega
  go_enter Try.func15, Try.ntmps15
  go_wp2_with (go_at_call 16; refine (check_any n l _ _ hrd.out HW.out hn).mono ?_; rintro x w' ⟨rfl, hb⟩; rw [hcv.out]; have HB := hid hb; clear hb)
  all_goals first | (go_ret; exact ⟨rfl, HB.out⟩) | (exfalso; omega)
end Go.Proofs.Ytpnkkdpggofanaa
