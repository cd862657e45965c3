/- Slices of events. The plain machine: how many calls there are. -/
import Derived.Test.YtpnkkdpggofanaaSpecC
namespace Go.Proofs.Ytpnkkdpggofanaa
open Go.RowKit

theorem Reads.evs {w : World} {v : Value} {l : List Ev} (h : Reads w v l.length (l.flatMap evC)) :
    ∃ ao c, v = .slice ao l.length c ∧ ∀ i e, l[i]? = some e → ∃ b o, ao = some ⟨b, o, none⟩ ∧ ∀ r u, (evC e)[r]? = some u → w.cell? ⟨b, o + i * 10 + r, none⟩ = some u := by
  obtain ⟨ao, c, hv, _, hx⟩ := h
  refine ⟨ao, c, hv, fun i e he => ?_⟩
  have key := fun r u hu => flatMap_getElem? evC 10 (fun _ => rfl) l i e r u he hu
  obtain ⟨b, o, hao, hc⟩ := hx (fun h0 => by have := key 0 _ rfl; rw [h0] at this; simp at this)
  exact ⟨b, o, hao, fun r u hu => by simpa [Nat.add_assoc] using hc _ _ (key r u hu)⟩

theorem evC_len (l : List Ev) : (l.flatMap evC).length = l.length * 10 := flatMap_length evC 10 (fun _ => rfl) l

theorem fin_len (m : Ma) (i : Nat) (a b c : Int) : (fin m i a b c).calls.length = m.calls.length := by simp [fin]
theorem armM_len {m m' : Ma} {c : Cl} {e : Ev} (h : armM m c e = some m') : m'.calls.length = m.calls.length := by
  unfold armM at h
  repeat' (split at h)
  all_goals first | (cases h; done) | (cases h; rfl) | (cases h; simp [fin, setLive, delLive])
theorem fireM_len {m m' : Ma} {c : Cl} {e : Ev} (h : fireM m c e = some m') : m'.calls.length = m.calls.length := by
  unfold fireM at h
  repeat' (split at h)
  all_goals first | (cases h; done) | (cases h; rfl) | (cases h; simp [fin, setLive, delLive])
theorem overM_len {m m' : Ma} {c : Cl} {e : Ev} (h : overM m c e = some m') : m'.calls.length = m.calls.length := by
  unfold overM at h
  repeat' (split at h)
  all_goals first | (cases h; done) | (cases h; rfl) | (cases h; simp [fin, setLive, delLive])
theorem answerM_len {m m' : Ma} {i : Nat} {c : Cl} {e : Ev} (h : answerM m i c e = some m') : m'.calls.length = m.calls.length := by
  unfold answerM at h
  repeat' (split at h)
  all_goals first | (cases h; done) | (cases h; rfl) | (cases h; simp)
theorem addM_len {m m' : Ma} {i : Nat} {c : Cl} {e : Ev} (h : addM m i c e = some m') : m'.calls.length = m.calls.length := by
  unfold addM at h
  repeat' (split at h)
  all_goals first | (cases h; done) | (cases h; rfl) | (cases h; simp [fin])
theorem tickM_len {m m' : Ma} {i : Nat} {c : Cl} {e : Ev} (h : tickM m i c e = some m') : m'.calls.length = m.calls.length := by
  unfold tickM at h
  repeat' (split at h)
  all_goals first | (cases h; done) | (cases h; rfl) | (cases h; simp [fin])
theorem resetM_len {m m' : Ma} {i : Nat} {c : Cl} {e : Ev} (h : resetM m i c e = some m') : m'.calls.length = m.calls.length := by
  unfold resetM at h
  repeat' (split at h)
  all_goals first | (cases h; done) | (cases h; rfl) | (cases h; simp [fin, setLive])
theorem cancelM_len {m m' : Ma} {i : Nat} {c : Cl} {e : Ev} (h : cancelM m i c e = some m') : m'.calls.length = m.calls.length := by
  unfold cancelM at h
  repeat' (split at h)
  all_goals first | (cases h; done) | (cases h; rfl) | (cases h; simp [fin, delLive])
theorem stopM_len {m m' : Ma} {i : Nat} {c : Cl} {e : Ev} (h : stopM m i c e = some m') : m'.calls.length = m.calls.length := by
  unfold stopM at h
  repeat' (split at h)
  all_goals first | (cases h; done) | (cases h; rfl) | (cases h; simp [fin, setLive, delLive])
theorem refuseM_len {m m' : Ma} {i : Nat} {c : Cl} {e : Ev} (h : refuseM m i c e = some m') : m'.calls.length = m.calls.length := by
  unfold refuseM at h
  repeat' (split at h)
  all_goals first | (cases h; done) | (cases h; rfl) | (cases h; simp [fin])
theorem closeM_len {m m' : Ma} {c : Cl} {e : Ev} (h : closeM m c e = some m') : m'.calls.length = m.calls.length := by
  unfold closeM at h
  repeat' (split at h)
  all_goals first | (cases h; done) | (cases h; rfl) | (cases h; simp [fin, setLive, delLive])
theorem leaveM_len {m m' : Ma} {e : Ev} (h : leaveM m e = some m') : m'.calls.length = m.calls.length := by
  unfold leaveM at h
  repeat' (split at h)
  all_goals first | (cases h; done) | (cases h; rfl) | (cases h; simp [fin, setLive, delLive])
theorem endM_len {m m' : Ma} {i : Nat} {e : Ev} (h : endM m i e = some m') : m'.calls.length = m.calls.length := by
  unfold endM at h
  repeat' (split at h)
  all_goals first | (cases h; done) | (cases h; rfl) | (cases h; simp [fin])
theorem ruleM_len {m m' : Ma} {i : Nat} {c : Cl} {e : Ev} (h : ruleM m i c e = some m') : m'.calls.length = m.calls.length := by
  unfold ruleM at h
  by_cases h_armM : (e.kind == 4) = true
  · rw [if_pos h_armM] at h; exact armM_len h
  rw [if_neg h_armM] at h
  by_cases h_fireM : (e.kind == 5) = true
  · rw [if_pos h_fireM] at h; exact fireM_len h
  rw [if_neg h_fireM] at h
  by_cases h_overM : (e.kind == 14) = true
  · rw [if_pos h_overM] at h; exact overM_len h
  rw [if_neg h_overM] at h
  by_cases h_answerM : (e.kind == 2) = true
  · rw [if_pos h_answerM] at h; exact answerM_len h
  rw [if_neg h_answerM] at h
  by_cases h_addM : (e.kind == 3) = true
  · rw [if_pos h_addM] at h; exact addM_len h
  rw [if_neg h_addM] at h
  by_cases h_tickM : (e.kind == 11) = true
  · rw [if_pos h_tickM] at h; exact tickM_len h
  rw [if_neg h_tickM] at h
  by_cases h_resetM : (e.kind == 6) = true
  · rw [if_pos h_resetM] at h; exact resetM_len h
  rw [if_neg h_resetM] at h
  by_cases h_cancelM : (e.kind == 7) = true
  · rw [if_pos h_cancelM] at h; exact cancelM_len h
  rw [if_neg h_cancelM] at h
  by_cases h_stopM : (e.kind == 8) = true
  · rw [if_pos h_stopM] at h; exact stopM_len h
  rw [if_neg h_stopM] at h
  by_cases h_refuseM : (e.kind == 9) = true
  · rw [if_pos h_refuseM] at h; exact refuseM_len h
  rw [if_neg h_refuseM] at h
  by_cases h_closeM : (e.kind == 10) = true
  · rw [if_pos h_closeM] at h; exact closeM_len h
  rw [if_neg h_closeM] at h
  by_cases h_leaveM : (e.kind == 12) = true
  · rw [if_pos h_leaveM] at h; exact leaveM_len h
  rw [if_neg h_leaveM] at h
  by_cases h_endM : (e.kind == 13) = true
  · rw [if_pos h_endM] at h; exact endM_len h
  rw [if_neg h_endM] at h
  cases h
theorem stepM_len {m m' : Ma} {e : Ev} (h : stepM m e = some m') : m'.calls.length ≤ m.calls.length + 1 := by
  unfold stepM at h
  split at h
  · unfold beginM at h; split at h
    · cases h
    · cases h; simp
  · split at h
    · cases h
    · split at h
      · cases h
      · split at h
        · cases h
        · rw [ruleM_len h]; omega
end Go.Proofs.Ytpnkkdpggofanaa
