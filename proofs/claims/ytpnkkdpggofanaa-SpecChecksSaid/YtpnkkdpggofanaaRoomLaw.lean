/- spec: more room; how many are live; which. No program in sight. -/
import Derived.Test.YtpnkkdpggofanaaCancelLaw
namespace Go.Proofs.Ytpnkkdpggofanaa

theorem plN {m : Ma} {e : Ev} {l : List Ev} (h : stepM m e = none) : playM m (e :: l) = (m, 0) := by simp [playM, h]
theorem plS {m m' : Ma} {e : Ev} {l : List Ev} (h : stepM m e = some m') : playM m (e :: l) = ((playM m' l).1, (playM m' l).2 + 1) := by simp [playM, h]
def roomy (m : Ma) (r : Int) : Ma := { m with room := r }

theorem stepM_rule {m m' : Ma} {e : Ev} (h1 : e.kind ≠ 1) (h : stepM m e = some m') : ∃ i c, ruleM m i c e = some m' := by
  unfold stepM at h
  rw [if_neg (by simpa using h1)] at h
  split at h
  · cases h
  · split at h
    · cases h
    · split at h
      · cases h
      · exact ⟨_, _, h⟩
theorem stepM_add {m m' : Ma} {e : Ev} (hk : e.kind = 3) (h : stepM m e = some m') : ∃ i c, addM m i c e = some m' := by
  obtain ⟨i, c, hr⟩ := stepM_rule (by omega) h
  exact ⟨i, c, by simpa [ruleM, hk] using hr⟩

theorem beginM_roomy (m : Ma) (e : Ev) (r : Int) : beginM (roomy m r) e = (beginM m e).map (roomy · r) := by unfold beginM roomy; split <;> rfl
theorem tickM_roomy (m : Ma) (i : Nat) (c : Cl) (e : Ev) (r : Int) : tickM (roomy m r) i c e = (tickM m i c e).map (roomy · r) := by unfold tickM roomy; split <;> rfl
theorem armM_roomy (m : Ma) (c : Cl) (e : Ev) (r : Int) : armM (roomy m r) c e = (armM m c e).map (roomy · r) := by
  unfold armM roomy
  cases aget m.live e.id with
  | none => rfl
  | some t => simp only; (repeat' split) <;> rfl
theorem fireM_roomy (m : Ma) (c : Cl) (e : Ev) (r : Int) : fireM (roomy m r) c e = (fireM m c e).map (roomy · r) := by
  unfold fireM roomy
  cases aget m.live e.id with
  | none => rfl
  | some t => simp only; (repeat' split) <;> rfl
theorem overM_roomy (m : Ma) (c : Cl) (e : Ev) (r : Int) : overM (roomy m r) c e = (overM m c e).map (roomy · r) := by
  unfold overM roomy
  cases aget m.live e.id with
  | none => rfl
  | some t => simp only; (repeat' split) <;> rfl
theorem resetM_roomy (m : Ma) (i : Nat) (c : Cl) (e : Ev) (r : Int) : resetM (roomy m r) i c e = (resetM m i c e).map (roomy · r) := by
  unfold resetM roomy
  cases aget m.live e.id with
  | none => rfl
  | some t => simp only; (repeat' split) <;> rfl
theorem cancelM_roomy (m : Ma) (i : Nat) (c : Cl) (e : Ev) (r : Int) : cancelM (roomy m r) i c e = (cancelM m i c e).map (roomy · r) := by
  unfold cancelM roomy
  cases aget m.live e.id with
  | none => rfl
  | some t =>
    simp only
    generalize (if t.btw then t.gen + 1 else t.gen) = g
    split <;> rfl
theorem stopM_roomy (m : Ma) (i : Nat) (c : Cl) (e : Ev) (r : Int) : stopM (roomy m r) i c e = (stopM m i c e).map (roomy · r) := by
  unfold stopM roomy
  cases aget m.live e.id with
  | none => rfl
  | some t => simp only; (repeat' split) <;> rfl
theorem refuseM_roomy (m : Ma) (i : Nat) (c : Cl) (e : Ev) (r : Int) : refuseM (roomy m r) i c e = (refuseM m i c e).map (roomy · r) := by
  have : refB (roomy m r) c e = refB m c e := rfl
  unfold refuseM
  rw [this]
  split <;> rfl
theorem closeM_roomy (m : Ma) (c : Cl) (e : Ev) (r : Int) : closeM (roomy m r) c e = (closeM m c e).map (roomy · r) := by unfold closeM roomy; split <;> rfl
theorem leaveM_roomy (m : Ma) (e : Ev) (r : Int) : leaveM (roomy m r) e = (leaveM m e).map (roomy · r) := by
  unfold leaveM roomy
  simp only
  split
  · rfl
  cases aget m.live e.id with
  | none => rfl
  | some t => simp only; split <;> rfl
theorem endM_roomy (m : Ma) (i : Nat) (e : Ev) (r : Int) : endM (roomy m r) i e = (endM m i e).map (roomy · r) := by unfold endM roomy; split <;> rfl
theorem answerM_roomy (m : Ma) (i : Nat) (c : Cl) (e : Ev) (r : Int) : answerM (roomy m r) i c e = (answerM m i c e).map (roomy · r) := by unfold answerM roomy; split <;> rfl
theorem addM_room {m m' : Ma} {i : Nat} {c : Cl} {e : Ev} (h : addM m i c e = some m') : (m.live.length : Int) < m.room ∧ m'.room = m.room ∧ ∀ r, m.room ≤ r → addM (roomy m r) i c e = some (roomy m' r) := by
  unfold addM at h
  generalize hp : (if c.bg.what == 2 then c.bg.per else 0) = pp at h
  split at h
  · cases h
  · rename_i hc
    split at h
    · cases h
    · rename_i hc2
      split at h
      · cases h
      · rename_i hc3
        cases h
        have hlt : (m.live.length : Int) < m.room := by
          simp only [Bool.or_eq_true, not_or, decide_eq_true_eq] at hc
          omega
        refine ⟨hlt, rfl, fun r hr => ?_⟩
        have hd : decide ((m.live.length : Int) ≥ m.room) = decide ((m.live.length : Int) ≥ r) := by
          rw [decide_eq_false (by omega), decide_eq_false (by omega)]
        unfold addM
        rw [hp]
        rw [hd] at hc
        rw [if_neg hc2, if_neg hc3]
        exact (if_neg (show ¬ ((!(c.bg.what == 1 || c.bg.what == 2) || (roomy m r).ended || hasK (roomy m r).added e.id || decide (((roomy m r).live.length : Int) ≥ (roomy m r).room)) = true) from hc)).trans rfl
theorem ruleM_roomy {m m' : Ma} {i : Nat} {c : Cl} {e : Ev} (h : ruleM m i c e = some m') (r : Int) (hr : m.room ≤ r) : ruleM (roomy m r) i c e = some (roomy m' r) := by
  unfold ruleM at h ⊢
  by_cases h4 : e.kind = 4
  · rw [if_pos (by simp [h4])] at h ⊢
    rw [armM_roomy, h]; rfl
  rw [if_neg (by simp [h4])] at h ⊢
  by_cases h5 : e.kind = 5
  · rw [if_pos (by simp [h5])] at h ⊢
    rw [fireM_roomy, h]; rfl
  rw [if_neg (by simp [h5])] at h ⊢
  by_cases h14 : e.kind = 14
  · rw [if_pos (by simp [h14])] at h ⊢
    rw [overM_roomy, h]; rfl
  rw [if_neg (by simp [h14])] at h ⊢
  by_cases h2 : e.kind = 2
  · rw [if_pos (by simp [h2])] at h ⊢
    rw [answerM_roomy, h]; rfl
  rw [if_neg (by simp [h2])] at h ⊢
  by_cases h3 : e.kind = 3
  · rw [if_pos (by simp [h3])] at h ⊢
    exact (addM_room h).2.2 r hr
  rw [if_neg (by simp [h3])] at h ⊢
  by_cases h11 : e.kind = 11
  · rw [if_pos (by simp [h11])] at h ⊢
    rw [tickM_roomy, h]; rfl
  rw [if_neg (by simp [h11])] at h ⊢
  by_cases h6 : e.kind = 6
  · rw [if_pos (by simp [h6])] at h ⊢
    rw [resetM_roomy, h]; rfl
  rw [if_neg (by simp [h6])] at h ⊢
  by_cases h7 : e.kind = 7
  · rw [if_pos (by simp [h7])] at h ⊢
    rw [cancelM_roomy, h]; rfl
  rw [if_neg (by simp [h7])] at h ⊢
  by_cases h8 : e.kind = 8
  · rw [if_pos (by simp [h8])] at h ⊢
    rw [stopM_roomy, h]; rfl
  rw [if_neg (by simp [h8])] at h ⊢
  by_cases h9 : e.kind = 9
  · rw [if_pos (by simp [h9])] at h ⊢
    rw [refuseM_roomy, h]; rfl
  rw [if_neg (by simp [h9])] at h ⊢
  by_cases h10 : e.kind = 10
  · rw [if_pos (by simp [h10])] at h ⊢
    rw [closeM_roomy, h]; rfl
  rw [if_neg (by simp [h10])] at h ⊢
  by_cases h12 : e.kind = 12
  · rw [if_pos (by simp [h12])] at h ⊢
    rw [leaveM_roomy, h]; rfl
  rw [if_neg (by simp [h12])] at h ⊢
  by_cases h13 : e.kind = 13
  · rw [if_pos (by simp [h13])] at h ⊢
    rw [endM_roomy, h]; rfl
  rw [if_neg (by simp [h13])] at h ⊢
  cases h
theorem stepM_roomy {m m' : Ma} {e : Ev} (h : stepM m e = some m') (r : Int) (hr : m.room ≤ r) : stepM (roomy m r) e = some (roomy m' r) := by
  unfold stepM at h ⊢
  split at h
  · rename_i hk; rw [if_pos hk, beginM_roomy, h]; rfl
  · rename_i hk
    rw [if_neg hk]
    split at h
    · cases h
    · rename_i hb
      rw [if_neg (show ¬ ((decide (e.call < 1) || decide (e.call > ((roomy m r).calls.length : Int))) = true) from hb)]
      split at h
      · cases h
      · rename_i c hc
        rw [show (roomy m r).calls[(e.call - 1).toNat]? = some c from hc]
        simp only
        split at h
        · cases h
        · rename_i hx
          rw [if_neg hx]
          exact ruleM_roomy h r hr
theorem stepM_keeps_room {m m' : Ma} {e : Ev} (h : stepM m e = some m') : m'.room = m.room := by
  have h1 := stepM_roomy h m.room (Int.le_refl _)
  have h2 : roomy m m.room = m := rfl
  rw [h2, h] at h1
  have h3 : m' = roomy m' m.room := by simpa using h1
  have h4 := congrArg Ma.room h3
  exact h4

theorem all_roomy {m : Ma} {l : List Ev} (h : All m l) (r : Int) (hr : m.room ≤ r) : All (roomy m r) l := by
  induction l generalizing m with
  | nil => rfl
  | cons e l ih =>
    obtain ⟨m', hs, ha⟩ := all_cons h
    have h2 := stepM_roomy hs r hr
    have h3 := ih ha (by rw [stepM_keeps_room hs]; exact hr)
    unfold All at *
    rw [plS h2, List.length_cons, h3]

theorem aput_lenR {κ ν : Type} [DecidableEq κ] (m : List (κ × ν)) (k : κ) (v : ν) : (aput m k v).length = if aget m k = none then m.length + 1 else m.length := by
  induction m with
  | nil => simp [aput, aget]
  | cons p m ih =>
    simp only [aput, aget]
    by_cases h : k = p.1
    · simp [h]
    · simp only [h, if_false, List.length_cons, ih]
      split <;> rfl
theorem adel_len {κ ν : Type} [DecidableEq κ] (m : List (κ × ν)) (k : κ) : (adel m k).length ≤ m.length := (adel_sub m k).length_le |> (by simpa using ·)

theorem live_step {m m' : Ma} {e : Ev} (h : stepM m e = some m') : (m'.live.length : Int) ≤ max (m.live.length : Int) m.room ∧ ∀ p ∈ m'.live.map (·.1), p ∈ m.live.map (·.1) ∨ p = e.id := by
  have key : ∀ (t : Tm) (hg : aget m.live e.id ≠ none), m'.live = aput m.live e.id t → (m'.live.length : Int) ≤ max (m.live.length : Int) m.room ∧ ∀ p ∈ m'.live.map (·.1), p ∈ m.live.map (·.1) ∨ p = e.id := by
    intro t hg hl
    have h1 := aput_lenR m.live e.id t
    rw [if_neg hg] at h1
    have h2 := aput_keys m.live e.id t
    rw [hl]
    refine ⟨by omega, fun p hp => ?_⟩
    rw [h2] at hp
    split at hp
    · exact .inl hp
    · rcases List.mem_append.1 hp with hp | hp
      · exact .inl hp
      · simp at hp; exact .inr hp
  cases step_eff h with
  | same hk hl ha => rw [hl]; exact ⟨by omega, fun p hp => .inl hp⟩
  | put hk t t' hg hl ha hgen hr => exact key _ (by rw [hg]; simp) hl
  | fire hk t hg hgen hb hl ha htk => exact key _ (by rw [hg]; simp) hl
  | del hk t hg hl ha hgen h5 =>
    rw [hl]
    have := adel_len m.live e.id
    exact ⟨by omega, fun p hp => .inl ((adel_sub m.live e.id).subset hp)⟩
  | add hk t hno hl ha =>
    obtain ⟨i, c, had⟩ := stepM_add hk h
    have h1 := aput_lenR m.live e.id t
    have h2 := aput_keys m.live e.id t
    have h3 := (addM_room had).1
    rw [hl]
    refine ⟨by split at h1 <;> omega, fun p hp => ?_⟩
    rw [h2] at hp
    split at hp
    · exact .inl hp
    · rcases List.mem_append.1 hp with hp | hp
      · exact .inl hp
      · simp at hp; exact .inr hp

theorem play_live (m : Ma) (l : List Ev) : ((playM m l).1.live.length : Int) ≤ max (m.live.length : Int) m.room ∧ ∀ p ∈ (playM m l).1.live.map (·.1), p ∈ m.live.map (·.1) ∨ ∃ e ∈ l, e.id = p := by
  induction l generalizing m with
  | nil => exact ⟨by simp only [playM]; omega, fun p hp => .inl hp⟩
  | cons e l ih =>
    cases hs : stepM m e with
    | none => rw [plN hs]; exact ⟨by simp only; omega, fun p hp => .inl hp⟩
    | some m' =>
      rw [plS hs]
      obtain ⟨h1, h2⟩ := ih m'
      obtain ⟨h3, h4⟩ := live_step hs
      have h5 := stepM_keeps_room hs
      refine ⟨by simp only; omega, fun p hp => ?_⟩
      rcases h2 p hp with h | ⟨e', he, hp'⟩
      · rcases h4 p h with h | h
        · exact .inl h
        · exact .inr ⟨e, by simp, h.symm⟩
      · exact .inr ⟨e', by simp [he], hp'⟩
theorem play_new_live (n : Int) (l : List Ev) : ((playM (new n) l).1.live.length : Int) ≤ max 0 n ∧ ∀ p ∈ (playM (new n) l).1.live.map (·.1), ∃ e ∈ l, e.id = p := by
  obtain ⟨h1, h2⟩ := play_live (new n) l
  refine ⟨by simpa [new] using h1, fun p hp => ?_⟩
  rcases h2 p hp with h | h
  · simp [new] at h
  · exact h
theorem play_live_le (n : Int) (l : List Ev) : (playM (new n) l).1.live.length ≤ l.length := by
  have key : ∀ (m : Ma) (l : List Ev), (playM m l).1.live.length ≤ m.live.length + l.length := by
    intro m l
    induction l generalizing m with
    | nil => simp [playM]
    | cons e l ih =>
      cases hs : stepM m e with
      | none => rw [plN hs]; simp only; omega
      | some m' =>
        rw [plS hs]
        have h1 := ih m'
        have h2 : m'.live.length ≤ m.live.length + 1 := by
          cases step_eff hs with
          | same hk hl ha => rw [hl]; omega
          | put hk t t' hg hl ha hgen hr => rw [hl, aput_lenR]; split <;> omega
          | fire hk t hg hgen hb hl ha htk => rw [hl, aput_lenR]; split <;> omega
          | del hk t hg hl ha hgen h5 => rw [hl]; have := adel_len m.live e.id; omega
          | add hk t hno hl ha => rw [hl, aput_lenR]; split <;> omega
        simp only [List.length_cons]; omega
  simpa [new] using key (new n) l
end Go.Proofs.Ytpnkkdpggofanaa
