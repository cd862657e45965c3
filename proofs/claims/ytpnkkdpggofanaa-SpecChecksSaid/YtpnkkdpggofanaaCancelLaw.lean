/- spec: what a step does to the live ones; behind a cancel; firings. No program in sight. -/
import Derived.Test.YtpnkkdpggofanaaEvs
namespace Go.Proofs.Ytpnkkdpggofanaa

/-- What a step does to the live ones, and to those that were added. -/
inductive Eff (m m' : Ma) (e : Ev) : Prop
  | same (hk : e.kind ≠ 3 ∧ e.kind ≠ 4 ∧ e.kind ≠ 5 ∧ e.kind ≠ 6 ∧ e.kind ≠ 7 ∧ e.kind ≠ 8 ∧ e.kind ≠ 12 ∧ e.kind ≠ 14) (hl : m'.live = m.live) (ha : m'.added = m.added)
  | put (hk : e.kind = 4 ∨ e.kind = 6 ∨ e.kind = 8) (t t' : Tm) (hg : aget m.live e.id = some t) (hl : m'.live = aput m.live e.id t') (ha : m'.added = m.added) (hgen : t.gen < t'.gen ∨ (t'.gen = t.gen ∧ t'.btw = t.btw)) (hr : e.kind = 6 → t'.gen = e.gen)
  | fire (hk : e.kind = 5) (t : Tm) (hg : aget m.live e.id = some t) (hgen : e.gen = t.gen) (hb : t.btw = false) (hl : m'.live = aput m.live e.id { t with btw := true }) (ha : m'.added = m.added) (htk : e.tk = e.dl)
  | del (hk : e.kind = 5 ∨ e.kind = 7 ∨ e.kind = 8 ∨ e.kind = 12 ∨ e.kind = 14) (t : Tm) (hg : aget m.live e.id = some t) (hl : m'.live = adel m.live e.id) (ha : m'.added = m.added) (hgen : e.kind = 7 → e.gen = if t.btw then t.gen + 1 else t.gen) (h5 : e.kind = 5 → e.gen = t.gen ∧ t.btw = false ∧ e.tk = e.dl)
  | add (hk : e.kind = 3) (t : Tm) (hno : hasK m.added e.id = false) (hl : m'.live = aput m.live e.id t) (ha : m'.added = aput m.added e.id true)

theorem arm_eff {m m' : Ma} {c : Cl} {e : Ev} (hk : e.kind = 4) (h : armM m c e = some m') : Eff m m' e := by
  unfold armM at h
  cases hg : aget m.live e.id with
  | none => rw [hg] at h; cases h
  | some t =>
    rw [hg] at h
    simp only at h
    split at h
    · cases h
    · split at h
      · split at h
        · cases h
        · cases h; exact .put (.inl hk) t _ hg rfl rfl (.inl (by show t.gen < t.gen + 1; omega)) (fun h => by omega)
      · rename_i hb
        split at h
        · cases h
        · cases h; exact .put (.inl hk) t _ hg rfl rfl (.inr ⟨rfl, by simp at hb; simp [hb]⟩) (fun h => by omega)
theorem fire_eff {m m' : Ma} {c : Cl} {e : Ev} (hk : e.kind = 5) (h : fireM m c e = some m') : Eff m m' e := by
  unfold fireM at h
  cases hg : aget m.live e.id with
  | none => rw [hg] at h; cases h
  | some t =>
    rw [hg] at h
    simp only at h
    split at h
    · cases h
    · rename_i hc
      simp only [Bool.or_eq_true, not_or, bne_iff_ne, ne_eq, Decidable.not_not, Bool.not_eq_true, Bool.not_eq_eq_eq_not] at hc
      split at h
      · cases h; exact .fire hk t hg (by simp [hc]) (by simp [hc]) rfl rfl (by simp [hc])
      · cases h; exact .del (.inl hk) t hg rfl rfl (fun h7 => by omega) (fun _ => ⟨by simp [hc], by simp [hc], by simp [hc]⟩)
theorem over_eff {m m' : Ma} {c : Cl} {e : Ev} (hk : e.kind = 14) (h : overM m c e = some m') : Eff m m' e := by
  unfold overM at h
  cases hg : aget m.live e.id with
  | none => rw [hg] at h; cases h
  | some t =>
    rw [hg] at h
    simp only at h
    split at h
    · cases h
    · cases h; exact .del (by omega) t hg rfl rfl (fun h7 => by omega) (fun h5 => by omega)
theorem add_eff {m m' : Ma} {i : Nat} {c : Cl} {e : Ev} (hk : e.kind = 3) (h : addM m i c e = some m') : Eff m m' e := by
  unfold addM at h
  generalize (if c.bg.what == 2 then c.bg.per else 0) = pp at h
  split at h
  · cases h
  · rename_i hc
    split at h
    · cases h
    · split at h
      · cases h
      · cases h
        refine .add hk _ ?_ rfl rfl
        simp only [Bool.or_eq_true, not_or, Bool.not_eq_true] at hc
        exact hc.1.2
theorem reset_eff {m m' : Ma} {i : Nat} {c : Cl} {e : Ev} (hk : e.kind = 6) (h : resetM m i c e = some m') : Eff m m' e := by
  unfold resetM at h
  cases hg : aget m.live e.id with
  | none => rw [hg] at h; cases h
  | some t =>
    rw [hg] at h
    simp only at h
    split at h
    · cases h
    · rename_i hc
      simp only [Bool.or_eq_true, not_or, bne_iff_ne, ne_eq, Decidable.not_not, Bool.not_eq_true] at hc
      cases h
      exact .put (.inr (.inl hk)) t _ hg rfl rfl (.inl (by show t.gen < e.gen; omega)) (fun _ => rfl)
theorem cancel_eff {m m' : Ma} {i : Nat} {c : Cl} {e : Ev} (hk : e.kind = 7) (h : cancelM m i c e = some m') : Eff m m' e := by
  unfold cancelM at h
  cases hg : aget m.live e.id with
  | none => rw [hg] at h; cases h
  | some t =>
    rw [hg] at h
    simp only at h
    generalize hq : (if t.btw then t.gen + 1 else t.gen) = gg at h
    split at h
    · cases h
    · rename_i hc
      simp only [Bool.or_eq_true, not_or, bne_iff_ne, ne_eq, Decidable.not_not, Bool.not_eq_true] at hc
      cases h
      exact .del (.inr (.inl hk)) t hg rfl rfl (fun _ => by rw [hq]; exact hc.2) (fun h5 => by omega)
theorem stop_eff {m m' : Ma} {i : Nat} {c : Cl} {e : Ev} (hk : e.kind = 8) (h : stopM m i c e = some m') : Eff m m' e := by
  unfold stopM at h
  cases hg : aget m.live e.id with
  | none => rw [hg] at h; cases h
  | some t =>
    rw [hg] at h
    simp only at h
    split at h
    · cases h
    · split at h
      · cases h; exact .del (by omega) t hg rfl rfl (fun h7 => by omega) (fun h5 => by omega)
      · cases h; exact .put (.inr (.inr hk)) t _ hg rfl rfl (.inr ⟨rfl, rfl⟩) (fun h => by omega)
theorem leave_eff {m m' : Ma} {e : Ev} (hk : e.kind = 12) (h : leaveM m e = some m') : Eff m m' e := by
  unfold leaveM at h
  split at h
  · cases h
  · cases hg : aget m.live e.id with
    | none => rw [hg] at h; cases h
    | some t =>
      rw [hg] at h
      simp only at h
      split at h
      · cases h
      · cases h; exact .del (by omega) t hg rfl rfl (fun h7 => by omega) (fun h5 => by omega)

theorem step_eff {m m' : Ma} {e : Ev} (h : stepM m e = some m') : Eff m m' e := by
  unfold stepM at h
  split at h
  · rename_i hk
    have hk : e.kind = 1 := by simpa using hk
    unfold beginM at h
    split at h
    · cases h
    · cases h; exact .same (by omega) rfl rfl
  · split at h
    · cases h
    · split at h
      · cases h
      · rename_i c _
        split at h
        · cases h
        · generalize (e.call - 1).toNat = i at h
          unfold ruleM at h
          by_cases h4 : e.kind = 4
          · rw [if_pos (by simp [h4])] at h; exact arm_eff h4 h
          rw [if_neg (by simp [h4])] at h
          by_cases h5 : e.kind = 5
          · rw [if_pos (by simp [h5])] at h; exact fire_eff h5 h
          rw [if_neg (by simp [h5])] at h
          by_cases h14 : e.kind = 14
          · rw [if_pos (by simp [h14])] at h; exact over_eff h14 h
          rw [if_neg (by simp [h14])] at h
          by_cases h2 : e.kind = 2
          · rw [if_pos (by simp [h2])] at h
            unfold answerM at h
            split at h
            · cases h
            · cases h; exact .same (by omega) rfl rfl
          rw [if_neg (by simp [h2])] at h
          by_cases h3 : e.kind = 3
          · rw [if_pos (by simp [h3])] at h; exact add_eff h3 h
          rw [if_neg (by simp [h3])] at h
          by_cases h11 : e.kind = 11
          · rw [if_pos (by simp [h11])] at h
            unfold tickM at h
            split at h
            · cases h
            · cases h; exact .same (by omega) rfl rfl
          rw [if_neg (by simp [h11])] at h
          by_cases h6 : e.kind = 6
          · rw [if_pos (by simp [h6])] at h; exact reset_eff h6 h
          rw [if_neg (by simp [h6])] at h
          by_cases h7 : e.kind = 7
          · rw [if_pos (by simp [h7])] at h; exact cancel_eff h7 h
          rw [if_neg (by simp [h7])] at h
          by_cases h8 : e.kind = 8
          · rw [if_pos (by simp [h8])] at h; exact stop_eff h8 h
          rw [if_neg (by simp [h8])] at h
          by_cases h9 : e.kind = 9
          · rw [if_pos (by simp [h9])] at h
            unfold refuseM at h
            split at h
            · cases h; exact .same (by omega) rfl rfl
            · cases h
          rw [if_neg (by simp [h9])] at h
          by_cases h10 : e.kind = 10
          · rw [if_pos (by simp [h10])] at h
            unfold closeM at h
            split at h
            · cases h
            · cases h; exact .same (by omega) rfl rfl
          rw [if_neg (by simp [h10])] at h
          by_cases h12 : e.kind = 12
          · rw [if_pos (by simp [h12])] at h; exact leave_eff h12 h
          rw [if_neg (by simp [h12])] at h
          by_cases h13 : e.kind = 13
          · rw [if_pos (by simp [h13])] at h
            unfold endM at h
            split at h
            · cases h
            · cases h; exact .same (by omega) rfl rfl
          rw [if_neg (by simp [h13])] at h
          cases h

/-- What holds behind the events h. -/
structure Inv (m : Ma) (h : List Ev) : Prop where
  nodup : (m.live.map (·.1)).Nodup
  added : ∀ k, aget m.live k ≠ none → hasK m.added k = true
  seen : ∀ e ∈ h, e.kind = 7 → hasK m.added e.id = true
  gone : ∀ e ∈ h, e.kind = 7 → aget m.live e.id = none
  fired : ∀ e ∈ h, e.kind = 5 → ∀ t, aget m.live e.id = some t → e.gen ≤ t.gen ∧ (e.gen = t.gen → t.btw = true)
  firedA : ∀ e ∈ h, e.kind = 5 → hasK m.added e.id = true
  reset : ∀ e ∈ h, e.kind = 6 → hasK m.added e.id = true ∧ ∀ t, aget m.live e.id = some t → e.gen ≤ t.gen

theorem hasK_put (m : List (Int × Bool)) (k j : Int) (h : hasK m j = true) : hasK (aput m k true) j = true := by
  unfold hasK at *
  rw [aget_put]
  split
  · rfl
  · exact h
theorem hasK_put_self (m : List (Int × Bool)) (k : Int) : hasK (aput m k true) k = true := by unfold hasK; rw [aget_put, if_pos rfl]; rfl

theorem Inv.step {m m' : Ma} {h : List Ev} {e : Ev} (hi : Inv m h) (hs : Eff m m' e) : Inv m' (h ++ [e]) := by
  have split : ∀ {P : Ev → Prop}, (∀ x ∈ h, P x) → P e → ∀ x ∈ h ++ [e], P x := by
    intro P h1 h2 x hx
    rcases List.mem_append.1 hx with hx | hx
    · exact h1 x hx
    · simp at hx; subst hx; exact h2
  cases hs with
  | same hk hl ha =>
    refine ⟨by rw [hl]; exact hi.nodup, by rw [hl, ha]; exact hi.added, split (by rw [ha]; exact hi.seen) (fun h7 => by omega), split (by rw [hl]; exact hi.gone) (fun h7 => by omega), split (by rw [hl]; exact hi.fired) (fun h5 => by omega), split (by rw [ha]; exact hi.firedA) (fun h5 => by omega), split (by rw [hl, ha]; exact hi.reset) (fun h6 => by omega)⟩
  | put hk t t' hg hl ha hgen hr =>
    refine ⟨by rw [hl]; exact aput_nodup hi.nodup _ _, ?_, split (by rw [ha]; exact hi.seen) (fun h7 => by omega), split ?_ (fun h7 => by omega), split ?_ (fun h5 => by omega), split (by rw [ha]; exact hi.firedA) (fun h5 => by omega), split ?_ (fun h6 => ⟨by rw [ha]; exact hi.added _ (by rw [hg]; simp), fun u hu => by rw [hl, aget_put, if_pos rfl] at hu; cases hu; rw [hr h6]; exact Int.le_refl _⟩)⟩
    · intro k hne
      rw [ha]
      rw [hl, aget_put] at hne
      by_cases hk : k = e.id
      · subst hk; exact hi.added _ (by rw [hg]; simp)
      · rw [if_neg hk] at hne; exact hi.added k hne
    · intro x hx h7
      rw [hl, aget_put]
      have h0 := hi.gone x hx h7
      by_cases hk : x.id = e.id
      · rw [hk, hg] at h0; cases h0
      · rw [if_neg hk]; exact h0
    · intro x hx h5 u hu
      rw [hl, aget_put] at hu
      by_cases hk : x.id = e.id
      · rw [if_pos hk] at hu
        cases hu
        have h0 := hi.fired x hx h5 t (hk ▸ hg)
        rcases hgen with hgen | ⟨h1, h2⟩
        · exact ⟨by omega, fun he => by omega⟩
        · exact ⟨by omega, fun he => by rw [h2]; exact h0.2 (by omega)⟩
      · rw [if_neg hk] at hu; exact hi.fired x hx h5 u hu
    · intro x hx h6
      refine ⟨by rw [ha]; exact (hi.reset x hx h6).1, fun u hu => ?_⟩
      rw [hl, aget_put] at hu
      by_cases hk : x.id = e.id
      · rw [if_pos hk] at hu
        cases hu
        have h0 := (hi.reset x hx h6).2 t (hk ▸ hg)
        rcases hgen with hgen | ⟨h1, h2⟩ <;> omega
      · rw [if_neg hk] at hu; exact (hi.reset x hx h6).2 u hu
  | fire hk t hg hgen hb hl ha htk =>
    refine ⟨by rw [hl]; exact aput_nodup hi.nodup _ _, ?_, split (by rw [ha]; exact hi.seen) (fun h7 => by omega), split ?_ (fun h7 => by omega), split ?_ ?_, split (by rw [ha]; exact hi.firedA) (fun _ => by rw [ha]; exact hi.added _ (by rw [hg]; simp)), split ?_ (fun h6 => by omega)⟩
    · intro k hne
      rw [ha]
      rw [hl, aget_put] at hne
      by_cases hk : k = e.id
      · subst hk; exact hi.added _ (by rw [hg]; simp)
      · rw [if_neg hk] at hne; exact hi.added k hne
    · intro x hx h7
      rw [hl, aget_put]
      have h0 := hi.gone x hx h7
      by_cases hk : x.id = e.id
      · rw [hk, hg] at h0; cases h0
      · rw [if_neg hk]; exact h0
    · intro x hx h5 u hu
      rw [hl, aget_put] at hu
      by_cases hk : x.id = e.id
      · rw [if_pos hk] at hu
        cases hu
        have h0 := hi.fired x hx h5 t (hk ▸ hg)
        exact ⟨h0.1, fun _ => rfl⟩
      · rw [if_neg hk] at hu; exact hi.fired x hx h5 u hu
    · intro _ u hu
      rw [hl, aget_put, if_pos rfl] at hu
      cases hu
      exact ⟨by rw [hgen]; exact Int.le_refl _, fun _ => rfl⟩
    · intro x hx h6
      refine ⟨by rw [ha]; exact (hi.reset x hx h6).1, fun u hu => ?_⟩
      rw [hl, aget_put] at hu
      by_cases hk : x.id = e.id
      · rw [if_pos hk] at hu
        cases hu
        exact (hi.reset x hx h6).2 t (hk ▸ hg)
      · rw [if_neg hk] at hu; exact (hi.reset x hx h6).2 u hu
  | del hk t hg hl ha hgen h5' =>
    have hd : ∀ k, aget (adel m.live e.id) k = if k = e.id then none else aget m.live k := aget_del hi.nodup e.id
    refine ⟨by rw [hl]; exact adel_nodup hi.nodup _, ?_, split (by rw [ha]; exact hi.seen) (fun _ => by rw [ha]; exact hi.added _ (by rw [hg]; simp)), split ?_ ?_, split ?_ ?_, split (by rw [ha]; exact hi.firedA) (fun _ => by rw [ha]; exact hi.added _ (by rw [hg]; simp)), split ?_ (fun h6 => by omega)⟩
    · intro k hne
      rw [ha]
      rw [hl, hd] at hne
      by_cases hk : k = e.id
      · rw [if_pos hk] at hne; exact absurd rfl hne
      · rw [if_neg hk] at hne; exact hi.added k hne
    · intro x hx h7
      rw [hl, hd]
      split
      · rfl
      · exact hi.gone x hx h7
    · intro _; rw [hl, hd, if_pos rfl]
    · intro x hx h5 u hu
      rw [hl, hd] at hu
      by_cases hk : x.id = e.id
      · rw [if_pos hk] at hu; cases hu
      · rw [if_neg hk] at hu; exact hi.fired x hx h5 u hu
    · intro _ u hu; rw [hl, hd, if_pos rfl] at hu; cases hu
    · intro x hx h6
      refine ⟨by rw [ha]; exact (hi.reset x hx h6).1, fun u hu => ?_⟩
      rw [hl, hd] at hu
      by_cases hk : x.id = e.id
      · rw [if_pos hk] at hu; cases hu
      · rw [if_neg hk] at hu; exact (hi.reset x hx h6).2 u hu
  | add hk t hno hl ha =>
    refine ⟨by rw [hl]; exact aput_nodup hi.nodup _ _, ?_, split (fun x hx h7 => by rw [ha]; exact hasK_put _ _ _ (hi.seen x hx h7)) (fun h7 => by omega), split ?_ (fun h7 => by omega), split ?_ (fun h5 => by omega), split (fun x hx h5 => by rw [ha]; exact hasK_put _ _ _ (hi.firedA x hx h5)) (fun h5 => by omega), split ?_ (fun h6 => by omega)⟩
    · intro k hne
      rw [ha]
      rw [hl, aget_put] at hne
      by_cases hk : k = e.id
      · subst hk; exact hasK_put_self _ _
      · rw [if_neg hk] at hne; exact hasK_put _ _ _ (hi.added k hne)
    · intro x hx h7
      rw [hl, aget_put]
      by_cases hk : x.id = e.id
      · have := hi.seen x hx h7; rw [hk, hno] at this; cases this
      · rw [if_neg hk]; exact hi.gone x hx h7
    · intro x hx h5 u hu
      rw [hl, aget_put] at hu
      by_cases hk : x.id = e.id
      · have := hi.firedA x hx h5; rw [hk, hno] at this; cases this
      · rw [if_neg hk] at hu; exact hi.fired x hx h5 u hu
    · intro x hx h6
      refine ⟨by rw [ha]; exact hasK_put _ _ _ (hi.reset x hx h6).1, fun u hu => ?_⟩
      rw [hl, aget_put] at hu
      by_cases hk : x.id = e.id
      · have := (hi.reset x hx h6).1; rw [hk, hno] at this; cases this
      · rw [if_neg hk] at hu; exact (hi.reset x hx h6).2 u hu

theorem Inv.start (n : Int) : Inv (new n) [] := ⟨by simp [new], by simp [new, aget], by simp, by simp, by simp, by simp, by simp⟩

/-- All of the events come. -/
def All (m : Ma) (l : List Ev) : Prop := (playM m l).2 = l.length
theorem all_cons {m : Ma} {e : Ev} {l : List Ev} (h : All m (e :: l)) : ∃ m', stepM m e = some m' ∧ All m' l := by
  unfold All at *
  unfold playM at h
  cases hs : stepM m e with
  | none => rw [hs] at h; simp at h
  | some m' => rw [hs] at h; exact ⟨m', rfl, by simpa using h⟩
theorem all_at {m : Ma} {h l : List Ev} (hi : Inv m h) (ha : All m l) : ∀ j e, l[j]? = some e → ∃ m1 m2, Inv m1 (h ++ l.take j) ∧ stepM m1 e = some m2 := by
  induction l generalizing m h with
  | nil => intro j e hj; simp at hj
  | cons x l ih =>
    obtain ⟨m', hs, ha'⟩ := all_cons ha
    intro j e hj
    cases j with
    | zero => simp at hj; subst hj; exact ⟨m, m', by simpa using hi, hs⟩
    | succ j =>
      obtain ⟨m1, m2, h1, h2⟩ := ih (hi.step (step_eff hs)) ha' j e (by simpa using hj)
      exact ⟨m1, m2, by simpa using h1, h2⟩

/-- Behind a cancel. -/
theorem cancel_law {n : Int} {l : List Ev} (ha : All (new n) l) {i k : Nat} {a b : Ev} (hi : l[i]? = some a) (hk : l[k]? = some b) (h7 : a.kind = 7) (hid : b.id = a.id) :
    (i < k → b.kind ≠ 3 ∧ b.kind ≠ 4 ∧ b.kind ≠ 5 ∧ b.kind ≠ 6 ∧ b.kind ≠ 7 ∧ b.kind ≠ 8 ∧ b.kind ≠ 12 ∧ b.kind ≠ 14) ∧ (b.kind = 5 → b.gen < a.gen) := by
  have key : i < k → b.kind ≠ 3 ∧ b.kind ≠ 4 ∧ b.kind ≠ 5 ∧ b.kind ≠ 6 ∧ b.kind ≠ 7 ∧ b.kind ≠ 8 ∧ b.kind ≠ 12 ∧ b.kind ≠ 14 := by
    intro hlt
    obtain ⟨m1, m2, hv, hs⟩ := all_at (Inv.start n) ha k b hk
    have hmem : a ∈ [] ++ l.take k := by
      rw [List.nil_append]
      exact List.mem_of_getElem? (i := i) (by rw [List.getElem?_take, if_pos hlt]; exact hi)
    have hg := hv.gone a hmem h7
    have hsn := hv.seen a hmem h7
    rw [← hid] at hg hsn
    cases step_eff hs with
    | same hk => omega
    | put hk t t' hg' => rw [hg] at hg'; cases hg'
    | fire hk t hg' => rw [hg] at hg'; cases hg'
    | del hk t hg' => rw [hg] at hg'; cases hg'
    | add hk t hno => rw [hsn] at hno; cases hno
  refine ⟨key, fun h5 => ?_⟩
  have hne : i ≠ k := by rintro rfl; rw [hi] at hk; cases hk; omega
  rcases Nat.lt_or_gt_of_ne hne with hlt | hlt
  · exact absurd h5 (key hlt).2.2.1
  · obtain ⟨m1, m2, hv, hs⟩ := all_at (Inv.start n) ha i a hi
    have hmem : b ∈ [] ++ l.take i := by
      rw [List.nil_append]
      exact List.mem_of_getElem? (i := k) (by rw [List.getElem?_take, if_pos hlt]; exact hk)
    cases step_eff hs with
    | same hk => omega
    | put hk => omega
    | fire hk => omega
    | add hk => omega
    | del hk t hg _ _ hgen _ =>
      have h0 := hv.fired b hmem h5 t (hid ▸ hg)
      have h1 := hgen h7
      cases hb : t.btw with
      | true => rw [hb] at h1; simp at h1; omega
      | false =>
        rw [hb] at h1
        simp at h1
        have : b.gen ≠ t.gen := fun he => by have := h0.2 he; rw [hb] at this; cases this
        omega

/-- A firing: it comes at its deadline; whoever fired, or was reset, ahead of it has a smaller generation, or one that is not greater. -/
theorem fires_law {n : Int} {l : List Ev} (ha : All (new n) l) {k : Nat} {b : Ev} (hk : l[k]? = some b) (h5 : b.kind = 5) :
    b.tk = b.dl ∧ ∀ i a, i < k → l[i]? = some a → a.id = b.id → (a.kind = 5 → a.gen < b.gen) ∧ (a.kind = 6 → a.gen ≤ b.gen) := by
  obtain ⟨m1, m2, hv, hs⟩ := all_at (Inv.start n) ha k b hk
  have fin : ∀ t, aget m1.live b.id = some t → b.gen = t.gen → t.btw = false → ∀ i a, i < k → l[i]? = some a → a.id = b.id → (a.kind = 5 → a.gen < b.gen) ∧ (a.kind = 6 → a.gen ≤ b.gen) := by
    intro t hg hgen hb i a hlt hi hid
    have hmem : a ∈ [] ++ l.take k := by
      rw [List.nil_append]
      exact List.mem_of_getElem? (i := i) (by rw [List.getElem?_take, if_pos hlt]; exact hi)
    refine ⟨fun h => ?_, fun h => ?_⟩
    · have h0 := hv.fired a hmem h t (hid ▸ hg)
      have : a.gen ≠ t.gen := fun he => by have := h0.2 he; rw [hb] at this; cases this
      omega
    · have h0 := (hv.reset a hmem h).2 t (hid ▸ hg)
      omega
  cases step_eff hs with
  | same hk => omega
  | put hk => omega
  | add hk => omega
  | fire hk t hg hgen hb _ _ htk => exact ⟨htk, fin t hg hgen hb⟩
  | del hk t hg _ _ _ h5' => exact ⟨(h5' h5).2.2, fin t hg (h5' h5).1 (h5' h5).2.1⟩
end Go.Proofs.Ytpnkkdpggofanaa
