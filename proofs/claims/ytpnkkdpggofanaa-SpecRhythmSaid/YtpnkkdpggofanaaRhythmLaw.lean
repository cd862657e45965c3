/- spec: the firings of a timer are its period apart; one behind a stop. No program in sight. -/
import Derived.Test.YtpnkkdpggofanaaCancelLaw
namespace Go.Proofs.Ytpnkkdpggofanaa

/-- What a step does to the timer of its event, in full. -/
inductive Act2 (m m' : Ma) (e : Ev) : Prop
  | none (hk : e.kind ≠ 3 ∧ e.kind ≠ 5 ∧ e.kind ≠ 6 ∧ e.kind ≠ 8) (hl : ∀ k, aget m'.live k = aget m.live k)
  | rearm (hk : e.kind = 4) (t : Tm) (hg : aget m.live e.id = some t) (hb : t.btw = true) (hf : fitsB t.dl t.per = true) (hl : m'.live = aput m.live e.id { t with gen := t.gen + 1, dl := t.dl + t.per, armed := true, btw := false })
  | arm (hk : e.kind = 4) (t : Tm) (hg : aget m.live e.id = some t) (hb : t.btw = false) (ha : t.armed = false) (hl : m'.live = aput m.live e.id { t with dl := max t.dl m.now, armed := true, btw := false })
  | reset (hk : e.kind = 6) (t : Tm) (hg : aget m.live e.id = some t) (hl : m'.live = aput m.live e.id { t with gen := e.gen, dl := e.dl, armed := false, btw := false })
  | last (hk : e.kind = 8) (t : Tm) (hg : aget m.live e.id = some t) (hb : t.btw = false) (hl : m'.live = aput m.live e.id { t with last := true })
  | fire (hk : e.kind = 5) (t : Tm) (hg : aget m.live e.id = some t) (hgen : e.gen = t.gen) (hd : e.dl = t.dl) (hb : t.btw = false) (ha : t.armed = true) (hp : 0 < t.per) (hla : t.last = false) (hl : m'.live = aput m.live e.id { t with btw := true })
  | out (hk : e.kind = 5) (t : Tm) (hg : aget m.live e.id = some t) (hgen : e.gen = t.gen) (hd : e.dl = t.dl) (hb : t.btw = false) (ha : t.armed = true) (hp : t.per ≤ 0 ∨ t.last = true) (hl : m'.live = adel m.live e.id)
  | del (hk : e.kind ≠ 3 ∧ e.kind ≠ 5 ∧ e.kind ≠ 6) (hl : m'.live = adel m.live e.id)
  | add (hk : e.kind = 3) (hno : hasK m.added e.id = false) (hl : m'.live = aput m.live e.id ⟨e.gen, e.dl, e.per, false, false, false⟩)

theorem arm_act {m m' : Ma} {c : Cl} {e : Ev} (hk : e.kind = 4) (h : armM m c e = some m') : Act2 m m' e := by
  unfold armM at h
  cases hg : aget m.live e.id with
  | none => rw [hg] at h; cases h
  | some t =>
    rw [hg] at h
    simp only at h
    split at h
    · cases h
    · split at h
      · rename_i hb
        split at h
        · cases h
        · rename_i hc
          simp only [Bool.or_eq_true, not_or, Bool.not_eq_true, Bool.not_eq_eq_eq_not, Bool.not_true] at hc
          cases h; exact .rearm hk t hg hb (by simpa using hc.1.1.1) rfl
      · rename_i hb
        split at h
        · cases h
        · rename_i hc
          simp only [Bool.or_eq_true, not_or, Bool.not_eq_true] at hc
          cases h; exact .arm hk t hg (by simpa using hb) hc.1.1 rfl
theorem fire_act {m m' : Ma} {c : Cl} {e : Ev} (hk : e.kind = 5) (h : fireM m c e = some m') : Act2 m m' e := by
  unfold fireM at h
  cases hg : aget m.live e.id with
  | none => rw [hg] at h; cases h
  | some t =>
    rw [hg] at h
    simp only at h
    split at h
    · cases h
    · rename_i hc
      simp only [Bool.or_eq_true, not_or, bne_iff_ne, ne_eq, Decidable.not_not, Bool.not_eq_true, Bool.not_eq_eq_eq_not, Bool.not_true] at hc
      split at h
      · rename_i hp
        simp only [Bool.and_eq_true, decide_eq_true_eq, Bool.not_eq_eq_eq_not, Bool.not_true] at hp
        cases h; exact .fire hk t hg (by simp [hc]) (by simp [hc]) (by simp [hc]) (by simp [hc]) hp.1 hp.2 rfl
      · rename_i hp
        cases h
        refine .out hk t hg (by simp [hc]) (by simp [hc]) (by simp [hc]) (by simp [hc]) ?_ rfl
        by_cases h0 : 0 < t.per
        · right
          cases hla : t.last with
          | true => rfl
          | false => exact absurd (by simp [h0, hla]) hp
        · left; omega
theorem reset_act {m m' : Ma} {i : Nat} {c : Cl} {e : Ev} (hk : e.kind = 6) (h : resetM m i c e = some m') : Act2 m m' e := by
  unfold resetM at h
  cases hg : aget m.live e.id with
  | none => rw [hg] at h; cases h
  | some t =>
    rw [hg] at h
    simp only at h
    split at h
    · cases h
    · cases h; exact .reset hk t hg rfl
theorem stop_act {m m' : Ma} {i : Nat} {c : Cl} {e : Ev} (hk : e.kind = 8) (h : stopM m i c e = some m') : Act2 m m' e := by
  unfold stopM at h
  cases hg : aget m.live e.id with
  | none => rw [hg] at h; cases h
  | some t =>
    rw [hg] at h
    simp only at h
    split at h
    · cases h
    · split at h
      · cases h; exact .del (by omega) rfl
      · rename_i hb
        cases h; exact .last hk t hg (by simpa using hb) rfl
theorem add_act {m m' : Ma} {i : Nat} {c : Cl} {e : Ev} (hk : e.kind = 3) (h : addM m i c e = some m') : Act2 m m' e := by
  unfold addM at h
  generalize (if c.bg.what == 2 then c.bg.per else 0) = pp at h
  split at h
  · cases h
  · rename_i hc
    split at h
    · cases h
    · split at h
      · cases h
      · cases h
        refine .add hk ?_ rfl
        simp only [Bool.or_eq_true, not_or, Bool.not_eq_true] at hc
        exact hc.1.2
theorem step_act {m m' : Ma} {e : Ev} (h : stepM m e = some m') : Act2 m m' e := by
  unfold stepM at h
  split at h
  · rename_i hk
    have hk : e.kind = 1 := by simpa using hk
    unfold beginM at h
    split at h
    · cases h
    · cases h; exact .none (by omega) (fun _ => rfl)
  · split at h
    · cases h
    · split at h
      · cases h
      · rename_i c _
        split at h
        · cases h
        · generalize (e.call - 1).toNat = i at h
          unfold ruleM at h
          by_cases h4 : e.kind = 4
          · rw [if_pos (by simp [h4])] at h; exact arm_act h4 h
          rw [if_neg (by simp [h4])] at h
          by_cases h5 : e.kind = 5
          · rw [if_pos (by simp [h5])] at h; exact fire_act h5 h
          rw [if_neg (by simp [h5])] at h
          by_cases h14 : e.kind = 14
          · rw [if_pos (by simp [h14])] at h
            unfold overM at h
            split at h
            · cases h
            · split at h
              · cases h
              · cases h; exact .del (by omega) rfl
          rw [if_neg (by simp [h14])] at h
          by_cases h2 : e.kind = 2
          · rw [if_pos (by simp [h2])] at h
            unfold answerM at h
            split at h
            · cases h
            · cases h; exact .none (by omega) (fun _ => rfl)
          rw [if_neg (by simp [h2])] at h
          by_cases h3 : e.kind = 3
          · rw [if_pos (by simp [h3])] at h; exact add_act h3 h
          rw [if_neg (by simp [h3])] at h
          by_cases h11 : e.kind = 11
          · rw [if_pos (by simp [h11])] at h
            unfold tickM at h
            split at h
            · cases h
            · cases h; exact .none (by omega) (fun _ => rfl)
          rw [if_neg (by simp [h11])] at h
          by_cases h6 : e.kind = 6
          · rw [if_pos (by simp [h6])] at h; exact reset_act h6 h
          rw [if_neg (by simp [h6])] at h
          by_cases h7 : e.kind = 7
          · rw [if_pos (by simp [h7])] at h
            unfold cancelM at h
            cases hg : aget m.live e.id with
            | none => rw [hg] at h; cases h
            | some t =>
              rw [hg] at h
              simp only at h
              generalize hq : (if t.btw then t.gen + 1 else t.gen) = gg at h
              split at h
              · cases h
              · cases h; exact .del (by omega) rfl
          rw [if_neg (by simp [h7])] at h
          by_cases h8 : e.kind = 8
          · rw [if_pos (by simp [h8])] at h; exact stop_act h8 h
          rw [if_neg (by simp [h8])] at h
          by_cases h9 : e.kind = 9
          · rw [if_pos (by simp [h9])] at h
            unfold refuseM at h
            split at h
            · cases h; exact .none (by omega) (fun _ => rfl)
            · cases h
          rw [if_neg (by simp [h9])] at h
          by_cases h10 : e.kind = 10
          · rw [if_pos (by simp [h10])] at h
            unfold closeM at h
            split at h
            · cases h
            · cases h; exact .none (by omega) (fun _ => rfl)
          rw [if_neg (by simp [h10])] at h
          by_cases h12 : e.kind = 12
          · rw [if_pos (by simp [h12])] at h
            unfold leaveM at h
            split at h
            · cases h
            · split at h
              · cases h
              · split at h
                · cases h
                · cases h; exact .del (by omega) rfl
          rw [if_neg (by simp [h12])] at h
          by_cases h13 : e.kind = 13
          · rw [if_pos (by simp [h13])] at h
            unfold endM at h
            split at h
            · cases h
            · cases h; exact .none (by omega) (fun _ => rfl)
          rw [if_neg (by simp [h13])] at h
          cases h

/-- The firings of a timer. -/
def ownE (x : Int) (h : List Ev) : List Ev := h.filter fun e => e.id == x && e.kind == 5
def rstE (x : Int) (h : List Ev) : Bool := h.any fun e => e.id == x && e.kind == 6
def behF (x : Int) (s : Bool × Nat) (e : Ev) : Bool × Nat := if e.id == x then (if e.kind == 8 then (true, s.2) else if e.kind == 5 && s.1 then (s.1, s.2 + 1) else s) else s
def behE (x : Int) (h : List Ev) : Bool × Nat := h.foldl (behF x) (false, 0)
theorem ownE_snoc (x : Int) (h : List Ev) (e : Ev) : ownE x (h ++ [e]) = ownE x h ++ if e.id == x && e.kind == 5 then [e] else [] := by
  unfold ownE; rw [List.filter_append]; congr 1
  cases hh : (e.id == x && e.kind == 5) <;> simp [hh]
theorem rstE_snoc (x : Int) (h : List Ev) (e : Ev) : rstE x (h ++ [e]) = (rstE x h || (e.id == x && e.kind == 6)) := by unfold rstE; simp
theorem behE_snoc (x : Int) (h : List Ev) (e : Ev) : behE x (h ++ [e]) = behF x (behE x h) e := by unfold behE; simp

/-- A period apart, and each a generation behind the one ahead. -/
def ChainE (p : Int) (o : List Ev) : Prop := ∀ (j : Nat) (a b : Ev), o[j]? = some a → o[j + 1]? = some b → b.dl = a.dl + p ∧ b.dl ≤ 18446744073709551615 ∧ b.gen = a.gen + 1
theorem ChainE.snoc {p : Int} {o : List Ev} {e : Ev} (h : ChainE p o) (hl : ∀ f, o.getLast? = some f → e.dl = f.dl + p ∧ e.dl ≤ 18446744073709551615 ∧ e.gen = f.gen + 1) : ChainE p (o ++ [e]) := by
  intro j a b ha hb
  have hj : j + 1 < (o ++ [e]).length := (List.getElem?_eq_some_iff.1 hb).1
  rw [List.length_append, List.length_singleton] at hj
  rw [List.getElem?_append_left (by omega)] at ha
  by_cases hlt : j + 1 < o.length
  · rw [List.getElem?_append_left hlt] at hb
    exact h j a b ha hb
  · have he : j + 1 = o.length := by omega
    rw [List.getElem?_append_right (by omega), he, Nat.sub_self] at hb
    simp at hb
    subst hb
    refine hl a ?_
    rw [List.getLast?_eq_getElem?, show o.length - 1 = j by omega]
    exact ha

structure Rh (x : Int) (m : Ma) (h : List Ev) : Prop where
  adds : ∀ e ∈ h, e.id = x → (e.kind = 3 ∨ e.kind = 5 ∨ e.kind = 8) → hasK m.added x = true
  per : ∀ a ∈ h, a.id = x → a.kind = 3 → ∀ t, aget m.live x = some t → t.per = a.per
  zero : ∀ a ∈ h, a.id = x → a.kind = 3 → a.per = 0 → (ownE x h).length ≤ 1 ∧ (∀ t, aget m.live x = some t → ownE x h = [])
  stop : ∀ t, aget m.live x = some t → ((behE x h).1 = true → t.last = true) ∧ (behE x h).2 = 0
  beh1 : (behE x h).2 ≤ 1
  chain : rstE x h = false → ∀ a ∈ h, a.id = x → a.kind = 3 → ChainE a.per (ownE x h)
  lastf : rstE x h = false → ∀ t f, aget m.live x = some t → (ownE x h).getLast? = some f → (t.btw = true → t.gen = f.gen ∧ t.dl = f.dl) ∧ (t.btw = false → t.armed = true ∧ t.gen = f.gen + 1 ∧ t.dl = f.dl + t.per ∧ t.dl ≤ 18446744073709551615)
  fresh : hasK m.added x = false → ownE x h = [] ∧ behE x h = (false, 0)

theorem added_mono {m m' : Ma} {e : Ev} (hs : Eff m m' e) (k : Int) (h : hasK m.added k = true) : hasK m'.added k = true := by
  cases hs with
  | same _ _ ha => rw [ha]; exact h
  | put _ _ _ _ _ ha => rw [ha]; exact h
  | fire _ _ _ _ _ _ ha => rw [ha]; exact h
  | del _ _ _ _ ha => rw [ha]; exact h
  | add _ _ _ _ ha => rw [ha]; exact hasK_put _ _ _ h
theorem added_back {m m' : Ma} {e : Ev} (hs : Eff m m' e) (k : Int) (h : hasK m'.added k = false) : hasK m.added k = false := by
  cases hh : hasK m.added k with
  | false => rfl
  | true => rw [added_mono hs k hh] at h; cases h
theorem added_now {m m' : Ma} {h : List Ev} {e : Ev} (hi : Inv m h) (hs : Eff m m' e) (hk : e.kind = 3 ∨ e.kind = 5 ∨ e.kind = 8) : hasK m'.added e.id = true := by
  cases hs with
  | same hk' => omega
  | put hk' t t' hg hl ha => rw [ha]; exact hi.added _ (by rw [hg]; simp)
  | fire hk' t hg _ _ _ ha => rw [ha]; exact hi.added _ (by rw [hg]; simp)
  | del hk' t hg _ ha => rw [ha]; exact hi.added _ (by rw [hg]; simp)
  | add hk' t hno hl ha => rw [ha]; exact hasK_put_self _ _

theorem live_other {m m' : Ma} {h : List Ev} {e : Ev} (hi : Inv m h) (hs : Act2 m m' e) (x : Int) (hx : x ≠ e.id) : aget m'.live x = aget m.live x := by
  have hd : aget (adel m.live e.id) x = aget m.live x := by rw [aget_del hi.nodup, if_neg hx]
  cases hs with
  | none _ hl => exact hl x
  | rearm _ _ _ _ _ hl => rw [hl, aget_put, if_neg hx]
  | arm _ _ _ _ _ hl => rw [hl, aget_put, if_neg hx]
  | reset _ _ _ hl => rw [hl, aget_put, if_neg hx]
  | last _ _ _ _ hl => rw [hl, aget_put, if_neg hx]
  | fire _ _ _ _ _ _ _ _ _ hl => rw [hl, aget_put, if_neg hx]
  | out _ _ _ _ _ _ _ _ hl => rw [hl, hd]
  | del _ hl => rw [hl, hd]
  | add _ _ hl => rw [hl, aget_put, if_neg hx]

theorem Rh.step {x : Int} {m m' : Ma} {h : List Ev} {e : Ev} (hr : Rh x m h) (hi : Inv m h) (h1 : Eff m m' e) (h2 : Act2 m m' e) : Rh x m' (h ++ [e]) := by
  have split : ∀ {P : Ev → Prop}, (∀ y ∈ h, P y) → P e → ∀ y ∈ h ++ [e], P y := by
    intro P q1 q2 y hy
    rcases List.mem_append.1 hy with hy | hy
    · exact q1 y hy
    · simp at hy; subst hy; exact q2
  have hadds : ∀ y ∈ h ++ [e], y.id = x → (y.kind = 3 ∨ y.kind = 5 ∨ y.kind = 8) → hasK m'.added x = true :=
    split (fun y hy hx hk => added_mono h1 x (hr.adds y hy hx hk)) (fun hx hk => hx ▸ added_now hi h1 hk)
  by_cases hx : e.id = x
  · -- the timer's own event
    have hxb : (e.id == x) = true := by simp [hx]
    have hno3 : e.kind ≠ 3 → hasK m'.added x = false → hasK m.added x = false := fun _ hh => added_back h1 x hh
    -- a step that leaves the firings, the stops and the resets as they are
    have same : e.kind ≠ 3 → e.kind ≠ 5 → e.kind ≠ 6 → e.kind ≠ 8 → ownE x (h ++ [e]) = ownE x h ∧ rstE x (h ++ [e]) = rstE x h ∧ behE x (h ++ [e]) = behE x h := by
      intro _ k5 k6 k8
      refine ⟨by rw [ownE_snoc]; simp [k5], by rw [rstE_snoc]; simp [k6], by rw [behE_snoc]; unfold behF; simp [k5, k8]⟩
    have noadd : ∀ {P : Ev → Prop}, e.kind ≠ 3 → (∀ a ∈ h, a.id = x → a.kind = 3 → P a) → ∀ a ∈ h ++ [e], a.id = x → a.kind = 3 → P a :=
      fun hk hh => split hh (fun _ h3 => absurd h3 hk)
    cases h2 with
    | none hk hl =>
      have hlx := hl x
      have ho : ownE x (h ++ [e]) = ownE x h := by rw [ownE_snoc]; simp [hk.2.1]
      have hrs : rstE x (h ++ [e]) = rstE x h := by rw [rstE_snoc]; simp [hk.2.2.1]
      have hbe : behE x (h ++ [e]) = behE x h := by rw [behE_snoc]; unfold behF; simp [hk.2.1, hk.2.2.2]
      refine ⟨hadds, noadd hk.1 (by rw [hlx]; exact hr.per), noadd hk.1 (by rw [hlx, ho]; exact hr.zero), by rw [hlx, hbe]; exact hr.stop, by rw [hbe]; exact hr.beh1, by rw [hrs, ho]; exact fun q => noadd hk.1 (hr.chain q), by rw [hrs, ho, hlx]; exact hr.lastf, by rw [ho, hbe]; exact fun q => hr.fresh (added_back h1 x q)⟩
    | rearm hk t hg hb hf hl =>
      obtain ⟨ho, hrs, hbe⟩ := same (by omega) (by omega) (by omega) (by omega)
      rw [hx] at hg hl
      have hlx : aget m'.live x = some { t with gen := t.gen + 1, dl := t.dl + t.per, armed := true, btw := false } := by rw [hl, aget_put, if_pos rfl]
      have k3 : e.kind ≠ 3 := by omega
      refine ⟨hadds, noadd k3 (fun a ha hi3 h3 u hu => by rw [hlx] at hu; cases hu; exact hr.per a ha hi3 h3 t hg), noadd k3 (fun a ha hi3 h3 h0 => by rw [ho]; exact ⟨(hr.zero a ha hi3 h3 h0).1, fun u _ => (hr.zero a ha hi3 h3 h0).2 t hg⟩),
        fun u hu => by rw [hlx] at hu; cases hu; rw [hbe]; exact hr.stop t hg, by rw [hbe]; exact hr.beh1, by rw [hrs, ho]; exact fun q => noadd k3 (hr.chain q), ?_, by rw [ho, hbe]; exact fun q => hr.fresh (added_back h1 x q)⟩
      intro q u f hu hf'
      rw [hrs] at q
      rw [ho] at hf'
      rw [hlx] at hu
      cases hu
      have h0 := (hr.lastf q t f hg hf').1 hb
      refine ⟨fun h => (by cases h), fun _ => ⟨rfl, by show t.gen + 1 = _; omega, by show t.dl + t.per = f.dl + t.per; omega, ?_⟩⟩
      show t.dl + t.per ≤ _
      simpa [fitsB] using hf
    | arm hk t hg hb ha hl =>
      obtain ⟨ho, hrs, hbe⟩ := same (by omega) (by omega) (by omega) (by omega)
      rw [hx] at hg hl
      have hlx : aget m'.live x = some { t with dl := max t.dl m.now, armed := true, btw := false } := by rw [hl, aget_put, if_pos rfl]
      have k3 : e.kind ≠ 3 := by omega
      refine ⟨hadds, noadd k3 (fun a ha hi3 h3 u hu => by rw [hlx] at hu; cases hu; exact hr.per a ha hi3 h3 t hg), noadd k3 (fun a ha hi3 h3 h0 => by rw [ho]; exact ⟨(hr.zero a ha hi3 h3 h0).1, fun u _ => (hr.zero a ha hi3 h3 h0).2 t hg⟩),
        fun u hu => by rw [hlx] at hu; cases hu; rw [hbe]; exact hr.stop t hg, by rw [hbe]; exact hr.beh1, by rw [hrs, ho]; exact fun q => noadd k3 (hr.chain q), ?_, by rw [ho, hbe]; exact fun q => hr.fresh (added_back h1 x q)⟩
      intro q u f hu hf'
      rw [hrs] at q
      rw [ho] at hf'
      have h0 := (hr.lastf q t f hg hf').2 hb
      rw [ha] at h0
      cases h0.1
    | reset hk t hg hl =>
      rw [hx] at hg hl
      have ho : ownE x (h ++ [e]) = ownE x h := by rw [ownE_snoc]; simp [hk]
      have hrs : rstE x (h ++ [e]) = true := by rw [rstE_snoc]; simp [hk, hx]
      have hbe : behE x (h ++ [e]) = behE x h := by rw [behE_snoc]; unfold behF; simp [hk]
      have hlx : aget m'.live x = some { t with gen := e.gen, dl := e.dl, armed := false, btw := false } := by rw [hl, aget_put, if_pos rfl]
      have k3 : e.kind ≠ 3 := by omega
      exact ⟨hadds, noadd k3 (fun a ha hi3 h3 u hu => by rw [hlx] at hu; cases hu; exact hr.per a ha hi3 h3 t hg), noadd k3 (fun a ha hi3 h3 h0 => by rw [ho]; exact ⟨(hr.zero a ha hi3 h3 h0).1, fun u _ => (hr.zero a ha hi3 h3 h0).2 t hg⟩),
        fun u hu => by rw [hlx] at hu; cases hu; rw [hbe]; exact hr.stop t hg, by rw [hbe]; exact hr.beh1, (by rw [hrs]; intro q; cases q), (by rw [hrs]; intro q; cases q), by rw [ho, hbe]; exact fun q => hr.fresh (added_back h1 x q)⟩
    | last hk t hg hb hl =>
      rw [hx] at hg hl
      have ho : ownE x (h ++ [e]) = ownE x h := by rw [ownE_snoc]; simp [hk]
      have hrs : rstE x (h ++ [e]) = rstE x h := by rw [rstE_snoc]; simp [hk]
      have hbe : behE x (h ++ [e]) = (true, (behE x h).2) := by rw [behE_snoc]; unfold behF; simp [hk, hx]
      have hlx : aget m'.live x = some { t with last := true } := by rw [hl, aget_put, if_pos rfl]
      have k3 : e.kind ≠ 3 := by omega
      refine ⟨hadds, noadd k3 (fun a ha hi3 h3 u hu => by rw [hlx] at hu; cases hu; exact hr.per a ha hi3 h3 t hg), noadd k3 (fun a ha hi3 h3 h0 => by rw [ho]; exact ⟨(hr.zero a ha hi3 h3 h0).1, fun u _ => (hr.zero a ha hi3 h3 h0).2 t hg⟩),
        fun u hu => by rw [hlx] at hu; cases hu; rw [hbe]; exact ⟨fun _ => rfl, (hr.stop t hg).2⟩, by rw [hbe]; exact hr.beh1, by rw [hrs, ho]; exact fun q => noadd k3 (hr.chain q), ?_, fun q => ?_⟩
      · intro q u f hu hf'
        rw [hrs] at q
        rw [ho] at hf'
        rw [hlx] at hu
        cases hu
        exact hr.lastf q t f hg hf'
      · have := hi.added x (by rw [hg]; simp)
        rw [added_back h1 x q] at this; cases this
    | fire hk t hg hgen hd hb ha hp hla hl =>
      rw [hx] at hg hl
      have ho : ownE x (h ++ [e]) = ownE x h ++ [e] := by rw [ownE_snoc]; simp [hk, hx]
      have hrs : rstE x (h ++ [e]) = rstE x h := by rw [rstE_snoc]; simp [hk]
      have hst := hr.stop t hg
      have hs1 : (behE x h).1 = false := by
        cases hh : (behE x h).1 with
        | false => rfl
        | true => have := hst.1 hh; rw [hla] at this; cases this
      have hbe : behE x (h ++ [e]) = behE x h := by rw [behE_snoc]; unfold behF; simp [hk, hs1]
      have hlx : aget m'.live x = some { t with btw := true } := by rw [hl, aget_put, if_pos rfl]
      have k3 : e.kind ≠ 3 := by omega
      refine ⟨hadds, noadd k3 (fun a ha hi3 h3 u hu => by rw [hlx] at hu; cases hu; exact hr.per a ha hi3 h3 t hg), noadd k3 (fun a ha hi3 h3 h0 => by have := hr.per a ha hi3 h3 t hg; omega),
        fun u hu => by rw [hlx] at hu; cases hu; rw [hbe]; exact hst, by rw [hbe]; exact hr.beh1, ?_, ?_, fun q => ?_⟩
      · rw [hrs, ho]
        intro q
        refine noadd k3 (fun a ha' hi3 h3 => (hr.chain q a ha' hi3 h3).snoc fun f hf => ?_)
        have h0 := (hr.lastf q t f hg hf).2 hb
        have hpe := hr.per a ha' hi3 h3 t hg
        refine ⟨by rw [hd, ← hpe]; exact h0.2.2.1, by rw [hd]; exact h0.2.2.2, by rw [hgen]; exact h0.2.1⟩
      · intro q u f hu hf'
        rw [ho, List.getLast?_concat] at hf'
        cases hf'
        rw [hlx] at hu
        cases hu
        exact ⟨fun _ => ⟨hgen.symm, hd.symm⟩, fun h => (by cases h)⟩
      · have := hi.added x (by rw [hg]; simp)
        rw [added_back h1 x q] at this; cases this
    | out hk t hg hgen hd hb ha hp hl =>
      rw [hx] at hg hl
      have ho : ownE x (h ++ [e]) = ownE x h ++ [e] := by rw [ownE_snoc]; simp [hk, hx]
      have hrs : rstE x (h ++ [e]) = rstE x h := by rw [rstE_snoc]; simp [hk]
      have hst := hr.stop t hg
      have hlx : aget m'.live x = none := by rw [hl, aget_del hi.nodup, if_pos rfl]
      have k3 : e.kind ≠ 3 := by omega
      refine ⟨hadds, noadd k3 (fun a _ _ _ u hu => (by rw [hlx] at hu; cases hu)), noadd k3 (fun a ha' hi3 h3 h0 => ⟨by rw [ho, (hr.zero a ha' hi3 h3 h0).2 t hg]; simp, fun u hu => (by rw [hlx] at hu; cases hu)⟩),
        fun u hu => (by rw [hlx] at hu; cases hu), ?_, ?_, fun _ u f hu => (by rw [hlx] at hu; cases hu), fun q => ?_⟩
      · rw [behE_snoc]
        unfold behF
        simp only [hxb, if_true]
        have h8 : (e.kind == 8) = false := by simp [hk]
        simp only [h8, Bool.false_eq_true, if_false]
        split
        · show (behE x h).2 + 1 ≤ 1; rw [hst.2]; omega
        · exact hr.beh1
      · rw [hrs, ho]
        intro q
        refine noadd k3 (fun a ha' hi3 h3 => (hr.chain q a ha' hi3 h3).snoc fun f hf => ?_)
        have h0 := (hr.lastf q t f hg hf).2 hb
        have hpe := hr.per a ha' hi3 h3 t hg
        refine ⟨by rw [hd, ← hpe]; exact h0.2.2.1, by rw [hd]; exact h0.2.2.2, by rw [hgen]; exact h0.2.1⟩
      · have := hi.added x (by rw [hg]; simp)
        rw [added_back h1 x q] at this; cases this
    | del hk hl =>
      rw [hx] at hl
      have ho : ownE x (h ++ [e]) = ownE x h := by rw [ownE_snoc]; simp [hk.2.1]
      have hrs : rstE x (h ++ [e]) = rstE x h := by rw [rstE_snoc]; simp [hk.2.2]
      have hbe : (behE x (h ++ [e])).2 = (behE x h).2 := by
        rw [behE_snoc]; unfold behF
        have h5 : (e.kind == 5) = false := by simp [hk.2.1]
        simp only [hxb, if_true, h5, Bool.false_and, Bool.false_eq_true, if_false]
        split <;> rfl
      have hlx : aget m'.live x = none := by rw [hl, aget_del hi.nodup, if_pos rfl]
      refine ⟨hadds, noadd hk.1 (fun a _ _ _ u hu => (by rw [hlx] at hu; cases hu)), noadd hk.1 (fun a ha' hi3 h3 h0 => ⟨by rw [ho]; exact (hr.zero a ha' hi3 h3 h0).1, fun u hu => (by rw [hlx] at hu; cases hu)⟩),
        fun u hu => (by rw [hlx] at hu; cases hu), by rw [hbe]; exact hr.beh1, by rw [hrs, ho]; exact fun q => noadd hk.1 (hr.chain q), fun _ u f hu => (by rw [hlx] at hu; cases hu), fun q => ?_⟩
      have hq := hr.fresh (added_back h1 x q)
      refine ⟨by rw [ho]; exact hq.1, ?_⟩
      by_cases h8 : e.kind = 8
      · rw [hadds e (by simp) hx (.inr (.inr h8))] at q; cases q
      · rw [behE_snoc, hq.2]; unfold behF; simp [hk.2.1, h8]
    | add hk hno hl =>
      rw [hx] at hno hl
      have ho : ownE x (h ++ [e]) = ownE x h := by rw [ownE_snoc]; simp [hk]
      have hrs : rstE x (h ++ [e]) = rstE x h := by rw [rstE_snoc]; simp [hk]
      have hbe : behE x (h ++ [e]) = behE x h := by rw [behE_snoc]; unfold behF; simp [hk]
      have hlx : aget m'.live x = some ⟨e.gen, e.dl, e.per, false, false, false⟩ := by rw [hl, aget_put, if_pos rfl]
      have hq := hr.fresh hno
      have nope : ∀ {P : Ev → Prop}, P e → ∀ a ∈ h ++ [e], a.id = x → a.kind = 3 → P a := fun hP => split (fun a ha hi3 h3 => by have := hr.adds a ha hi3 (.inl h3); rw [hno] at this; cases this) (fun _ _ => hP)
      refine ⟨hadds, nope (fun u hu => by rw [hlx] at hu; cases hu; rfl), nope (fun _ => by rw [ho, hq.1]; exact ⟨by simp, fun _ _ => rfl⟩), fun u hu => by rw [hbe, hq.2]; exact ⟨fun h => (by cases h), rfl⟩, by rw [hbe]; exact hr.beh1,
        fun _ => nope (by rw [ho, hq.1]; intro j a b ha; simp at ha), fun _ u f _ hf => by rw [ho, hq.1] at hf; simp at hf, fun _ => by rw [ho, hbe]; exact hq⟩
  · -- another timer's event
    have hxb : (e.id == x) = false := by simp [hx]
    have hlx := live_other hi h2 x (fun h => hx h.symm)
    have ho : ownE x (h ++ [e]) = ownE x h := by rw [ownE_snoc]; simp [hxb]
    have hrs : rstE x (h ++ [e]) = rstE x h := by rw [rstE_snoc]; simp [hxb]
    have hbe : behE x (h ++ [e]) = behE x h := by rw [behE_snoc]; unfold behF; simp [hxb]
    have other : ∀ {P : Ev → Prop}, (∀ a ∈ h, a.id = x → a.kind = 3 → P a) → ∀ a ∈ h ++ [e], a.id = x → a.kind = 3 → P a := fun hh => split hh (fun h _ => absurd h hx)
    exact ⟨hadds, other (by rw [hlx]; exact hr.per), other (by rw [hlx, ho]; exact hr.zero), by rw [hlx, hbe]; exact hr.stop, by rw [hbe]; exact hr.beh1, by rw [hrs, ho]; exact fun q => other (hr.chain q), by rw [hrs, ho, hlx]; exact hr.lastf, by rw [ho, hbe]; exact fun q => hr.fresh (added_back h1 x q)⟩

theorem Rh.start (x n : Int) : Rh x (new n) [] := ⟨by simp, by simp, by simp, by simp [new, aget], by simp [behE], by simp, by simp [new, aget], by simp [ownE, behE]⟩
theorem rh_all {x : Int} {m : Ma} {h l : List Ev} (hr : Rh x m h) (hi : Inv m h) (ha : All m l) : ∃ m', Rh x m' (h ++ l) := by
  induction l generalizing m h with
  | nil => exact ⟨m, by simpa using hr⟩
  | cons e l ih =>
    obtain ⟨m', hs, ha'⟩ := all_cons ha
    obtain ⟨m'', h0⟩ := ih (hr.step hi (step_eff hs) (step_act hs)) (hi.step (step_eff hs)) ha'
    exact ⟨m'', by simpa using h0⟩
/-- The rhythm of a timer that was added. -/
theorem rhythm_law {n : Int} {l : List Ev} (ha : All (new n) l) {a : Ev} (hm : a ∈ l) (h3 : a.kind = 3) :
    (behE a.id l).2 ≤ 1 ∧ (a.per = 0 → (ownE a.id l).length ≤ 1) ∧ (rstE a.id l = false → ChainE a.per (ownE a.id l)) := by
  obtain ⟨m', h⟩ := rh_all (Rh.start a.id n) (Inv.start n) ha
  rw [List.nil_append] at h
  exact ⟨h.beh1, fun h0 => (h.zero a hm rfl h3 h0).1, fun q => h.chain q a hm rfl h3⟩
end Go.Proofs.Ytpnkkdpggofanaa
