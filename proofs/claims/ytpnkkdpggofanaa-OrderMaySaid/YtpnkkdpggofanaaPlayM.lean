/- spec: a step in a machine whose calls are laid otherwise. No program in sight. spec: what holds behind the events of a trace that may come, of each call. No program in sight. Of a trace that may come: where each call began, did, ended; what order.Serial puts. Plain Lean. The serial trace of a trace that may come may come, too: plain Lean. The serial trace of a trace that may come: it may come, in it each client's call stands alone; its firings, its done calls, its answers. Plain Lean. Of a trace that may come in which each client's call stands alone: it is its own serial trace. Who respects the order; how many did. Plain Lean. -/
import Derived.Test.YtpnkkdpggofanaaCancelLaw
import Derived.Test.YtpnkkdpggofanaaOpsA
import Derived.Test.YtpnkkdpggofanaaOrdLaw
import Derived.Test.YtpnkkdpggofanaaFired
namespace Go.Proofs.Ytpnkkdpggofanaa

/-- What a call is told when an event does it. -/
def dv (e : Ev) : Int × Int × Int := if e.kind = 9 then (0, 0, e.err) else if e.kind = 11 ∨ e.kind = 13 then (0, 0, 0) else (e.id, e.gen, 0)
def outC (e : Ev) (C : List Cl) (i : Nat) : List Cl := if isDoes e.kind = true then C.modify i (fun c => { c with done := true, id := (dv e).1, gen := (dv e).2.1, err := (dv e).2.2 }) else if e.kind = 2 then C.modify i (fun c => { c with opn := false }) else C
def outO (e : Ev) (O : List (Int × Bool)) : List (Int × Bool) := if e.kind = 2 then aput O e.thr false else O
def outK (e : Ev) (k : Int) : Int := if e.kind = 10 then e.call else k
/-- The machine with other calls. -/
def alt (m : Ma) (C : List Cl) (O : List (Int × Bool)) (k : Int) : Ma := { m with calls := C, opn := O, closer := k }
/-- The call with another number. -/
def altC (c : Cl) (v : Int) (p q : Bool) (x y z : Int) : Cl := ⟨{ c.bg with call := v }, p, q, x, y, z⟩
def altE (e : Ev) (v : Int) : Ev := { e with call := v }

section
variable {m m1 : Ma} {c : Cl} {e : Ev} {i : Nat} (C : List Cl) (O : List (Int × Bool)) (k u v : Int) (p q : Bool) (x y z : Int) (i' : Nat)
theorem fin_alt (id gen err : Int) : fin (alt m C O k) i' id gen err = alt (fin m i id gen err) (C.modify i' fun c => { c with done := true, id := id, gen := gen, err := err }) O k := rfl
theorem arm_alt : armM (alt m C O k) (altC c u p q x y z) (altE e v) = (armM m c e).map fun m1 => alt m1 C O k := by
  unfold armM
  show (match aget m.live e.id with | none => none | some t => _) = _
  cases aget m.live e.id with
  | none => rfl
  | some t =>
    simp only [apply_ite (Option.map (fun m1 => alt m1 C O k)), Option.map_none, Option.map_some]
    rfl
theorem fire_alt : fireM (alt m C O k) (altC c u p q x y z) (altE e v) = (fireM m c e).map fun m1 => alt m1 C O k := by
  unfold fireM
  show (match aget m.live e.id with | none => none | some t => _) = _
  cases aget m.live e.id with
  | none => rfl
  | some t =>
    simp only [apply_ite (Option.map (fun m1 => alt m1 C O k)), Option.map_none, Option.map_some]
    rfl
theorem over_alt : overM (alt m C O k) (altC c u p q x y z) (altE e v) = (overM m c e).map fun m1 => alt m1 C O k := by
  unfold overM
  show (match aget m.live e.id with | none => none | some t => _) = _
  cases aget m.live e.id with
  | none => rfl
  | some t =>
    simp only [apply_ite (Option.map (fun m1 => alt m1 C O k)), Option.map_none, Option.map_some]
    rfl
theorem leave_alt (hk : m.closer = e.call ↔ k = v) : leaveM (alt m C O k) (altE e v) = (leaveM m e).map fun m1 => alt m1 C O k := by
  unfold leaveM
  have hb : ((alt m C O k).closer != (altE e v).call) = (m.closer != e.call) := by
    show (k != v) = _
    by_cases h : m.closer = e.call
    · rw [hk.1 h, h]; simp
    · have : k ≠ v := fun h' => h (hk.2 h')
      rw [show (k != v) = true by simp [this], show (m.closer != e.call) = true by simp [h]]
  rw [hb]
  show (if _ then none else match aget m.live e.id with | none => none | some t => _) = _
  cases aget m.live e.id with
  | none => simp only [apply_ite (Option.map (fun m1 => alt m1 C O k)), Option.map_none]; rfl
  | some t =>
    simp only [apply_ite (Option.map (fun m1 => alt m1 C O k)), Option.map_none, Option.map_some]
    rfl
theorem close_alt (hk : e.kind = 10) : closeM (alt m C O k) (altC c u p q x y z) (altE e v) = (closeM m c e).map fun m1 => alt m1 C O v := by
  unfold closeM
  simp only [apply_ite (Option.map (fun m1 => alt m1 C O v)), Option.map_none, Option.map_some]
  rfl
theorem answer_alt (hx : x = c.id ∧ y = c.gen ∧ z = c.err) : answerM (alt m C O k) i' (altC c u p q x y z) (altE e v) = (answerM m i c e).map fun m1 => alt m1 (C.modify i' fun c => { c with opn := false }) (aput O e.thr false) k := by
  obtain ⟨rfl, rfl, rfl⟩ := hx
  unfold answerM
  simp only [apply_ite (Option.map (fun m1 => alt m1 (C.modify i' fun c : Cl => { c with opn := false }) (aput O e.thr false) k)), Option.map_none, Option.map_some]
  rfl
theorem add_alt : addM (alt m C O k) i' (altC c u p q x y z) (altE e v) = (addM m i c e).map fun m1 => alt m1 (C.modify i' fun c => { c with done := true, id := e.id, gen := e.gen, err := 0 }) O k := by
  unfold addM
  simp only [apply_ite (Option.map (fun m1 => alt m1 (C.modify i' fun c : Cl => { c with done := true, id := e.id, gen := e.gen, err := 0 }) O k)), Option.map_none, Option.map_some]
  rfl
theorem tick_alt : tickM (alt m C O k) i' (altC c u p q x y z) (altE e v) = (tickM m i c e).map fun m1 => alt m1 (C.modify i' fun c => { c with done := true, id := 0, gen := 0, err := 0 }) O k := by
  unfold tickM
  simp only [apply_ite (Option.map (fun m1 => alt m1 (C.modify i' fun c : Cl => { c with done := true, id := 0, gen := 0, err := 0 }) O k)), Option.map_none, Option.map_some]
  rfl
theorem reset_alt : resetM (alt m C O k) i' (altC c u p q x y z) (altE e v) = (resetM m i c e).map fun m1 => alt m1 (C.modify i' fun c => { c with done := true, id := e.id, gen := e.gen, err := 0 }) O k := by
  unfold resetM
  show (match aget m.live e.id with | none => none | some t => _) = _
  cases aget m.live e.id with
  | none => rfl
  | some t =>
    simp only [apply_ite (Option.map (fun m1 => alt m1 (C.modify i' fun c : Cl => { c with done := true, id := e.id, gen := e.gen, err := 0 }) O k)), Option.map_none, Option.map_some]
    rfl
theorem cancel_alt : cancelM (alt m C O k) i' (altC c u p q x y z) (altE e v) = (cancelM m i c e).map fun m1 => alt m1 (C.modify i' fun c => { c with done := true, id := e.id, gen := e.gen, err := 0 }) O k := by
  unfold cancelM
  show (match aget m.live e.id with | none => none | some t => _) = _
  cases aget m.live e.id with
  | none => rfl
  | some t =>
    simp only [apply_ite (Option.map (fun m1 => alt m1 (C.modify i' fun c : Cl => { c with done := true, id := e.id, gen := e.gen, err := 0 }) O k)), Option.map_none, Option.map_some]
    rfl
theorem stop_alt : stopM (alt m C O k) i' (altC c u p q x y z) (altE e v) = (stopM m i c e).map fun m1 => alt m1 (C.modify i' fun c => { c with done := true, id := e.id, gen := e.gen, err := 0 }) O k := by
  unfold stopM
  show (match aget m.live e.id with | none => none | some t => _) = _
  cases aget m.live e.id with
  | none => rfl
  | some t =>
    simp only [apply_ite (Option.map (fun m1 => alt m1 (C.modify i' fun c : Cl => { c with done := true, id := e.id, gen := e.gen, err := 0 }) O k)), Option.map_none, Option.map_some]
    rfl
theorem refuse_alt : refuseM (alt m C O k) i' (altC c u p q x y z) (altE e v) = (refuseM m i c e).map fun m1 => alt m1 (C.modify i' fun c => { c with done := true, id := 0, gen := 0, err := e.err }) O k := by
  unfold refuseM
  simp only [apply_ite (Option.map (fun m1 => alt m1 (C.modify i' fun c : Cl => { c with done := true, id := 0, gen := 0, err := e.err }) O k)), Option.map_none, Option.map_some]
  rfl
theorem end_alt (hk : m.closer = e.call ↔ k = v) : endM (alt m C O k) i' (altE e v) = (endM m i e).map fun m1 => alt m1 (C.modify i' fun c => { c with done := true, id := 0, gen := 0, err := 0 }) O k := by
  unfold endM
  have hb : ((alt m C O k).closer != (altE e v).call) = (m.closer != e.call) := by
    show (k != v) = _
    by_cases h : m.closer = e.call
    · rw [hk.1 h, h]; simp
    · have : k ≠ v := fun h' => h (hk.2 h')
      rw [show (k != v) = true by simp [this], show (m.closer != e.call) = true by simp [h]]
  rw [hb]
  simp only [apply_ite (Option.map (fun m1 => alt m1 (C.modify i' fun c : Cl => { c with done := true, id := 0, gen := 0, err := 0 }) O k)), Option.map_none, Option.map_some]
  rfl
/-- A rule, in a machine whose calls are laid otherwise. -/
theorem rule_alt (hk : e.kind = 12 ∨ e.kind = 13 → (m.closer = e.call ↔ k = v)) (hx : e.kind = 2 → x = c.id ∧ y = c.gen ∧ z = c.err) :
    ruleM (alt m C O k) i' (altC c u p q x y z) (altE e v) = (ruleM m i c e).map fun m1 => alt m1 (outC e C i') (outO e O) (outK (altE e v) k) := by
  unfold ruleM outC outO outK dv
  simp only [show (altE e v).kind = e.kind from rfl, show (altE e v).call = v from rfl]
  by_cases h4 : e.kind = 4
  · simp only [h4]; exact arm_alt C O k u v p q x y z
  by_cases h5 : e.kind = 5
  · simp only [h5]; exact fire_alt C O k u v p q x y z
  by_cases h14 : e.kind = 14
  · simp only [h14]; exact over_alt C O k u v p q x y z
  by_cases h2 : e.kind = 2
  · simp only [h2]; exact answer_alt C O k u v p q x y z i' (hx h2)
  by_cases h3 : e.kind = 3
  · simp only [h3]; exact add_alt C O k u v p q x y z i'
  by_cases h11 : e.kind = 11
  · simp only [h11]; exact tick_alt C O k u v p q x y z i'
  by_cases h6 : e.kind = 6
  · simp only [h6]; exact reset_alt C O k u v p q x y z i'
  by_cases h7 : e.kind = 7
  · simp only [h7]; exact cancel_alt C O k u v p q x y z i'
  by_cases h8 : e.kind = 8
  · simp only [h8]; exact stop_alt C O k u v p q x y z i'
  by_cases h9 : e.kind = 9
  · simp only [h9]; exact refuse_alt C O k u v p q x y z i'
  by_cases h10 : e.kind = 10
  · simp only [h10]; exact close_alt C O k u v p q x y z h10
  by_cases h12 : e.kind = 12
  · simp only [h12]; exact leave_alt C O k v (hk (.inl h12))
  by_cases h13 : e.kind = 13
  · simp only [h13]; exact end_alt C O k v i' (hk (.inr h13))
  simp [h4, h5, h14, h2, h3, h11, h6, h7, h8, h9, h10, h12, h13]
end
/-- What a rule does to the calls. -/
theorem rule_calls {m m1 : Ma} {c : Cl} {e : Ev} {i : Nat} (h : ruleM m i c e = some m1) : m1.calls = outC e m.calls i ∧ m1.opn = outO e m.opn ∧ m1.closer = outK e m.closer := by
  have := rule_alt (m := m) (c := c) (e := e) (i := i) m.calls m.opn m.closer c.bg.call e.call c.opn c.done c.id c.gen c.err i (fun _ => Iff.rfl) (fun _ => ⟨rfl, rfl, rfl⟩)
  have h1 : ruleM m i c e = (ruleM m i c e).map fun m1 => alt m1 (outC e m.calls i) (outO e m.opn) (outK e m.closer) := this
  rw [h] at h1
  simp only [Option.map_some, Option.some.injEq] at h1
  rw [h1]
  exact ⟨rfl, rfl, rfl⟩
/-- Of what sort a call is whose event comes. -/
theorem rule_what {m m1 : Ma} {c : Cl} {e : Ev} {i : Nat} (h : ruleM m i c e = some m1) (hw : c.bg.what = e.what) :
    (e.kind = 4 ∨ e.kind = 5 ∨ e.kind = 14 ∨ e.kind = 11 → e.what = 7) ∧ (e.kind = 10 → e.what = 6) ∧ (e.kind = 12 ∨ e.kind = 13 → m.closed = true ∧ m.closer = e.call) ∧
    (e.kind = 2 → e.id = c.id ∧ e.gen = c.gen ∧ e.err = c.err) ∧ (m1.closed = true → m.closed = true ∨ e.kind = 10) ∧ (m.closed = true → m1.closed = true ∧ e.kind ≠ 10) ∧ (ruleOf e.kind).isSome = true := by
  unfold ruleM at h
  by_cases h4 : e.kind = 4
  · rw [if_pos (by simp [h4])] at h
    unfold armM at h
    cases hg : aget m.live e.id with
    | none => rw [hg] at h; cases h
    | some t =>
      rw [hg] at h
      simp only at h
      split at h
      · cases h
      · rename_i hc
        have h7 : e.what = 7 := by rw [← hw]; simpa using hc
        have hcl : m1.closed = m.closed := by
          split at h
          · split at h
            · cases h
            · cases h; rfl
          · split at h
            · cases h
            · cases h; rfl
        exact ⟨fun _ => h7, by omega, by omega, by omega, fun h => .inl (hcl ▸ h), fun h => ⟨hcl ▸ h, by omega⟩, by rw [h4]; rfl⟩
  rw [if_neg (by simp [h4])] at h
  by_cases h5 : e.kind = 5
  · rw [if_pos (by simp [h5])] at h
    unfold fireM at h
    cases hg : aget m.live e.id with
    | none => rw [hg] at h; cases h
    | some t =>
      rw [hg] at h
      simp only at h
      split at h
      · cases h
      · rename_i hc
        have h7 : e.what = 7 := by
          simp only [Bool.or_eq_true, not_or, bne_iff_ne, ne_eq, Decidable.not_not] at hc
          rw [← hw]; exact hc.1.1.1.1.1.1
        have hcl : m1.closed = m.closed := by
          split at h <;> (cases h; rfl)
        exact ⟨fun _ => h7, by omega, by omega, by omega, fun h => .inl (hcl ▸ h), fun h => ⟨hcl ▸ h, by omega⟩, by rw [h5]; rfl⟩
  rw [if_neg (by simp [h5])] at h
  by_cases h14 : e.kind = 14
  · rw [if_pos (by simp [h14])] at h
    unfold overM at h
    cases hg : aget m.live e.id with
    | none => rw [hg] at h; cases h
    | some t =>
      rw [hg] at h
      simp only at h
      split at h
      · cases h
      · rename_i hc
        have h7 : e.what = 7 := by
          simp only [Bool.or_eq_true, not_or, bne_iff_ne, ne_eq, Decidable.not_not] at hc
          rw [← hw]; exact hc.1.1.1
        have hcl : m1.closed = m.closed := by cases h; rfl
        exact ⟨fun _ => h7, by omega, by omega, by omega, fun h => .inl (hcl ▸ h), fun h => ⟨hcl ▸ h, by omega⟩, by rw [h14]; rfl⟩
  rw [if_neg (by simp [h14])] at h
  by_cases h2 : e.kind = 2
  · rw [if_pos (by simp [h2])] at h
    unfold answerM at h
    split at h
    · cases h
    · rename_i hc
      simp only [Bool.or_eq_true, not_or, bne_iff_ne, ne_eq, Decidable.not_not] at hc
      have hcl : m1.closed = m.closed := by cases h; rfl
      exact ⟨by omega, by omega, by omega, fun _ => ⟨hc.1.1, hc.1.2, hc.2⟩, fun h => .inl (hcl ▸ h), fun h => ⟨hcl ▸ h, by omega⟩, by rw [h2]; rfl⟩
  rw [if_neg (by simp [h2])] at h
  by_cases h3 : e.kind = 3
  · rw [if_pos (by simp [h3])] at h
    have hcl : m1.closed = m.closed := by
      unfold addM at h
      generalize (if c.bg.what == 2 then c.bg.per else 0) = pp at h
      split at h
      · cases h
      · split at h
        · cases h
        · split at h
          · cases h
          · cases h; rfl
    exact ⟨by omega, by omega, by omega, by omega, fun h => .inl (hcl ▸ h), fun h => ⟨hcl ▸ h, by omega⟩, by rw [h3]; rfl⟩
  rw [if_neg (by simp [h3])] at h
  by_cases h11 : e.kind = 11
  · rw [if_pos (by simp [h11])] at h
    unfold tickM at h
    split at h
    · cases h
    · rename_i hc
      have h7 : e.what = 7 := by
        simp only [Bool.or_eq_true, not_or, bne_iff_ne, ne_eq, Decidable.not_not] at hc
        rw [← hw]; exact hc.1.1.1
      have hcl : m1.closed = m.closed := by cases h; rfl
      exact ⟨fun _ => h7, by omega, by omega, by omega, fun h => .inl (hcl ▸ h), fun h => ⟨hcl ▸ h, by omega⟩, by rw [h11]; rfl⟩
  rw [if_neg (by simp [h11])] at h
  by_cases h6 : e.kind = 6
  · rw [if_pos (by simp [h6])] at h
    have hcl : m1.closed = m.closed := by
      unfold resetM at h
      cases hg : aget m.live e.id with
      | none => rw [hg] at h; cases h
      | some t =>
        rw [hg] at h
        simp only at h
        split at h
        · cases h
        · cases h; rfl
    exact ⟨by omega, by omega, by omega, by omega, fun h => .inl (hcl ▸ h), fun h => ⟨hcl ▸ h, by omega⟩, by rw [h6]; rfl⟩
  rw [if_neg (by simp [h6])] at h
  by_cases h7 : e.kind = 7
  · rw [if_pos (by simp [h7])] at h
    have hcl : m1.closed = m.closed := by
      unfold cancelM at h
      cases hg : aget m.live e.id with
      | none => rw [hg] at h; cases h
      | some t =>
        rw [hg] at h
        simp only at h
        generalize (if t.btw = true then t.gen + 1 else t.gen) = g at h
        split at h
        · cases h
        · cases h; rfl
    exact ⟨by omega, by omega, by omega, by omega, fun h => .inl (hcl ▸ h), fun h => ⟨hcl ▸ h, by omega⟩, by rw [h7]; rfl⟩
  rw [if_neg (by simp [h7])] at h
  by_cases h8 : e.kind = 8
  · rw [if_pos (by simp [h8])] at h
    have hcl : m1.closed = m.closed := by
      unfold stopM at h
      cases hg : aget m.live e.id with
      | none => rw [hg] at h; cases h
      | some t =>
        rw [hg] at h
        simp only at h
        split at h
        · cases h
        · split at h <;> (cases h; rfl)
    exact ⟨by omega, by omega, by omega, by omega, fun h => .inl (hcl ▸ h), fun h => ⟨hcl ▸ h, by omega⟩, by rw [h8]; rfl⟩
  rw [if_neg (by simp [h8])] at h
  by_cases h9 : e.kind = 9
  · rw [if_pos (by simp [h9])] at h
    have hcl : m1.closed = m.closed := by
      unfold refuseM at h
      split at h
      · cases h; rfl
      · cases h
    exact ⟨by omega, by omega, by omega, by omega, fun h => .inl (hcl ▸ h), fun h => ⟨hcl ▸ h, by omega⟩, by rw [h9]; rfl⟩
  rw [if_neg (by simp [h9])] at h
  by_cases h10 : e.kind = 10
  · rw [if_pos (by simp [h10])] at h
    unfold closeM at h
    split at h
    · cases h
    · rename_i hc
      simp only [Bool.or_eq_true, not_or, bne_iff_ne, ne_eq, Decidable.not_not, Bool.not_eq_true] at hc
      exact ⟨by omega, fun _ => by rw [← hw]; exact hc.1, by omega, by omega, fun _ => .inr h10, fun h => (by rw [hc.2] at h; cases h), by rw [h10]; rfl⟩
  rw [if_neg (by simp [h10])] at h
  by_cases h12 : e.kind = 12
  · rw [if_pos (by simp [h12])] at h
    unfold leaveM at h
    split at h
    · cases h
    · rename_i hc
      simp only [Bool.or_eq_true, not_or, bne_iff_ne, ne_eq, Decidable.not_not, Bool.not_eq_true', Bool.not_eq_false] at hc
      have hcl : m1.closed = m.closed := by
        cases hg : aget m.live e.id with
        | none => rw [hg] at h; cases h
        | some t =>
          rw [hg] at h
          simp only at h
          split at h
          · cases h
          · cases h; rfl
      exact ⟨by omega, by omega, fun _ => hc, by omega, fun h => .inl (hcl ▸ h), fun h => ⟨hcl ▸ h, by omega⟩, by rw [h12]; rfl⟩
  rw [if_neg (by simp [h12])] at h
  by_cases h13 : e.kind = 13
  · rw [if_pos (by simp [h13])] at h
    unfold endM at h
    split at h
    · cases h
    · rename_i hc
      simp only [Bool.or_eq_true, not_or, bne_iff_ne, ne_eq, Decidable.not_not, Bool.not_eq_true', Bool.not_eq_false] at hc
      have hcl : m1.closed = m.closed := by cases h; rfl
      exact ⟨by omega, by omega, fun _ => hc.1, by omega, fun h => .inl (hcl ▸ h), fun h => ⟨hcl ▸ h, by omega⟩, by rw [h13]; rfl⟩
  rw [if_neg (by simp [h13])] at h
  cases h
end Go.Proofs.Ytpnkkdpggofanaa

namespace Go.Proofs.Ytpnkkdpggofanaa

def upd (e : Ev) (c : Cl) : Cl := if isDoes e.kind = true then { c with done := true, id := (dv e).1, gen := (dv e).2.1, err := (dv e).2.2 } else if e.kind = 2 then { c with opn := false } else c
theorem outC_get (e : Ev) (C : List Cl) (i k : Nat) : (outC e C i)[k]? = if i = k then (C[k]?).map (upd e) else C[k]? := by
  unfold outC
  split
  · rename_i h
    rw [List.getElem?_modify]
    split
    · have : (fun c : Cl => { c with done := true, id := (dv e).1, gen := (dv e).2.1, err := (dv e).2.2 }) = upd e := by funext c; rw [upd, if_pos h]
      rw [this]; rfl
    · simp
  · rename_i h
    split
    · rename_i h2
      rw [List.getElem?_modify]
      split
      · have : (fun c : Cl => { c with opn := false }) = upd e := by funext c; rw [upd, if_neg h, if_pos h2]
        rw [this]; rfl
      · simp
    · rename_i h2
      split
      · have : upd e = id := by funext c; simp [upd, h, h2]
        rw [this]; simp
      · rfl
theorem outC_len (e : Ev) (C : List Cl) (i : Nat) : (outC e C i).length = C.length := by
  unfold outC
  repeat' split
  all_goals simp
theorem upd_bg (e : Ev) (c : Cl) : (upd e c).bg = c.bg := by unfold upd; repeat' split
                                                             all_goals rfl

theorem step_cases {m m1 : Ma} {e : Ev} (h : stepM m e = some m1) :
    (e.kind = 1 ∧ e.call = (m.calls.length : Int) + 1 ∧ hasK m.opn e.thr = false ∧ 1 ≤ e.what ∧ e.what ≤ 7 ∧ m1 = { m with calls := m.calls ++ [⟨e, true, false, 0, 0, 0⟩], opn := aput m.opn e.thr true }) ∨
    (e.kind ≠ 1 ∧ ∃ (i : Nat) (c : Cl), e.call = (i : Int) + 1 ∧ m.calls[i]? = some c ∧ c.opn = true ∧ some c.done = ruleOf e.kind ∧ c.bg.thr = e.thr ∧ c.bg.what = e.what ∧ ruleM m i c e = some m1) := by
  unfold stepM at h
  split at h
  · rename_i hk
    have hk : e.kind = 1 := by simpa using hk
    unfold beginM at h
    split at h
    · cases h
    · rename_i hc
      simp only [Bool.or_eq_true, not_or, bne_iff_ne, ne_eq, Decidable.not_not, Bool.not_eq_true, decide_eq_true_eq] at hc
      cases h
      exact .inl ⟨hk, hc.1.1.1, hc.1.1.2, by omega, by omega, rfl⟩
  · rename_i hk
    have hk : e.kind ≠ 1 := by simpa using hk
    refine .inr ⟨hk, ?_⟩
    split at h
    · cases h
    · rename_i hr
      simp only [Bool.or_eq_true, not_or, decide_eq_true_eq] at hr
      split at h
      · cases h
      · rename_i c hcc
        split at h
        · cases h
        · rename_i hc
          simp only [Bool.or_eq_true, not_or, bne_iff_ne, ne_eq, Decidable.not_not, Bool.not_eq_true', Bool.not_eq_false] at hc
          exact ⟨(e.call - 1).toNat, c, by omega, hcc, hc.1.1.1.2, hc.1.1.2, hc.1.2, hc.2, h⟩

theorem snoc_get {h : List Ev} {e x : Ev} {j : Nat} (hj : (h ++ [e])[j]? = some x) : (h[j]? = some x ∧ j < h.length) ∨ (j = h.length ∧ e = x) := by
  rcases Nat.lt_trichotomy j h.length with hl | hl | hl
  · rw [List.getElem?_append_left hl] at hj; exact .inl ⟨hj, hl⟩
  · subst hl; simp at hj; exact .inr ⟨rfl, hj⟩
  · rw [List.getElem?_eq_none (by simp; omega)] at hj; cases hj
theorem get_old {h : List Ev} {e x : Ev} {j : Nat} (hj : h[j]? = some x) : (h ++ [e])[j]? = some x := by
  rw [List.getElem?_append_left (List.getElem?_eq_some_iff.1 hj).1]; exact hj
theorem get_new (h : List Ev) (e : Ev) : (h ++ [e])[h.length]? = some e := by simp

/-- What holds behind the events h. -/
structure PInv (m : Ma) (h : List Ev) : Prop where
  ev : ∀ (j : Nat) (e : Ev), h[j]? = some e → ∃ (i : Nat) (c : Cl), e.call = (i : Int) + 1 ∧ m.calls[i]? = some c ∧ e.thr = c.bg.thr ∧ e.what = c.bg.what ∧ 1 ≤ e.what ∧ e.what ≤ 7
  bg : ∀ (i : Nat) (c : Cl), m.calls[i]? = some c → ∃ b : Nat, h[b]? = some c.bg ∧ c.bg.kind = 1 ∧ c.bg.call = (i : Int) + 1 ∧ ∀ (j : Nat) (e : Ev), h[j]? = some e → e.call = (i : Int) + 1 → b ≤ j ∧ (e.kind = 1 → j = b)
  nd : ∀ (i : Nat) (c : Cl), m.calls[i]? = some c → c.done = false → ∀ (j : Nat) (e : Ev), h[j]? = some e → e.call = (i : Int) + 1 → isDoes e.kind = false ∧ e.kind ≠ 2
  dn : ∀ (i : Nat) (c : Cl), m.calls[i]? = some c → c.done = true → ∃ (d : Nat) (ed : Ev), h[d]? = some ed ∧ ed.call = (i : Int) + 1 ∧ isDoes ed.kind = true ∧ dv ed = (c.id, c.gen, c.err) ∧ ∀ (j : Nat) (e : Ev), h[j]? = some e → e.call = (i : Int) + 1 → (isDoes e.kind = true → j = d) ∧ (e.kind = 2 → d < j)
  op : ∀ (i : Nat) (c : Cl), m.calls[i]? = some c → c.opn = true → ∀ (j : Nat) (e : Ev), h[j]? = some e → e.call = (i : Int) + 1 → e.kind ≠ 2
  cl : ∀ (i : Nat) (c : Cl), m.calls[i]? = some c → c.opn = false → c.done = true ∧ ∃ (f : Nat) (ef : Ev), h[f]? = some ef ∧ ef.call = (i : Int) + 1 ∧ ef.kind = 2 ∧ ef.id = c.id ∧ ef.gen = c.gen ∧ ef.err = c.err ∧ ∀ (j : Nat) (e : Ev), h[j]? = some e → e.call = (i : Int) + 1 → j ≤ f ∧ (e.kind = 2 → j = f)
  thr : ∀ (i : Nat) (c : Cl), m.calls[i]? = some c → c.opn = true → hasK m.opn c.bg.thr = true
  uni : ∀ (i j : Nat) (c c' : Cl), m.calls[i]? = some c → m.calls[j]? = some c' → c.opn = true → c'.opn = true → c.bg.thr = c'.bg.thr → i = j
  clo : m.closed = true → ∃ (i : Nat) (c : Cl), m.closer = (i : Int) + 1 ∧ m.calls[i]? = some c ∧ c.bg.what = 6
  cli : ∀ (j : Nat) (e : Ev), h[j]? = some e → e.what ≤ 5 → e.kind = 1 ∨ e.kind = 2 ∨ (isDoes e.kind = true ∧ e.kind ≠ 11 ∧ e.kind ≠ 13)

theorem hasK_other {m : List (Int × Bool)} {k j : Int} {v : Bool} (h : j ≠ k) : hasK (aput m k v) j = hasK m j := by
  unfold hasK; rw [aget_put, if_neg h]
theorem hasK_self {m : List (Int × Bool)} {k : Int} {v : Bool} : hasK (aput m k v) k = v := by
  unfold hasK; rw [aget_put, if_pos rfl]; rfl
theorem does_not {k : Int} (h : k = 1 ∨ k = 2 ∨ k = 4 ∨ k = 5 ∨ k = 14 ∨ k = 10 ∨ k = 12) : isDoes k = false := by
  rcases h with h | h | h | h | h | h | h <;> subst h <;> rfl
theorem does_rule {k : Int} (h : isDoes k = true) : ruleOf k = some false := by
  unfold isDoes at h
  simp only [Bool.or_eq_true, beq_iff_eq] at h
  rcases h with (((((h | h) | h) | h) | h) | h) | h <;> subst h <;> rfl
theorem rule_kinds {k : Int} (h : (ruleOf k).isSome = true) (h1 : k ≠ 2) (h2 : isDoes k = false) : k = 4 ∨ k = 5 ∨ k = 14 ∨ k = 10 ∨ k = 12 := by
  apply Classical.byContradiction
  intro hn
  simp only [not_or] at hn
  unfold isDoes at h2
  simp only [Bool.or_eq_false_iff, beq_eq_false_iff_ne, ne_eq] at h2
  unfold ruleOf at h
  simp [hn, h1, h2] at h

theorem calls_snoc {C : List Cl} {n c : Cl} {i : Nat} (h : (C ++ [n])[i]? = some c) : (C[i]? = some c ∧ i < C.length) ∨ (i = C.length ∧ c = n) := by
  rcases Nat.lt_trichotomy i C.length with hl | hl | hl
  · rw [List.getElem?_append_left hl] at h; exact .inl ⟨h, hl⟩
  · subst hl; simp at h; exact .inr ⟨rfl, h.symm⟩
  · rw [List.getElem?_eq_none (by simp; omega)] at h; cases h
theorem calls_old {C : List Cl} {n c : Cl} {i : Nat} (h : C[i]? = some c) : (C ++ [n])[i]? = some c := by
  rw [List.getElem?_append_left (List.getElem?_eq_some_iff.1 h).1]; exact h
theorem lt_of_get {C : List Cl} {c : Cl} {i : Nat} (h : C[i]? = some c) : i < C.length := (List.getElem?_eq_some_iff.1 h).1

theorem PInv.begin {m : Ma} {h : List Ev} {e : Ev} (P : PInv m h) (hk : e.kind = 1) (hc : e.call = (m.calls.length : Int) + 1) (ho : hasK m.opn e.thr = false) (hw : 1 ≤ e.what ∧ e.what ≤ 7) :
    PInv { m with calls := m.calls ++ [⟨e, true, false, 0, 0, 0⟩], opn := aput m.opn e.thr true } (h ++ [e]) := by
  have hd : isDoes e.kind = false := does_not (.inl hk)
  have none_new : ∀ (j : Nat) (x : Ev), h[j]? = some x → x.call ≠ (m.calls.length : Int) + 1 := fun j x hj hx => by
    obtain ⟨i, c, h1, h2, _⟩ := P.ev j x hj
    have := lt_of_get h2
    omega
  constructor
  · intro j x hj
    rcases snoc_get hj with ⟨hj, _⟩ | ⟨rfl, rfl⟩
    · obtain ⟨i, c, h1, h2, h3⟩ := P.ev j x hj
      exact ⟨i, c, h1, calls_old h2, h3⟩
    · exact ⟨m.calls.length, ⟨e, true, false, 0, 0, 0⟩, hc, by simp, rfl, rfl, hw⟩
  · intro i c hi
    rcases calls_snoc hi with ⟨hi, hl⟩ | ⟨rfl, rfl⟩
    · obtain ⟨b, h1, h2, h3, h4⟩ := P.bg i c hi
      refine ⟨b, get_old h1, h2, h3, fun j x hj hx => ?_⟩
      rcases snoc_get hj with ⟨hj, _⟩ | ⟨rfl, rfl⟩
      · exact h4 j x hj hx
      · omega
    · refine ⟨h.length, get_new h e, hk, hc, fun j x hj hx => ?_⟩
      rcases snoc_get hj with ⟨hj, _⟩ | ⟨rfl, rfl⟩
      · exact absurd hx (none_new j x hj)
      · exact ⟨Nat.le_refl _, fun _ => rfl⟩
  · intro i c hi hdn j x hj hx
    rcases calls_snoc hi with ⟨hi, hl⟩ | ⟨rfl, rfl⟩
    · rcases snoc_get hj with ⟨hj, _⟩ | ⟨rfl, rfl⟩
      · exact P.nd i c hi hdn j x hj hx
      · omega
    · rcases snoc_get hj with ⟨hj, _⟩ | ⟨rfl, rfl⟩
      · exact absurd hx (none_new j x hj)
      · exact ⟨hd, by omega⟩
  · intro i c hi hdn
    rcases calls_snoc hi with ⟨hi, hl⟩ | ⟨rfl, rfl⟩
    · obtain ⟨d, ed, h1, h2, h3, h4, h5⟩ := P.dn i c hi hdn
      refine ⟨d, ed, get_old h1, h2, h3, h4, fun j x hj hx => ?_⟩
      rcases snoc_get hj with ⟨hj, _⟩ | ⟨rfl, rfl⟩
      · exact h5 j x hj hx
      · omega
    · cases hdn
  · intro i c hi hop j x hj hx
    rcases snoc_get hj with ⟨hj, _⟩ | ⟨rfl, rfl⟩
    · rcases calls_snoc hi with ⟨hi, hl⟩ | ⟨rfl, rfl⟩
      · exact P.op i c hi hop j x hj hx
      · exact absurd hx (none_new j x hj)
    · omega
  · intro i c hi hop
    rcases calls_snoc hi with ⟨hi, hl⟩ | ⟨rfl, rfl⟩
    · obtain ⟨h0, f, ef, h1, h2, h3, h4, h5, h6, h7⟩ := P.cl i c hi hop
      refine ⟨h0, f, ef, get_old h1, h2, h3, h4, h5, h6, fun j x hj hx => ?_⟩
      rcases snoc_get hj with ⟨hj, _⟩ | ⟨rfl, rfl⟩
      · exact h7 j x hj hx
      · omega
    · cases hop
  · intro i c hi hop
    show hasK (aput m.opn e.thr true) c.bg.thr = true
    rcases calls_snoc hi with ⟨hi, hl⟩ | ⟨rfl, rfl⟩
    · have := P.thr i c hi hop
      rw [hasK_other]
      · exact this
      · intro hh; rw [hh, ho] at this; cases this
    · exact hasK_self
  · intro i j c c' hi hj hc1 hc2 ht
    rcases calls_snoc hi with ⟨hi, hl⟩ | ⟨rfl, rfl⟩
    · rcases calls_snoc hj with ⟨hj, hl⟩ | ⟨rfl, rfl⟩
      · exact P.uni i j c c' hi hj hc1 hc2 ht
      · have := P.thr i c hi hc1
        simp only at ht
        rw [ht, ho] at this; cases this
    · rcases calls_snoc hj with ⟨hj, hl⟩ | ⟨rfl, rfl⟩
      · have := P.thr j c' hj hc2
        simp only at ht
        rw [← ht, ho] at this; cases this
      · rfl
  · intro hcl
    obtain ⟨i, c, h1, h2, h3⟩ := P.clo hcl
    exact ⟨i, c, h1, calls_old h2, h3⟩
  · intro j x hj hx
    rcases snoc_get hj with ⟨hj, _⟩ | ⟨rfl, rfl⟩
    · exact P.cli j x hj hx
    · exact .inl hk

theorem PInv.event {m m1 : Ma} {h : List Ev} {e : Ev} (P : PInv m h) (hk : e.kind ≠ 1) {i : Nat} {c : Cl} (hc : e.call = (i : Int) + 1) (hi : m.calls[i]? = some c) (ho : c.opn = true) (hd : some c.done = ruleOf e.kind) (ht : c.bg.thr = e.thr) (hw : c.bg.what = e.what) (hr : ruleM m i c e = some m1) : PInv m1 (h ++ [e]) := by
  obtain ⟨hC, hO, hK⟩ := rule_calls hr
  obtain ⟨w1, w2, w3, w4, w5, w6, w7⟩ := rule_what hr hw
  have get1 : ∀ (k : Nat) x, m1.calls[k]? = some x → ∃ c0, m.calls[k]? = some c0 ∧ x.bg = c0.bg ∧ (k ≠ i → x = c0) ∧ (k = i → c0 = c ∧ x = upd e c) := by
    intro k x hx
    rw [hC, outC_get] at hx
    by_cases hik : i = k
    · subst hik
      rw [if_pos rfl, hi] at hx
      simp only [Option.map_some, Option.some.injEq] at hx
      exact ⟨c, hi, by rw [← hx, upd_bg], fun h => absurd rfl h, fun _ => ⟨rfl, hx.symm⟩⟩
    · rw [if_neg hik] at hx
      exact ⟨x, hx, rfl, fun _ => rfl, fun h => absurd h.symm hik⟩
  have get2 : ∀ (k : Nat) c0, m.calls[k]? = some c0 → ∃ x, m1.calls[k]? = some x ∧ x.bg = c0.bg := by
    intro k c0 h0
    rw [hC, outC_get]
    by_cases hik : i = k
    · rw [if_pos hik, h0]; exact ⟨_, rfl, upd_bg _ _⟩
    · rw [if_neg hik]; exact ⟨c0, h0, rfl⟩
  obtain ⟨b0, hb0, hb1, hb2, hb3⟩ := P.bg i c hi
  have hev0 : 1 ≤ e.what ∧ e.what ≤ 7 := by
    obtain ⟨_, c2, h1, h2, _, h4, h5⟩ := P.ev b0 c.bg hb0
    rw [hw] at h5; exact h5
  constructor
  · intro j x hj
    rcases snoc_get hj with ⟨hj, _⟩ | ⟨rfl, rfl⟩
    · obtain ⟨k, c0, h1, h2, h3, h4, h5⟩ := P.ev j x hj
      obtain ⟨y, hy, hb⟩ := get2 k c0 h2
      exact ⟨k, y, h1, hy, by rw [hb]; exact h3, by rw [hb]; exact h4, h5⟩
    · obtain ⟨y, hy, hb⟩ := get2 i c hi
      exact ⟨i, y, hc, hy, by rw [hb, ht], by rw [hb, hw], hev0⟩
  · intro k x hx
    obtain ⟨c0, h0, hb, _, _⟩ := get1 k x hx
    obtain ⟨b, h1, h2, h3, h4⟩ := P.bg k c0 h0
    rw [hb]
    refine ⟨b, get_old h1, h2, h3, fun j y hj hy => ?_⟩
    rcases snoc_get hj with ⟨hj, _⟩ | ⟨rfl, rfl⟩
    · exact h4 j y hj hy
    · have := (List.getElem?_eq_some_iff.1 h1).1
      exact ⟨by omega, fun h => absurd h hk⟩
  · intro k x hx hdn j y hj hy
    obtain ⟨c0, h0, hb, hne, heq⟩ := get1 k x hx
    by_cases hik : k = i
    · subst hik
      obtain ⟨rfl, rfl⟩ := heq rfl
      have hnd : isDoes e.kind = false := by
        cases hh : isDoes e.kind with
        | false => rfl
        | true => rw [upd, if_pos hh] at hdn; cases hdn
      have hcd : c0.done = false := by
        rw [upd, if_neg (by rw [hnd]; decide)] at hdn
        split at hdn
        · exact hdn
        · exact hdn
      rcases snoc_get hj with ⟨hj, _⟩ | ⟨rfl, rfl⟩
      · exact P.nd k c0 hi hcd j y hj hy
      · refine ⟨hnd, fun h2 => ?_⟩
        rw [h2, hcd] at hd
        cases hd
    · obtain rfl := hne hik
      rcases snoc_get hj with ⟨hj, _⟩ | ⟨rfl, rfl⟩
      · exact P.nd k x h0 hdn j y hj hy
      · omega
  · intro k x hx hdn
    obtain ⟨c0, h0, hb, hne, heq⟩ := get1 k x hx
    by_cases hik : k = i
    · subst hik
      obtain ⟨rfl, rfl⟩ := heq rfl
      cases hh : isDoes e.kind with
      | true =>
        have hcd : c0.done = false := by rw [does_rule hh] at hd; simpa using hd
        have hn := P.nd k c0 hi hcd
        refine ⟨h.length, e, get_new h e, hc, hh, by rw [upd, if_pos hh], fun j y hj hy => ?_⟩
        rcases snoc_get hj with ⟨hj, _⟩ | ⟨rfl, rfl⟩
        · have := hn j y hj hy
          exact ⟨fun h => (by rw [this.1] at h; cases h), fun h => absurd h this.2⟩
        · exact ⟨fun _ => rfl, fun h => (by rw [h] at hh; cases hh)⟩
      | false =>
        have hv : (upd e c0).done = c0.done ∧ (upd e c0).id = c0.id ∧ (upd e c0).gen = c0.gen ∧ (upd e c0).err = c0.err := by
          rw [upd, if_neg (by rw [hh]; decide)]
          split <;> exact ⟨rfl, rfl, rfl, rfl⟩
        rw [hv.1] at hdn
        obtain ⟨d, ed, h1, h2, h3, h4, h5⟩ := P.dn k c0 hi hdn
        refine ⟨d, ed, get_old h1, h2, h3, by rw [h4, hv.2.1, hv.2.2.1, hv.2.2.2], fun j y hj hy => ?_⟩
        rcases snoc_get hj with ⟨hj, _⟩ | ⟨rfl, rfl⟩
        · exact h5 j y hj hy
        · exact ⟨fun h => (by rw [hh] at h; cases h), fun _ => (List.getElem?_eq_some_iff.1 h1).1⟩
    · obtain rfl := hne hik
      obtain ⟨d, ed, h1, h2, h3, h4, h5⟩ := P.dn k x h0 hdn
      refine ⟨d, ed, get_old h1, h2, h3, h4, fun j y hj hy => ?_⟩
      rcases snoc_get hj with ⟨hj, _⟩ | ⟨rfl, rfl⟩
      · exact h5 j y hj hy
      · omega
  · intro k x hx hop j y hj hy
    obtain ⟨c0, h0, hb, hne, heq⟩ := get1 k x hx
    by_cases hik : k = i
    · subst hik
      obtain ⟨rfl, rfl⟩ := heq rfl
      rcases snoc_get hj with ⟨hj, _⟩ | ⟨rfl, rfl⟩
      · exact P.op k c0 hi ho j y hj hy
      · intro h2
        rw [upd, if_neg (by rw [h2]; decide), if_pos h2] at hop
        cases hop
    · obtain rfl := hne hik
      rcases snoc_get hj with ⟨hj, _⟩ | ⟨rfl, rfl⟩
      · exact P.op k x h0 hop j y hj hy
      · omega
  · intro k x hx hop
    obtain ⟨c0, h0, hb, hne, heq⟩ := get1 k x hx
    by_cases hik : k = i
    · subst hik
      obtain ⟨rfl, rfl⟩ := heq rfl
      have h2 : e.kind = 2 := by
        apply Classical.byContradiction
        intro hn
        have : (upd e c0).opn = c0.opn := by
          unfold upd
          rw [if_neg hn]
          split <;> rfl
        rw [this, ho] at hop; cases hop
      have hu : upd e c0 = { c0 with opn := false } := by rw [upd, if_neg (by rw [h2]; decide), if_pos h2]
      have hcd : c0.done = true := by rw [h2] at hd; simpa [ruleOf] using hd
      obtain ⟨v1, v2, v3⟩ := w4 h2
      rw [hu]
      refine ⟨hcd, h.length, e, get_new h e, hc, h2, v1, v2, v3, fun j y hj hy => ?_⟩
      rcases snoc_get hj with ⟨hj, hl⟩ | ⟨rfl, rfl⟩
      · exact ⟨by omega, fun h => absurd h (P.op k c0 hi ho j y hj hy)⟩
      · exact ⟨Nat.le_refl _, fun _ => rfl⟩
    · obtain rfl := hne hik
      obtain ⟨g0, f, ef, h1, h2, h3, h4, h5, h6, h7⟩ := P.cl k x h0 hop
      refine ⟨g0, f, ef, get_old h1, h2, h3, h4, h5, h6, fun j y hj hy => ?_⟩
      rcases snoc_get hj with ⟨hj, _⟩ | ⟨rfl, rfl⟩
      · exact h7 j y hj hy
      · omega
  · intro k x hx hop
    obtain ⟨c0, h0, hb, hne, heq⟩ := get1 k x hx
    rw [hO, hb]
    by_cases hik : k = i
    · subst hik
      obtain ⟨rfl, rfl⟩ := heq rfl
      have h2 : e.kind ≠ 2 := by
        intro h2
        rw [upd, if_neg (by rw [h2]; decide), if_pos h2] at hop
        cases hop
      rw [outO, if_neg h2]
      exact P.thr k c0 hi ho
    · obtain rfl := hne hik
      have h1 := P.thr k x h0 hop
      unfold outO
      split
      · rw [hasK_other]
        · exact h1
        · intro hh
          exact hik (P.uni k i x c h0 hi hop ho (hh.trans ht.symm))
      · exact h1
  · intro k l x y hx hy h1 h2 h3
    obtain ⟨c0, g0, gb, gne, geq⟩ := get1 k x hx
    obtain ⟨c1, g1, gb1, gne1, geq1⟩ := get1 l y hy
    have hop : ∀ {k x c0}, (k ≠ i → x = c0) → (k = i → c0 = c ∧ x = upd e c) → x.opn = true → c0.opn = true := by
      intro k x c0 a b hx
      by_cases hik : k = i
      · rw [(b hik).1]; exact ho
      · rw [← a hik]; exact hx
    exact P.uni k l c0 c1 g0 g1 (hop gne geq h1) (hop gne1 geq1 h2) (by rw [← gb, ← gb1]; exact h3)
  · intro hcl
    rcases w5 hcl with hc0 | hk10
    · obtain ⟨k, c0, h1, h2, h3⟩ := P.clo hc0
      obtain ⟨y, hy, hb⟩ := get2 k c0 h2
      have : e.kind ≠ 10 := (w6 hc0).2
      exact ⟨k, y, by rw [hK, outK, if_neg this]; exact h1, hy, by rw [hb]; exact h3⟩
    · obtain ⟨y, hy, hb⟩ := get2 i c hi
      exact ⟨i, y, by rw [hK, outK, if_pos hk10]; exact hc, hy, by rw [hb, hw]; exact w2 hk10⟩
  · intro j x hj hx
    rcases snoc_get hj with ⟨hj, _⟩ | ⟨rfl, rfl⟩
    · exact P.cli j x hj hx
    · right
      have hclo : e.kind = 12 ∨ e.kind = 13 → False := by
        intro hh
        obtain ⟨a, b⟩ := w3 hh
        obtain ⟨k, c0, h1, h2, h3⟩ := P.clo a
        have : k = i := by omega
        subst this
        rw [hi] at h2
        cases h2
        rw [hw] at h3
        omega
      by_cases h2 : e.kind = 2
      · exact .inl h2
      · right
        cases hh : isDoes e.kind with
        | false =>
          exfalso
          rcases rule_kinds w7 h2 hh with h | h | h | h | h
          · have := w1 (.inl h); omega
          · have := w1 (.inr (.inl h)); omega
          · have := w1 (.inr (.inr (.inl h))); omega
          · have := w2 h; omega
          · exact hclo (.inl h)
        | true => exact ⟨rfl, fun h => by have := w1 (.inr (.inr (.inr h))); omega, fun h => hclo (.inr h)⟩
theorem PInv.step {m m1 : Ma} {h : List Ev} {e : Ev} (P : PInv m h) (hs : stepM m e = some m1) : PInv m1 (h ++ [e]) := by
  rcases step_cases hs with ⟨h1, h2, h3, h4, h5, rfl⟩ | ⟨h1, i, c, h2, h3, h4, h5, h6, h7, h8⟩
  · exact P.begin h1 h2 h3 ⟨h4, h5⟩
  · exact P.event h1 h2 h3 h4 h5 h6 h7 h8
theorem PInv.start (n : Int) : PInv (new n) [] := by
  constructor
  all_goals simp [new]
end Go.Proofs.Ytpnkkdpggofanaa

namespace Go.Proofs.Ytpnkkdpggofanaa
open Go.Shelf Go.RowKit Go.Lib Go.Sort Go.Proofs

theorem play_append {m : Ma} {l1 : List Ev} (l2 : List Ev) (h : All m l1) : playM m (l1 ++ l2) = ((playM (playM m l1).1 l2).1, l1.length + (playM (playM m l1).1 l2).2) := by
  induction l1 generalizing m with
  | nil => simp [playM]
  | cons x l1 ih =>
    obtain ⟨m', hs, ha⟩ := all_cons h
    rw [List.cons_append, playM, playM, hs]
    simp only
    rw [ih ha]
    simp only [List.length_cons, Prod.mk.injEq, true_and]
    omega
theorem all_append {m : Ma} {l1 l2 : List Ev} (h1 : All m l1) (h2 : All (playM m l1).1 l2) : All m (l1 ++ l2) := by
  unfold All
  rw [play_append l2 h1, List.length_append]
  show l1.length + (playM (playM m l1).1 l2).2 = _
  rw [h2]
theorem play_end {m : Ma} {l1 : List Ev} (l2 : List Ev) (h : All m l1) : (playM m (l1 ++ l2)).1 = (playM (playM m l1).1 l2).1 := by rw [play_append l2 h]
theorem all_take {m : Ma} {l : List Ev} (h : All m l) (k : Nat) : All m (l.take k) := by
  induction l generalizing m k with
  | nil => simpa using h
  | cons x l ih =>
    obtain ⟨m', hs, ha⟩ := all_cons h
    cases k with
    | zero => simp [All, playM]
    | succ k =>
      have := ih ha k
      unfold All at *
      rw [List.take_succ_cons, playM, hs]
      simp only [List.length_cons]
      rw [this]
theorem all_step {m : Ma} {l : List Ev} (h : All m l) (k : Nat) (hk : k < l.length) : stepM (playM m (l.take k)).1 l[k] = some (playM m (l.take (k + 1))).1 := by
  induction l generalizing m k with
  | nil => simp at hk
  | cons x l ih =>
    obtain ⟨m', hs, ha⟩ := all_cons h
    cases k with
    | zero => simp [playM, hs]
    | succ k =>
      have := ih ha k (by simpa using hk)
      simp only [List.take_succ_cons, List.getElem_cons_succ, playM, hs]
      exact this
theorem PInv.play {m : Ma} {h l : List Ev} (P : PInv m h) (ha : All m l) : PInv (playM m l).1 (h ++ l) := by
  induction l generalizing m h with
  | nil => simpa [playM] using P
  | cons x l ih =>
    obtain ⟨m', hs, ha'⟩ := all_cons ha
    have := ih (P.step hs) ha'
    rw [playM, hs]
    simpa using this
theorem pinv_of {n : Int} {r : List Ev} (ha : All (new n) r) : PInv (playM (new n) r).1 r := by
  have := (PInv.start n).play ha
  simpa using this

theorem mem_refA (l : List Ev) (k : Nat) (i : Nat) (hi : i < l.length) (hik : i < k) (h1 : l[i].kind = 1) (h2 : firstE l l[i].call 1 = (i : Int)) : (⟨l[i].call, l[i].thr, l[i].what, i, firstE l l[i].call 3, firstE l l[i].call 2⟩ : OpD) ∈ refA l k := by
  induction k with
  | zero => omega
  | succ k ih =>
    rw [refA]
    by_cases he : i = k
    · subst he
      rw [List.getElem?_eq_getElem hi]
      simp only
      rw [if_pos ⟨h1, h2⟩]
      simp
    · have := ih (by omega)
      split
      · split
        · exact List.mem_append_left _ this
        · exact this
      · exact this
theorem aget_op (r : List Ev) {o : OpD} (ho : o ∈ opsOf r) : aget (opMap (opsOf r)) o.no = some o := by
  rw [aget_mem (by rw [opMap_keys]; exact opsOf_nodup r)]
  exact List.mem_map.2 ⟨o, ho, rfl⟩
theorem get_of {l : List Ev} {j : Nat} {e : Ev} (h : l[j]? = some e) : ∃ hj : j < l.length, l[j] = e := List.getElem?_eq_some_iff.1 h

/-- An event's call: its op. -/
structure OpAt (r : List Ev) (j : Nat) (e : Ev) (o : OpD) : Prop where
  mem : o ∈ opsOf r
  no : o.no = e.call
  thr : o.thr = e.thr
  what : o.what = e.what
  beg : ∃ (b : Nat) (eb : Ev), o.beg = b ∧ r[b]? = some eb ∧ eb.kind = 1 ∧ eb.call = e.call ∧ eb.thr = e.thr ∧ eb.what = e.what ∧ b ≤ j ∧ (e.kind = 1 → b = j)
  did : isDoes e.kind = true → o.did = j
  fin : e.kind = 2 → o.fin = j
theorem op_of {n : Int} {r : List Ev} (ha : All (new n) r) {j : Nat} {e : Ev} (hj : r[j]? = some e) : ∃ o, OpAt r j e o := by
  have P := pinv_of ha
  obtain ⟨i, c, h1, h2, h3, h4, _⟩ := P.ev j e hj
  obtain ⟨b, g1, g2, g3, g4⟩ := P.bg i c h2
  obtain ⟨hb, hbe⟩ := get_of g1
  have hf : firstE r r[b].call 1 = (b : Int) := by
    rw [firstE_iff r _ 1 b hb, hit1, hbe]
    refine ⟨by simp [g2], ?_⟩
    rintro ⟨q, hq, hqb, hh⟩
    rw [hit1] at hh
    simp at hh
    have := (g4 q r[q] (List.getElem?_eq_getElem hq) (by rw [hh.1, g3])).2 hh.2
    omega
  have hm := mem_refA r r.length b hb hb (by rw [hbe]; exact g2) hf
  have hbc : r[b].call = e.call := by rw [hbe, g3, h1]
  rw [show refA r r.length = opsOf r by rw [opsOf_ref]; rfl] at hm
  refine ⟨_, hm, hbc, by rw [hbe]; exact h3.symm, by rw [hbe]; exact h4.symm, ⟨b, c.bg, rfl, g1, g2, by rw [g3, h1], h3.symm, h4.symm, (g4 j e hj h1).1, fun h => ((g4 j e hj h1).2 h).symm⟩, fun hd => ?_, fun hd => ?_⟩
  · obtain ⟨hjl, hje⟩ := get_of hj
    rw [hbc]
    show firstE r e.call 3 = _
    rw [firstE_iff r _ 3 j hjl, hit3, hje]
    refine ⟨by simp [hd], ?_⟩
    rintro ⟨q, hq, hqb, hh⟩
    rw [hit3] at hh
    simp only [Bool.and_eq_true, beq_iff_eq] at hh
    cases hdn : c.done with
    | false => have := (P.nd i c h2 hdn j e hj h1).1; rw [hd] at this; cases this
    | true =>
      obtain ⟨d, ed, _, _, _, _, k5⟩ := P.dn i c h2 hdn
      have e1 := (k5 j e hj h1).1 hd
      have e2 := (k5 q r[q] (List.getElem?_eq_getElem hq) (by rw [hh.1, h1])).1 hh.2
      omega
  · obtain ⟨hjl, hje⟩ := get_of hj
    rw [hbc]
    show firstE r e.call 2 = _
    rw [firstE_iff r _ 2 j hjl, hit2, hje]
    refine ⟨by simp [hd], ?_⟩
    rintro ⟨q, hq, hqb, hh⟩
    rw [hit2] at hh
    simp only [Bool.and_eq_true, beq_iff_eq] at hh
    cases hdn : c.opn with
    | true => exact absurd hd (P.op i c h2 hdn j e hj h1)
    | false =>
      obtain ⟨_, f, ef, _, _, _, _, _, _, k7⟩ := P.cl i c h2 hdn
      have e1 := (k7 j e hj h1).2 hd
      have e2 := (k7 q r[q] (List.getElem?_eq_getElem hq) (by rw [hh.1, h1])).2 hh.2
      omega
theorem OpAt.look {r : List Ev} {j : Nat} {e : Ev} {o : OpD} (h : OpAt r j e o) : aget (opMap (opsOf r)) e.call = some o := by rw [← h.no]; exact aget_op r h.mem
theorem OpAt.uniq {r : List Ev} {j j' : Nat} {e e' : Ev} {o o' : OpD} (h : OpAt r j e o) (h' : OpAt r j' e' o') (hc : e.call = e'.call) : o = o' := by
  have := h.look
  rw [hc, h'.look] at this
  simpa using this.symm
theorem did_at (l : List Ev) {x : OpD} (hx : x ∈ opsOf l) (h0 : 0 ≤ x.did) : ∃ k, ∃ h : k < l.length, x.did = (k : Int) ∧ l[k].call = x.no ∧ isDoes l[k].kind = true := by
  obtain ⟨i, hi, _, _, rfl⟩ := opsOf_mem l x hx
  simp only at h0 ⊢
  rcases firstE_lt l l[i].call 3 with h | ⟨k, hk, h⟩
  · omega
  · have := ((firstE_iff l _ 3 k hk).1 h).1
    rw [hit3] at this
    simp at this
    exact ⟨k, hk, h, this.1, this.2⟩
/-- Whoever ended did ahead of that, and was told what it did. -/
theorem op_end {n : Int} {r : List Ev} (ha : All (new n) r) {o : OpD} (ho : o ∈ opsOf r) (h0 : 0 ≤ o.fin) :
    ∃ (d f : Nat) (ed ef : Ev), o.did = d ∧ o.fin = f ∧ d < f ∧ r[d]? = some ed ∧ r[f]? = some ef ∧ ed.call = o.no ∧ ef.call = o.no ∧ isDoes ed.kind = true ∧ ef.kind = 2 ∧ ef.thr = o.thr ∧ ef.what = o.what ∧ dv ed = (ef.id, ef.gen, ef.err) := by
  have P := pinv_of ha
  obtain ⟨f, hf, f1, f2, f3⟩ := fin_at r ho h0
  have hfe : r[f]? = some r[f] := List.getElem?_eq_getElem hf
  obtain ⟨i, c, h1, h2, h3, h4, _⟩ := P.ev f _ hfe
  obtain ⟨o2, ho2⟩ := op_of ha hfe
  have : o2 = o := no_inj (opsOf_nodup r) ho2.mem ho (by rw [ho2.no, f2])
  subst this
  cases hop : c.opn with
  | true => exact absurd f3 (P.op i c h2 hop f _ hfe h1)
  | false =>
    obtain ⟨hdn, f', ef, g1, g2, g3, g4, g5, g6, g7⟩ := P.cl i c h2 hop
    obtain rfl := (g7 f _ hfe h1).2 f3
    rw [hfe] at g1
    cases g1
    obtain ⟨d, ed, k1, k2, k3, k4, k5⟩ := P.dn i c h2 hdn
    obtain ⟨o3, ho3⟩ := op_of ha k1
    have : o3 = o2 := ho3.uniq ho2 (by rw [k2, h1])
    subst this
    exact ⟨d, f, ed, _, ho3.did k3, f1, (k5 f _ hfe h1).2 f3, k1, hfe, by rw [← ho3.no], by rw [← ho2.no], k3, f3, ho2.thr.symm, ho2.what.symm, by rw [k4, g4, g5, g6]⟩
theorem op_did {n : Int} {r : List Ev} (ha : All (new n) r) {o : OpD} (ho : o ∈ opsOf r) (h0 : 0 ≤ o.did) : o.beg < o.did := by
  obtain ⟨k, hk, h1, h2, h3⟩ := did_at r ho h0
  obtain ⟨o2, ho2⟩ := op_of ha (List.getElem?_eq_getElem hk)
  have : o2 = o := no_inj (opsOf_nodup r) ho2.mem ho (by rw [ho2.no, h2])
  subst this
  obtain ⟨b, eb, e1, e2, e3, _, _, _, e7, _⟩ := ho2.beg
  have : b ≠ k := by
    rintro rfl
    obtain ⟨hb, hbe⟩ := get_of e2
    rw [hbe, e3] at h3
    cases h3
  omega

/-- What order.Serial puts at a client's event by which it is done. -/
def opAt (r : List Ev) (c : Int) : OpD := (aget (opMap (opsOf r)) c).getD opZ
def bgE (r : List Ev) (e : Ev) : Ev := (r[(opAt r e.call).beg.toNat]?).getD evZ
def anE (r : List Ev) (e : Ev) : Ev := ansE r (opAt r e.call) e
theorem OpAt.at {r : List Ev} {j : Nat} {e : Ev} {o : OpD} (h : OpAt r j e o) : opAt r e.call = o := by unfold opAt; rw [h.look]; rfl
def Cli (w : Int) : Prop := 1 ≤ w ∧ w ≤ 5
instance (w : Int) : Decidable (Cli w) := by unfold Cli; infer_instance
theorem serStep_eq {n : Int} {r : List Ev} (ha : All (new n) r) {j : Nat} {e : Ev} (hj : r[j]? = some e) (s : List (Int × Int) × List Ev) :
    serStep r (opMap (opsOf r)) s j e = if Cli e.what then (if isDoes e.kind = true then putP (putP (putP s (bgE r e)) e) (anE r e) else s) else putP s e := by
  obtain ⟨o, ho⟩ := op_of ha hj
  obtain ⟨b, eb, e1, e2, e3, e4, e5, e6, e7, e8⟩ := ho.beg
  have hcli := (pinv_of ha).cli j e hj
  unfold serStep
  rw [ho.look]
  simp only
  rw [if_neg (by omega), ho.what]
  by_cases hc : Cli e.what
  · rw [if_pos hc, if_neg (by unfold Cli at hc; omega)]
    by_cases hd : isDoes e.kind = true
    · rw [if_pos hd, if_neg (by rintro (h | h) <;> (rw [h] at hd; cases hd)), if_pos (ho.did hd).symm]
      unfold bgE anE
      rw [ho.at]
    · rw [if_neg hd]
      rcases hcli (by unfold Cli at hc; omega) with h | h | h
      · rw [if_pos (.inl h)]
      · rw [if_pos (.inr h)]
      · exact absurd h.1 hd
  · rw [if_neg hc, if_pos (by unfold Cli at hc; omega)]
    by_cases hk : e.kind = 1
    · have := e8 hk
      rw [if_pos (.inr (by omega))]
    · rw [if_pos (.inl hk)]
theorem bgE_eq {n : Int} {r : List Ev} (ha : All (new n) r) {j : Nat} {e : Ev} (hj : r[j]? = some e) {k : Nat} {i : Nat} {c : Cl} (hc : (playM (new n) (r.take k)).1.calls[i]? = some c) (he : e.call = (i : Int) + 1) : bgE r e = c.bg := by
  obtain ⟨o, ho⟩ := op_of ha hj
  obtain ⟨b, eb, e1, e2, e3, e4, e5, e6, e7, e8⟩ := ho.beg
  unfold bgE
  rw [ho.at, e1]
  simp only [Int.toNat_natCast, e2, Option.getD_some]
  obtain ⟨b', g1, g2, g3, g4⟩ := (pinv_of (all_take ha k)).bg i c hc
  have g1' : r[b']? = some c.bg := by
    rw [List.getElem?_take] at g1
    split at g1
    · exact g1
    · cases g1
  have P := pinv_of ha
  obtain ⟨i2, c2, h1, h2, _⟩ := P.ev j e hj
  obtain rfl : i = i2 := by omega
  obtain ⟨b3, _, _, _, k4⟩ := P.bg i c2 h2
  have q1 := (k4 b eb e2 (by omega)).2 e3
  have q2 := (k4 b' c.bg g1' g3).2 g2
  obtain rfl : b = b' := by omega
  rw [g1'] at e2
  simpa using e2.symm
theorem anE_props {n : Int} {r : List Ev} (ha : All (new n) r) {j : Nat} {e : Ev} (hj : r[j]? = some e) (hc : Cli e.what) (hd : isDoes e.kind = true) :
    (anE r e).kind = 2 ∧ (anE r e).call = e.call ∧ (anE r e).thr = e.thr ∧ (anE r e).what = e.what ∧ dv e = ((anE r e).id, (anE r e).gen, (anE r e).err) := by
  obtain ⟨o, ho⟩ := op_of ha hj
  have hcli := (pinv_of ha).cli j e hj (by unfold Cli at hc; omega)
  unfold anE ansE
  rw [ho.at]
  by_cases h0 : 0 ≤ o.fin
  · rw [if_pos h0]
    obtain ⟨d, f, ed, ef, h1, h2, h3, h4, h5, h6, h7, h8, h9, h10, h11, h12⟩ := op_end ha ho.mem h0
    have : d = j := by have := ho.did hd; omega
    subst this
    rw [hj] at h4
    cases h4
    rw [h2]
    simp only [Int.toNat_natCast, h5, Option.getD_some]
    exact ⟨h9, by rw [h7, ho.no], by rw [h10, ho.thr], by rw [h11, ho.what], h12⟩
  · rw [if_neg h0]
    by_cases h9 : e.kind = 9
    · rw [if_pos h9]
      exact ⟨rfl, ho.no, ho.thr, ho.what, by rw [dv, if_pos h9]⟩
    · rw [if_neg h9]
      refine ⟨rfl, ho.no, ho.thr, ho.what, ?_⟩
      rcases hcli with h | h | ⟨_, h1, h2⟩
      · rw [h] at hd; cases hd
      · rw [h] at hd; cases hd
      · rw [dv, if_neg h9, if_neg (by omega)]
end Go.Proofs.Ytpnkkdpggofanaa

namespace Go.Proofs.Ytpnkkdpggofanaa
open Go.Shelf Go.RowKit Go.Lib Go.Sort Go.Proofs

/-- The machine of the serial trace beside the machine of the trace. -/
structure Rel (m : Ma) (N : List (Int × Int)) (C : List Cl) (O : List (Int × Bool)) (k : Int) : Prop where
  len : C.length = N.length
  keys : ∀ c v, aget N c = some v → 1 ≤ c ∧ c ≤ m.calls.length ∧ 1 ≤ v ∧ v ≤ N.length
  non : ∀ (i : Nat) (c : Cl), m.calls[i]? = some c → ¬ Cli c.bg.what → ∃ v : Nat, aget N ((i : Int) + 1) = some ((v : Int) + 1) ∧ C[v]? = some (altC c ((v : Int) + 1) c.opn c.done c.id c.gen c.err)
  cli : ∀ (i : Nat) (c : Cl), m.calls[i]? = some c → Cli c.bg.what → c.done = false → aget N ((i : Int) + 1) = none
  inj : ∀ c c' v, aget N c = some v → aget N c' = some v → c = c'
  thr : ∀ t, hasK O t = true → ∃ (i : Nat) (c : Cl), m.calls[i]? = some c ∧ ¬ Cli c.bg.what ∧ c.opn = true ∧ c.bg.thr = t
  clo : m.closed = true → aget N m.closer = some k

theorem aput_fresh_len {N : List (Int × Int)} {c v : Int} (h : aget N c = none) : (aput N c v).length = N.length + 1 := by
  rw [aput_absent N c v (aget_none.1 h)]; simp

theorem Rel.start (n : Int) : Rel (new n) [] [] [] 0 := by
  constructor
  all_goals simp [new, aget, hasK]

section
variable {m : Ma} {N : List (Int × Int)} {C : List Cl} {O : List (Int × Bool)} {k : Int}

/-- Nobody's new number is one that was given. -/
theorem Rel.put (R : Rel m N C O k) {c : Int} (h : aget N c = none) (v : Int) : aget (aput N c ((N.length : Int) + 1)) c = some ((N.length : Int) + 1) ∧ (∀ c', c' ≠ c → aget (aput N c ((N.length : Int) + 1)) c' = aget N c') ∧ (∀ c' v, aget (aput N c ((N.length : Int) + 1)) c' = some v → (c' = c ∧ v = (N.length : Int) + 1) ∨ (c' ≠ c ∧ aget N c' = some v ∧ v ≤ N.length)) := by
  refine ⟨by rw [aget_put, if_pos rfl], fun c' hc => by rw [aget_put, if_neg hc], fun c' v hv => ?_⟩
  rw [aget_put] at hv
  by_cases hc : c' = c
  · rw [if_pos hc] at hv; exact .inl ⟨hc, by simpa using hv.symm⟩
  · rw [if_neg hc] at hv; exact .inr ⟨hc, hv, (R.keys c' v hv).2.2.2⟩

/-- A call that is no client's begins. -/
theorem Rel.beginN (R : Rel m N C O k) {e : Ev} (hk : e.kind = 1) (hc : e.call = (m.calls.length : Int) + 1) (hw : ¬ Cli e.what) :
    Rel { m with calls := m.calls ++ [⟨e, true, false, 0, 0, 0⟩], opn := aput m.opn e.thr true } (aput N e.call ((N.length : Int) + 1)) (C ++ [⟨altE e ((N.length : Int) + 1), true, false, 0, 0, 0⟩]) (aput O e.thr true) k := by
  have hno : aget N e.call = none := by
    cases h : aget N e.call with
    | none => rfl
    | some v => have := R.keys _ _ h; omega
  obtain ⟨p1, p2, p3⟩ := R.put hno 0
  constructor
  · rw [aput_fresh_len hno]; simp [R.len]
  · intro c v hv
    rw [aput_fresh_len hno]
    rcases p3 c v hv with ⟨rfl, rfl⟩ | ⟨_, h, _⟩
    · simp; omega
    · have := R.keys c v h; simp; omega
  · intro i c hi hcl
    rcases calls_snoc hi with ⟨hi, hl⟩ | ⟨rfl, rfl⟩
    · obtain ⟨v, h1, h2⟩ := R.non i c hi hcl
      exact ⟨v, by rw [p2 _ (by omega)]; exact h1, calls_old h2⟩
    · refine ⟨N.length, by rw [← hc]; exact p1, ?_⟩
      rw [← R.len]
      simp [altC, altE]
  · intro i c hi hcl hd
    rcases calls_snoc hi with ⟨hi, hl⟩ | ⟨rfl, rfl⟩
    · rw [p2 _ (by omega)]; exact R.cli i c hi hcl hd
    · exact absurd hcl hw
  · intro c c' v h1 h2
    rcases p3 c v h1 with ⟨rfl, rfl⟩ | ⟨_, g1, g2⟩
    · rcases p3 c' _ h2 with ⟨rfl, _⟩ | ⟨_, g3, g4⟩
      · rfl
      · omega
    · rcases p3 c' v h2 with ⟨rfl, rfl⟩ | ⟨_, g3, g4⟩
      · omega
      · exact R.inj c c' v g1 g3
  · intro t ht
    by_cases h : t = e.thr
    · exact ⟨m.calls.length, ⟨e, true, false, 0, 0, 0⟩, by simp, hw, rfl, h.symm⟩
    · rw [hasK_other h] at ht
      obtain ⟨i, c, h1, h2⟩ := R.thr t ht
      exact ⟨i, c, calls_old h1, h2⟩
  · intro h
    have h1 := R.clo h
    have := R.keys _ _ h1
    show aget _ m.closer = _
    rw [p2 _ (by omega)]; exact h1

/-- A client's begins: nothing is put. -/
theorem Rel.beginC (R : Rel m N C O k) {e : Ev} (hc : e.call = (m.calls.length : Int) + 1) (hw : Cli e.what) :
    Rel { m with calls := m.calls ++ [⟨e, true, false, 0, 0, 0⟩], opn := aput m.opn e.thr true } N C O k := by
  constructor
  · exact R.len
  · intro c v hv
    have := R.keys c v hv
    simp; omega
  · intro i c hi hcl
    rcases calls_snoc hi with ⟨hi, hl⟩ | ⟨rfl, rfl⟩
    · exact R.non i c hi hcl
    · exact absurd hw hcl
  · intro i c hi hcl hd
    rcases calls_snoc hi with ⟨hi, hl⟩ | ⟨rfl, rfl⟩
    · exact R.cli i c hi hcl hd
    · cases h : aget N ((m.calls.length : Int) + 1) with
      | none => rfl
      | some v => have := R.keys _ _ h; omega
  · exact R.inj
  · intro t ht
    obtain ⟨i, c, h1, h2⟩ := R.thr t ht
    exact ⟨i, c, calls_old h1, h2⟩
  · exact R.clo

/-- What a rule does to each call. -/
theorem calls1 {m m1 : Ma} {e : Ev} {i : Nat} {c : Cl} (hi : m.calls[i]? = some c) (hr : ruleM m i c e = some m1) :
    (∀ (q : Nat) (x : Cl), m1.calls[q]? = some x → (q ≠ i ∧ m.calls[q]? = some x) ∨ (q = i ∧ x = upd e c)) ∧ (∀ (q : Nat) (x : Cl), q ≠ i → m.calls[q]? = some x → m1.calls[q]? = some x) ∧ m1.calls[i]? = some (upd e c) ∧ m1.calls.length = m.calls.length := by
  obtain ⟨hC, _, _⟩ := rule_calls hr
  refine ⟨fun q x hx => ?_, fun q x hq hx => ?_, ?_, by rw [hC, outC_len]⟩
  · rw [hC, outC_get] at hx
    by_cases h : i = q
    · subst h
      rw [if_pos rfl, hi] at hx
      exact .inr ⟨rfl, by simpa using hx.symm⟩
    · rw [if_neg h] at hx
      exact .inl ⟨fun e => h e.symm, hx⟩
  · rw [hC, outC_get, if_neg (fun e => hq e.symm)]; exact hx
  · rw [hC, outC_get, if_pos rfl, hi]; rfl

theorem upd_alt (e : Ev) (c : Cl) (v : Int) : upd e (altC c v c.opn c.done c.id c.gen c.err) = altC (upd e c) v (upd e c).opn (upd e c).done (upd e c).id (upd e c).gen (upd e c).err := by
  unfold upd
  split
  · rfl
  · split <;> rfl

/-- An event of a call that is no client's. -/
theorem Rel.event (R : Rel m N C O k) {m1 : Ma} {e : Ev} (hk : e.kind ≠ 1) {i : Nat} {c : Cl} (hc : e.call = (i : Int) + 1) (hi : m.calls[i]? = some c) (ho : c.opn = true) (hd : some c.done = ruleOf e.kind) (ht : c.bg.thr = e.thr) (hw : c.bg.what = e.what) (hr : ruleM m i c e = some m1) (hcl : ¬ Cli e.what) :
    ∃ v : Int, aget N e.call = some v ∧ ∃ C1 O1 k1, stepM (alt m C O k) (altE e v) = some (alt m1 C1 O1 k1) ∧ Rel m1 N C1 O1 k1 := by
  obtain ⟨w1, w2, w3, w4, w5, w6, w7⟩ := rule_what hr hw
  obtain ⟨hC, hO, hK⟩ := rule_calls hr
  obtain ⟨q1, q2, q3, q4⟩ := calls1 hi hr
  obtain ⟨v, h1, h2⟩ := R.non i c hi (by rw [hw]; exact hcl)
  have hv := R.keys _ _ h1
  have hvC : v < C.length := (List.getElem?_eq_some_iff.1 h2).1
  refine ⟨(v : Int) + 1, by rw [hc]; exact h1, outC e C v, outO e O, outK (altE e ((v : Int) + 1)) k, ?_, ?_⟩
  · have hal := rule_alt (m := m) (c := c) (e := e) (i := i) C O k ((v : Int) + 1) ((v : Int) + 1) c.opn c.done c.id c.gen c.err v (fun h => by
      obtain ⟨a, b⟩ := w3 h
      have := R.clo a
      rw [b, hc, h1] at this
      constructor
      · intro _; simpa using this.symm
      · intro _; exact b) (fun _ => ⟨rfl, rfl, rfl⟩)
    rw [hr] at hal
    unfold stepM
    rw [if_neg (by simp [altE, hk])]
    rw [if_neg (by show ¬ (decide ((v : Int) + 1 < 1) || decide ((v : Int) + 1 > (C.length : Int))) = true; simp only [Bool.or_eq_true, decide_eq_true_eq]; omega)]
    have : ((altE e ((v : Int) + 1)).call - 1).toNat = v := by simp [altE]
    rw [this]
    show (match C[v]? with | none => none | some c => _) = _
    rw [h2]
    simp only
    rw [if_neg ?_]
    · exact hal
    · have hs : (ruleOf e.kind).isNone = false := by rw [← hd]; rfl
      have hb : (some c.done != ruleOf e.kind) = false := by rw [hd]; simp
      simp [altC, altE, hs, ho, hb, ht, hw]
  · constructor
    · rw [outC_len]; exact R.len
    · intro c' v' h; rw [q4]; exact R.keys c' v' h
    · intro q x hx hxc
      rcases q1 q x hx with ⟨hq, hx0⟩ | ⟨rfl, rfl⟩
      · obtain ⟨v', g1, g2⟩ := R.non q x hx0 hxc
        refine ⟨v', g1, ?_⟩
        rw [outC_get, if_neg]
        · exact g2
        · rintro rfl
          have := R.inj _ _ _ h1 g1
          omega
      · exact ⟨v, h1, by rw [outC_get, if_pos rfl, h2]; simp only [Option.map_some]; rw [upd_alt]⟩
    · intro q x hx hxc hxd
      rcases q1 q x hx with ⟨hq, hx0⟩ | ⟨rfl, rfl⟩
      · exact R.cli q x hx0 hxc hxd
      · rw [upd_bg, hw] at hxc; exact absurd hxc hcl
    · exact R.inj
    · intro t ht'
      have key : hasK O t = true → t ≠ e.thr ∨ e.kind ≠ 2 → ∃ (i : Nat) (c : Cl), m1.calls[i]? = some c ∧ ¬ Cli c.bg.what ∧ c.opn = true ∧ c.bg.thr = t := by
        intro hO' hor
        obtain ⟨q, x, g1, g2, g3, g4⟩ := R.thr t hO'
        by_cases hq : q = i
        · subst hq
          rw [hi] at g1
          cases g1
          refine ⟨q, _, q3, by rw [upd_bg]; exact g2, ?_, by rw [upd_bg]; exact g4⟩
          have : e.kind ≠ 2 := by
            rcases hor with h | h
            · exact absurd (g4.symm.trans ht) h
            · exact h
          unfold upd
          rw [if_neg this]
          split <;> exact ho
        · exact ⟨q, x, q2 q x hq g1, g2, g3, g4⟩
      unfold outO at ht'
      split at ht'
      · rename_i h2'
        by_cases h : t = e.thr
        · subst h; rw [hasK_self] at ht'; cases ht'
        · rw [hasK_other h] at ht'; exact key ht' (.inl h)
      · rename_i h2'
        exact key ht' (.inr h2')
    · intro hcl1
      rw [hK]
      unfold outK
      by_cases h10 : e.kind = 10
      · rw [if_pos h10, if_pos (by exact h10), hc]; exact h1
      · rw [if_neg h10, if_neg (by exact h10)]
        rcases w5 hcl1 with h | h
        · exact R.clo h
        · exact absurd h h10

/-- A client's answer: nothing is put. -/
theorem Rel.answer (R : Rel m N C O k) {m1 : Ma} {e : Ev} (hk : e.kind = 2) {i : Nat} {c : Cl} (hi : m.calls[i]? = some c) (hw : c.bg.what = e.what) (hr : ruleM m i c e = some m1) (hcl : Cli e.what) (hcd : c.done = true) :
    alt m1 C O k = alt m C O k ∧ Rel m1 N C O k := by
  obtain ⟨q1, q2, q3, q4⟩ := calls1 hi hr
  have hm : m1 = { m with calls := m1.calls, opn := m1.opn } := by
    unfold ruleM at hr
    simp only [hk] at hr
    unfold answerM at hr
    have hr' : (if (e.id != c.id || e.gen != c.gen || e.err != c.err) = true then none else some { m with calls := m.calls.modify i fun c => { c with opn := false }, opn := aput m.opn e.thr false }) = some m1 := hr
    split at hr'
    · cases hr'
    · cases hr'; rfl
  have hbg : (upd e c).bg = c.bg := upd_bg e c
  refine ⟨by rw [hm]; rfl, ?_⟩
  constructor
  · exact R.len
  · intro c' v' h; rw [q4]; exact R.keys c' v' h
  · intro q x hx hxc
    rcases q1 q x hx with ⟨hq, hx0⟩ | ⟨rfl, rfl⟩
    · exact R.non q x hx0 hxc
    · rw [hbg, hw] at hxc; exact absurd hcl hxc
  · intro q x hx hxc hxd
    rcases q1 q x hx with ⟨hq, hx0⟩ | ⟨rfl, rfl⟩
    · exact R.cli q x hx0 hxc hxd
    · exfalso
      have : (upd e c).done = c.done := by unfold upd; rw [if_neg (by rw [hk]; decide), if_pos hk]
      rw [this, hcd] at hxd; cases hxd
  · exact R.inj
  · intro t ht
    obtain ⟨q, x, g1, g2, g3, g4⟩ := R.thr t ht
    have hq : q ≠ i := by
      rintro rfl
      rw [hi] at g1
      cases g1
      rw [hw] at g2
      exact g2 hcl
    exact ⟨q, x, q2 q x hq g1, g2, g3, g4⟩
  · intro h
    rw [hm] at h ⊢
    exact R.clo h

/-- A client's event by which it is done: three are put. -/
theorem Rel.does (R : Rel m N C O k) {h : List Ev} (P : PInv m h) {m1 : Ma} {e a : Ev} {i : Nat} {c : Cl} (hd : isDoes e.kind = true) (hc : e.call = (i : Int) + 1) (hi : m.calls[i]? = some c) (ho : c.opn = true) (hdn : some c.done = ruleOf e.kind) (ht : c.bg.thr = e.thr) (hw : c.bg.what = e.what) (hr : ruleM m i c e = some m1) (hcl : Cli e.what)
    (ha : a.kind = 2 ∧ a.call = e.call ∧ a.thr = e.thr ∧ a.what = e.what ∧ dv e = (a.id, a.gen, a.err)) :
    aget N e.call = none ∧ ∃ C1 O1, All (alt m C O k) [altE c.bg ((N.length : Int) + 1), altE e ((N.length : Int) + 1), altE a ((N.length : Int) + 1)] ∧
      (playM (alt m C O k) [altE c.bg ((N.length : Int) + 1), altE e ((N.length : Int) + 1), altE a ((N.length : Int) + 1)]).1 = alt m1 C1 O1 k ∧ Rel m1 (aput N e.call ((N.length : Int) + 1)) C1 O1 k := by
  obtain ⟨w1, w2, w3, w4, w5, w6, w7⟩ := rule_what hr hw
  obtain ⟨hC, hO, hK⟩ := rule_calls hr
  obtain ⟨q1, q2, q3, q4⟩ := calls1 hi hr
  obtain ⟨b0, hb0, hb1, hb2, hb3⟩ := P.bg i c hi
  have hcd : c.done = false := by rw [does_rule hd] at hdn; simpa using hdn
  have hno : aget N e.call = none := by rw [hc]; exact R.cli i c hi (by rw [hw]; exact hcl) hcd
  have hk1 : e.kind ≠ 1 := by intro h; rw [h] at hd; cases hd
  have hk2 : e.kind ≠ 2 := by intro h; rw [h] at hd; cases hd
  have hk10 : e.kind ≠ 10 := by intro h; rw [h] at hd; cases hd
  have hOt : hasK O c.bg.thr = false := by
    cases hh : hasK O c.bg.thr with
    | false => rfl
    | true =>
      obtain ⟨q, x, g1, g2, g3, g4⟩ := R.thr _ hh
      have := P.uni q i x c g1 hi g3 ho g4
      subst this
      rw [hi] at g1
      cases g1
      rw [hw] at g2
      exact absurd hcl g2
  -- the call begins
  have s1 : stepM (alt m C O k) (altE c.bg ((N.length : Int) + 1)) = some (alt m (C ++ [altC c ((N.length : Int) + 1) true false 0 0 0]) (aput O c.bg.thr true) k) := by
    unfold stepM
    rw [if_pos (by simp [altE, hb1])]
    unfold beginM
    rw [if_neg]
    · rfl
    · unfold Cli at hcl
      have e1 : ((altE c.bg ((N.length : Int) + 1)).call != ((alt m C O k).calls.length : Int) + 1) = false := by simp [altE, alt, R.len]
      have e2 : hasK (alt m C O k).opn (altE c.bg ((N.length : Int) + 1)).thr = false := hOt
      have e3 : decide ((altE c.bg ((N.length : Int) + 1)).what < 1) = false := by rw [decide_eq_false_iff_not]; show ¬ c.bg.what < 1; omega
      have e4 : decide ((altE c.bg ((N.length : Int) + 1)).what > 7) = false := by rw [decide_eq_false_iff_not]; show ¬ c.bg.what > 7; omega
      rw [e1, e2, e3, e4]; decide
  -- it is done
  have hal := rule_alt (m := m) (c := c) (e := e) (i := i) (C ++ [altC c ((N.length : Int) + 1) true false 0 0 0]) (aput O c.bg.thr true) k ((N.length : Int) + 1) ((N.length : Int) + 1) true false 0 0 0 N.length (fun h => by
    exfalso
    obtain ⟨x, y⟩ := w3 h
    obtain ⟨q, z, g1, g2, g3⟩ := P.clo x
    have : q = i := by omega
    subst this
    rw [hi] at g2
    cases g2
    rw [hw] at g3
    unfold Cli at hcl; omega) (fun h => absurd h hk2)
  rw [hr] at hal
  simp only [Option.map_some] at hal
  have hoC : outC e (C ++ [altC c ((N.length : Int) + 1) true false 0 0 0]) N.length = C ++ [altC c ((N.length : Int) + 1) true true (dv e).1 (dv e).2.1 (dv e).2.2] := by
    apply List.ext_getElem?
    intro q
    rw [outC_get]
    by_cases hq : N.length = q
    · subst hq
      rw [if_pos rfl, ← R.len]
      simp [upd, hd, altC]
    · rw [if_neg hq]
      by_cases hl : q < C.length
      · rw [List.getElem?_append_left hl, List.getElem?_append_left hl]
      · rw [List.getElem?_eq_none (by simp; have := R.len; omega), List.getElem?_eq_none (by simp; have := R.len; omega)]
  have hoO : outO e (aput O c.bg.thr true) = aput O c.bg.thr true := by rw [outO, if_neg hk2]
  have hoK : outK (altE e ((N.length : Int) + 1)) k = k := by rw [outK, if_neg (by exact hk10)]
  rw [hoC, hoO, hoK] at hal
  have step_of : ∀ (x : Ev) (M : Ma) (cc : Cl), M.calls = C ++ [cc] → x.kind ≠ 1 → some cc.done = ruleOf x.kind → cc.opn = true → cc.bg.thr = x.thr → cc.bg.what = x.what → x.call = (N.length : Int) + 1 → stepM M x = ruleM M N.length cc x := by
    intro x M cc hM hx hdd hop htt hww hcc
    unfold stepM
    rw [if_neg (by simp [hx])]
    rw [if_neg (by rw [hM, hcc]; simp; have := R.len; omega)]
    have : (x.call - 1).toNat = N.length := by omega
    rw [this, hM, ← R.len]
    simp only [List.getElem?_append_right (Nat.le_refl _), Nat.sub_self, List.getElem?_cons_zero]
    have hs : (ruleOf x.kind).isNone = false := by rw [← hdd]; rfl
    have hb : (some cc.done != ruleOf x.kind) = false := by rw [hdd]; simp
    rw [if_neg (by simp [hs, hb, hop, htt, hww])]
  have s2 : stepM (alt m (C ++ [altC c ((N.length : Int) + 1) true false 0 0 0]) (aput O c.bg.thr true) k) (altE e ((N.length : Int) + 1)) = some (alt m1 (C ++ [altC c ((N.length : Int) + 1) true true (dv e).1 (dv e).2.1 (dv e).2.2]) (aput O c.bg.thr true) k) := by
    rw [step_of (altE e ((N.length : Int) + 1)) _ (altC c ((N.length : Int) + 1) true false 0 0 0) rfl hk1 (by show some false = ruleOf e.kind; rw [does_rule hd]) rfl ht hw rfl]
    exact hal
  -- it is answered
  obtain ⟨a1, a2, a3, a4, a5⟩ := ha
  have s3 : stepM (alt m1 (C ++ [altC c ((N.length : Int) + 1) true true (dv e).1 (dv e).2.1 (dv e).2.2]) (aput O c.bg.thr true) k) (altE a ((N.length : Int) + 1)) = some (alt m1 (C ++ [altC c ((N.length : Int) + 1) false true (dv e).1 (dv e).2.1 (dv e).2.2]) (aput (aput O c.bg.thr true) c.bg.thr false) k) := by
    rw [step_of (altE a ((N.length : Int) + 1)) _ (altC c ((N.length : Int) + 1) true true (dv e).1 (dv e).2.1 (dv e).2.2) rfl (by show a.kind ≠ 1; omega) (by show some true = ruleOf a.kind; rw [a1]; rfl) rfl (by show c.bg.thr = a.thr; rw [a3, ht]) (by show c.bg.what = a.what; rw [a4, hw]) rfl]
    unfold ruleM
    have hk2' : (altE a ((N.length : Int) + 1)).kind = 2 := a1
    simp only [hk2']
    show answerM _ _ _ _ = _
    unfold answerM
    rw [if_neg (by rw [a5]; simp [altC, altE])]
    have hmod : (C ++ [altC c ((N.length : Int) + 1) true true (dv e).1 (dv e).2.1 (dv e).2.2]).modify N.length (fun c => { c with opn := false }) = C ++ [altC c ((N.length : Int) + 1) false true (dv e).1 (dv e).2.1 (dv e).2.2] := by
      apply List.ext_getElem?
      intro q
      rw [List.getElem?_modify]
      by_cases hq : N.length = q
      · subst hq
        rw [← R.len]
        simp [altC]
      · simp only [hq, if_false]
        by_cases hl : q < C.length
        · rw [List.getElem?_append_left hl, List.getElem?_append_left hl]; simp
        · rw [List.getElem?_eq_none (by simp; have := R.len; omega), List.getElem?_eq_none (by simp; have := R.len; omega)]; rfl
    show some (alt m1 ((C ++ [altC c ((N.length : Int) + 1) true true (dv e).1 (dv e).2.1 (dv e).2.2]).modify N.length (fun c => { c with opn := false })) (aput (aput O c.bg.thr true) a.thr false) k) = _
    rw [hmod, a3, ht]
  obtain ⟨p1, p2, p3⟩ := R.put hno 0
  refine ⟨hno, C ++ [altC c ((N.length : Int) + 1) false true (dv e).1 (dv e).2.1 (dv e).2.2], aput (aput O c.bg.thr true) c.bg.thr false, ?_, ?_, ?_⟩
  · unfold All; simp [playM, s1, s2, s3]
  · simp only [playM, s1, s2, s3]
  · constructor
    · rw [aput_fresh_len hno]; simp [R.len]
    · intro c' v hv
      rw [aput_fresh_len hno, q4]
      have := (List.getElem?_eq_some_iff.1 hi).1
      rcases p3 c' v hv with ⟨rfl, rfl⟩ | ⟨_, h, _⟩
      · simp; omega
      · have := R.keys c' v h; simp; omega
    · intro q x hx hxc
      rcases q1 q x hx with ⟨hq, hx0⟩ | ⟨rfl, rfl⟩
      · obtain ⟨v, h1, h2⟩ := R.non q x hx0 hxc
        exact ⟨v, by rw [p2 _ (by omega)]; exact h1, calls_old h2⟩
      · rw [upd_bg, hw] at hxc; exact absurd hcl hxc
    · intro q x hx hxc hxd
      rcases q1 q x hx with ⟨hq, hx0⟩ | ⟨rfl, rfl⟩
      · rw [p2 _ (by omega)]; exact R.cli q x hx0 hxc hxd
      · exfalso
        rw [upd, if_pos hd] at hxd; cases hxd
    · intro c1 c2 v h1 h2
      rcases p3 c1 v h1 with ⟨rfl, rfl⟩ | ⟨_, g1, g2⟩
      · rcases p3 c2 _ h2 with ⟨rfl, _⟩ | ⟨_, g3, g4⟩
        · rfl
        · omega
      · rcases p3 c2 v h2 with ⟨rfl, rfl⟩ | ⟨_, g3, g4⟩
        · omega
        · exact R.inj c1 c2 v g1 g3
    · intro t ht'
      have h1 : hasK O t = true := by
        by_cases h : t = c.bg.thr
        · subst h; rw [hasK_self] at ht'; cases ht'
        · rw [hasK_other h, hasK_other h] at ht'; exact ht'
      obtain ⟨q, x, g1, g2, g3, g4⟩ := R.thr t h1
      have hq : q ≠ i := by
        rintro rfl
        rw [hi] at g1
        cases g1
        rw [hw] at g2
        exact g2 hcl
      exact ⟨q, x, q2 q x hq g1, g2, g3, g4⟩
    · intro h
      have h0 : m.closed = true := by
        rcases w5 h with h | h
        · exact h
        · exact absurd h hk10
      have h1 := R.clo h0
      rw [hK, outK, if_neg hk10]
      obtain ⟨q, x, g1, g2, g3⟩ := P.clo h0
      have : m.closer ≠ e.call := by
        intro hh
        have : q = i := by omega
        subst this
        rw [hi] at g2
        cases g2
        rw [hw] at g3
        unfold Cli at hcl; omega
      rw [p2 _ this]; exact h1
end
end Go.Proofs.Ytpnkkdpggofanaa

namespace Go.Proofs.Ytpnkkdpggofanaa
open Go.Shelf Go.RowKit Go.Lib Go.Sort Go.Proofs

/-- Each client's call stands alone. -/
def Trip (s : List Ev) : Prop := ∀ (j : Nat) (e : Ev), s[j]? = some e → Cli e.what → e.kind = 1 → ∃ e1 e2, s[j + 1]? = some e1 ∧ s[j + 2]? = some e2 ∧ e1.call = e.call ∧ isDoes e1.kind = true ∧ e2.call = e.call ∧ e2.kind = 2
theorem get_app {s t : List Ev} {j : Nat} {x : Ev} (h : s[j]? = some x) : (s ++ t)[j]? = some x := by
  rw [List.getElem?_append_left (List.getElem?_eq_some_iff.1 h).1]; exact h
theorem Trip.snoc {s : List Ev} (T : Trip s) {x : Ev} (h : ¬ Cli x.what) : Trip (s ++ [x]) := by
  intro j e hj hc hk
  rcases snoc_get hj with ⟨hj, _⟩ | ⟨_, rfl⟩
  · obtain ⟨e1, e2, h1, h2, h3⟩ := T j e hj hc hk
    exact ⟨e1, e2, get_app h1, get_app h2, h3⟩
  · exact absurd hc h
theorem Trip.three {s : List Ev} (T : Trip s) {a b c : Ev} (h1 : b.call = a.call) (h2 : isDoes b.kind = true) (h3 : c.call = a.call) (h4 : c.kind = 2) : Trip (s ++ [a, b, c]) := by
  intro j e hj hc hk
  by_cases hl : j < s.length
  · rw [List.getElem?_append_left hl] at hj
    obtain ⟨e1, e2, g1, g2, g3⟩ := T j e hj hc hk
    exact ⟨e1, e2, get_app g1, get_app g2, g3⟩
  · rw [List.getElem?_append_right (by omega)] at hj
    obtain ⟨q, rfl⟩ : ∃ q, j = s.length + q := ⟨j - s.length, by omega⟩
    rw [Nat.add_sub_cancel_left] at hj
    match q, hj with
    | 0, hj =>
      simp only [List.getElem?_cons_zero, Option.some.injEq] at hj
      subst hj
      refine ⟨b, c, ?_, ?_, h1, h2, h3, h4⟩
      · rw [List.getElem?_append_right (by omega)]; simp
      · rw [List.getElem?_append_right (by omega)]; simp
    | 1, hj =>
      simp only [List.getElem?_cons_succ, List.getElem?_cons_zero, Option.some.injEq] at hj
      subst hj
      rw [hk] at h2; cases h2
    | 2, hj =>
      simp only [List.getElem?_cons_succ, List.getElem?_cons_zero, Option.some.injEq] at hj
      subst hj
      omega
    | q + 3, hj => simp at hj

def ansKey (w i g : Int) (e : Ev) : Bool := e.kind == 2 && e.what == w && e.id == i && e.gen == g
def pend (w i g : Int) (c : Cl) : Bool := decide (Cli c.bg.what) && c.done && c.opn && c.bg.what == w && c.id == i && c.gen == g
theorem countP_modify (p : Cl → Bool) (f : Cl → Cl) : ∀ (l : List Cl) (i : Nat) (x : Cl), l[i]? = some x → (l.modify i f).countP p + (if p x then 1 else 0) = l.countP p + (if p (f x) then 1 else 0) := by
  intro l
  induction l with
  | nil => intro i x h; simp at h
  | cons y l ih =>
    intro i x h
    cases i with
    | zero =>
      simp only [List.getElem?_cons_zero, Option.some.injEq] at h
      subst h
      simp only [List.modify_zero_cons, List.countP_cons]
      omega
    | succ i =>
      simp only [List.getElem?_cons_succ] at h
      have := ih i x h
      simp only [List.modify_succ_cons, List.countP_cons]
      omega
theorem outC_modify (e : Ev) (C : List Cl) (i : Nat) : outC e C i = C.modify i (upd e) := by
  apply List.ext_getElem?
  intro q
  rw [outC_get, List.getElem?_modify]
  by_cases h : i = q
  · simp only [h, if_true]; rfl
  · simp [h]

theorem firsOf_app (s t : List Ev) : firsOf (s ++ t) = firsOf s ++ firsOf t := by simp [firsOf]
theorem firsOf_one (e : Ev) : firsOf [e] = if e.kind = 5 then [fireOf e] else [] := by
  by_cases h : e.kind = 5 <;> simp [firsOf, h]

theorem putP_one {N : List (Int × Int)} {out : List Ev} {e : Ev} (hk : e.kind = 1) : putP (N, out) e = (aput N e.call ((N.length : Int) + 1), out ++ [altE e ((N.length : Int) + 1)]) := by
  have h1 : putN N e = aput N e.call ((N.length : Int) + 1) := by rw [putN, if_pos hk]
  have h2 : putE (aput N e.call ((N.length : Int) + 1)) e = altE e ((N.length : Int) + 1) := by rw [putE, aget_put, if_pos rfl]; rfl
  show (putN N e, out ++ [putE (putN N e) e]) = _
  rw [h1, h2]
theorem putP_not {N : List (Int × Int)} {out : List Ev} {e : Ev} {v : Int} (hk : e.kind ≠ 1) (hv : aget N e.call = some v) : putP (N, out) e = (N, out ++ [altE e v]) := by
  have h1 : putN N e = N := by rw [putN, if_neg hk]
  have h2 : putE N e = altE e v := by rw [putE, hv]; rfl
  show (putN N e, out ++ [putE (putN N e) e]) = _
  rw [h1, h2]

/-- What is known of the serial trace of the first k events. -/
structure Sim (n : Int) (r : List Ev) (k : Nat) (s : List (Int × Int) × List Ev) (C : List Cl) (O : List (Int × Bool)) (x : Int) : Prop where
  all : All (new n) s.2
  fin : (playM (new n) s.2).1 = alt (playM (new n) (r.take k)).1 C O x
  rel : Rel (playM (new n) (r.take k)).1 s.1 C O x
  trip : Trip s.2
  fire : firsOf s.2 = firsOf (r.take k)
  does : s.2.countP (fun e => isDoes e.kind) = (r.take k).countP (fun e => isDoes e.kind)
  ans : ∀ w i g, s.2.countP (ansKey w i g) = (r.take k).countP (ansKey w i g) + (playM (new n) (r.take k)).1.calls.countP (pend w i g)

theorem sim {n : Int} {r : List Ev} (ha : All (new n) r) : ∀ k, k ≤ r.length → ∃ C O x, Sim n r k (serUpto r (opMap (opsOf r)) k) C O x := by
  intro k
  induction k with
  | zero =>
    intro _
    refine ⟨[], [], 0, ?_⟩
    constructor
    · simp [serUpto, All, playM]
    · simp [serUpto, playM, alt, new]
    · simpa [serUpto, playM] using Rel.start n
    · intro j e hj; simp [serUpto] at hj
    · simp [serUpto]
    · simp [serUpto]
    · intro w i g; simp [serUpto, playM, new]
  | succ k ih =>
    intro hk
    have hlt : k < r.length := hk
    obtain ⟨C, O, x, S⟩ := ih (by omega)
    have hst := all_step ha k hlt
    have P := pinv_of (all_take ha k)
    have hj : r[k]? = some r[k] := List.getElem?_eq_getElem hlt
    have htake := take_snoc_list r k hlt
    rw [serUpto, hj]
    simp only
    rw [serStep_eq ha hj]
    generalize serUpto r (opMap (opsOf r)) k = s at S ⊢
    obtain ⟨N, out⟩ := s
    have hcliK := (pinv_of ha).cli k r[k] hj
    have hanE := anE_props ha hj
    have hbgE := fun i c h1 h2 => bgE_eq ha hj (k := k) (i := i) (c := c) h1 h2
    obtain ⟨S1, S2, S3, S4, S5, S6, S7⟩ := S
    simp only at S1 S2 S3 S4 S5 S6 S7
    generalize hm : (playM (new n) (r.take k)).1 = m at *
    generalize hm1 : (playM (new n) (r.take (k + 1))).1 = m1 at *
    generalize he : r[k] = e at *
    have hfire : ∀ o, firsOf (out ++ o) = firsOf (r.take (k + 1)) ↔ firsOf o = if e.kind = 5 then [fireOf e] else [] := by
      intro o
      rw [htake, firsOf_app, firsOf_app, S5, firsOf_one]
      exact List.append_cancel_left_eq _ _ _ |>.symm ▸ Iff.rfl
    have hdoes : ∀ o : List Ev, (out ++ o).countP (fun e => isDoes e.kind) = (r.take (k + 1)).countP (fun e => isDoes e.kind) ↔ o.countP (fun e => isDoes e.kind) = if isDoes e.kind then 1 else 0 := by
      intro o
      rw [htake, List.countP_append, List.countP_append, S6, List.countP_cons, List.countP_nil]
      omega
    have hans : ∀ (o : List Ev) w i g, (out ++ o).countP (ansKey w i g) = (r.take (k + 1)).countP (ansKey w i g) + m1.calls.countP (pend w i g) ↔ o.countP (ansKey w i g) + m.calls.countP (pend w i g) = (if ansKey w i g e then 1 else 0) + m1.calls.countP (pend w i g) := by
      intro o w i g
      rw [htake, List.countP_append, List.countP_append, S7, List.countP_cons, List.countP_nil]
      omega
    rcases step_cases hst with ⟨h1, h2, h3, h4, h5, h6⟩ | ⟨h1, i, c, h2, h3, h4, h5, h6, h7, h8⟩
    · -- a call begins
      have hpend : ∀ w i g, m1.calls.countP (pend w i g) = m.calls.countP (pend w i g) := by
        intro w i g
        rw [h6]
        simp [pend]
      have hk2 : ∀ w i g, ansKey w i g e = false := fun w i g => by simp [ansKey, h1]
      by_cases hc : Cli e.what
      · rw [if_pos hc, if_neg (by rw [h1]; decide)]
        refine ⟨C, O, x, ?_⟩
        constructor
        · exact S1
        · rw [hm1, S2, h6]; rfl
        · rw [hm1, h6]; exact S3.beginC h2 hc
        · exact S4
        · have := (hfire []).2 (by simp [firsOf, h1]); simpa using this
        · have := (hdoes []).2 (by rw [h1]; rfl); simpa using this
        · intro w i g
          have := (hans [] w i g).2 (by rw [hk2, hpend]; simp)
          rw [hm1]; simpa using this
      · rw [if_neg hc]
        have hput := putP_one (N := N) (out := out) h1
        rw [hput]
        have R1 := S3.beginN h1 h2 hc
        rw [← h6] at R1
        have hO : hasK O e.thr = false := by
          cases hh : hasK O e.thr with
          | false => rfl
          | true =>
            obtain ⟨q, z, g1, _, g3, g4⟩ := S3.thr _ hh
            have := P.thr q z g1 g3
            rw [g4, h3] at this; cases this
        have hs : stepM (alt m C O x) (altE e ((N.length : Int) + 1)) = some (alt m1 (C ++ [⟨altE e ((N.length : Int) + 1), true, false, 0, 0, 0⟩]) (aput O e.thr true) x) := by
          unfold stepM
          rw [if_pos (by simp [altE, h1])]
          unfold beginM
          rw [if_neg]
          · rw [h6]; rfl
          · have e1 : ((altE e ((N.length : Int) + 1)).call != ((alt m C O x).calls.length : Int) + 1) = false := by simp [altE, alt, S3.len]
            have e2 : hasK (alt m C O x).opn (altE e ((N.length : Int) + 1)).thr = false := hO
            have e3 : decide ((altE e ((N.length : Int) + 1)).what < 1) = false := by rw [decide_eq_false_iff_not]; show ¬ e.what < 1; omega
            have e4 : decide ((altE e ((N.length : Int) + 1)).what > 7) = false := by rw [decide_eq_false_iff_not]; show ¬ e.what > 7; omega
            rw [e1, e2, e3, e4]; decide
        refine ⟨C ++ [⟨altE e ((N.length : Int) + 1), true, false, 0, 0, 0⟩], aput O e.thr true, x, ?_⟩
        constructor
        · exact all_append S1 (by rw [S2]; simp [All, playM, hs])
        · show (playM (new n) (out ++ [altE e ((N.length : Int) + 1)])).1 = _
          rw [hm1, play_end _ S1, S2]; simp only [playM, hs]
        · rw [hm1]; exact R1
        · exact S4.snoc hc
        · exact (hfire _).2 (by rw [firsOf_one]; rfl)
        · exact (hdoes _).2 (by simp [altE])
        · intro w i g
          rw [hm1]
          exact (hans _ w i g).2 (by rw [hk2, hpend]; simp [ansKey, altE, h1])
    · -- an event of a call
      have hcalls := rule_calls h8
      have hpend : ∀ w j g, m1.calls.countP (pend w j g) + (if pend w j g c then 1 else 0) = m.calls.countP (pend w j g) + (if pend w j g (upd e c) then 1 else 0) := by
        intro w j g
        rw [hcalls.1, outC_modify]
        exact countP_modify _ _ _ i c h3
      obtain ⟨w1, w2, w3, w4, w5, w6, w7⟩ := rule_what h8 h7
      by_cases hc : Cli e.what
      · rw [if_pos hc]
        have hcb : Cli c.bg.what := by rw [h7]; exact hc
        by_cases hd : isDoes e.kind = true
        · rw [if_pos hd]
          have hcd : c.done = false := by rw [does_rule hd] at h5; simpa using h5
          have hk1 : e.kind ≠ 1 := h1
          have hk2 : e.kind ≠ 2 := by intro h; rw [h] at hd; cases hd
          have hk5 : e.kind ≠ 5 := by intro h; rw [h] at hd; cases hd
          have hbg := hbgE i c h3 h2
          obtain ⟨a1, a2, a3, a4, a5⟩ := hanE hc hd
          obtain ⟨b0, _, hb1, hb2, _⟩ := P.bg i c h3
          obtain ⟨hno, C1, O1, r1, r2, r3⟩ := S3.does P hd h2 h3 h4 h5 h6 h7 h8 hc ⟨a1, a2, a3, a4, a5⟩
          have hput : putP (putP (putP (N, out) (bgE r e)) e) (anE r e) = (aput N e.call ((N.length : Int) + 1), out ++ [altE c.bg ((N.length : Int) + 1), altE e ((N.length : Int) + 1), altE (anE r e) ((N.length : Int) + 1)]) := by
            have hcc : c.bg.call = e.call := by rw [hb2, h2]
            have hself : aget (aput N e.call ((N.length : Int) + 1)) e.call = some ((N.length : Int) + 1) := by rw [aget_put, if_pos rfl]
            rw [hbg, putP_one hb1, hcc, putP_not hk1 hself, putP_not (by omega) (by rw [a2]; exact hself)]
            simp
          rw [hput]
          refine ⟨C1, O1, x, ?_⟩
          constructor
          · exact all_append S1 (by rw [S2]; exact r1)
          · show (playM (new n) (out ++ _)).1 = _
            rw [hm1, play_end _ S1, S2]; exact r2
          · rw [hm1]; exact r3
          · exact S4.three rfl hd rfl a1
          · refine (hfire _).2 ?_
            simp [firsOf, altE, hb1, a1, hk5]
          · refine (hdoes _).2 ?_
            have d1 : isDoes (altE c.bg ((N.length : Int) + 1)).kind = false := by show isDoes c.bg.kind = false; rw [hb1]; rfl
            have d2 : isDoes (altE e ((N.length : Int) + 1)).kind = true := hd
            have d3 : isDoes (altE (anE r e) ((N.length : Int) + 1)).kind = false := by show isDoes (anE r e).kind = false; rw [a1]; rfl
            simp [List.countP_cons, d1, d2, d3, hd]
          · intro w j g
            rw [hm1]
            refine (hans _ w j g).2 ?_
            have hp := hpend w j g
            have e1 : ansKey w j g e = false := by simp [ansKey, hk2]
            have e2 : pend w j g c = false := by simp [pend, hcd]
            have e3 : pend w j g (upd e c) = ansKey w j g (altE (anE r e) ((N.length : Int) + 1)) := by
              rw [upd, if_pos hd]
              simp only [pend, ansKey, altE, a1, a4, a5, h4, h7, hc, decide_true, Bool.true_and, beq_self_eq_true]
            rw [e2, e3] at hp
            rw [e1]
            have e4 : ansKey w j g (altE c.bg ((N.length : Int) + 1)) = false := by simp [ansKey, altE, hb1]
            have e5 : ansKey w j g (altE e ((N.length : Int) + 1)) = false := by simp [ansKey, altE, hk2]
            simp only [List.countP_cons, List.countP_nil, e4, e5, Bool.false_eq_true, if_false] at hp ⊢
            omega
        · rw [if_neg hd]
          have hk2 : e.kind = 2 := by
            rcases hcliK (by unfold Cli at hc; omega) with h | h | h
            · exact absurd h h1
            · exact h
            · exact absurd h.1 hd
          have hcd : c.done = true := by rw [hk2] at h5; simpa [ruleOf] using h5
          obtain ⟨q1, q2⟩ := S3.answer hk2 h3 h7 h8 hc hcd
          obtain ⟨v1, v2, v3⟩ := w4 hk2
          refine ⟨C, O, x, ?_⟩
          constructor
          · exact S1
          · rw [hm1, S2, q1]
          · rw [hm1]; exact q2
          · exact S4
          · have := (hfire []).2 (by simp [firsOf, hk2]); simpa using this
          · have := (hdoes []).2 (by rw [hk2]; rfl); simpa using this
          · intro w j g
            have hp := hpend w j g
            have e1 : pend w j g (upd e c) = false := by
              rw [upd, if_neg (by rw [hk2]; decide), if_pos hk2]; simp [pend]
            have e2 : pend w j g c = ansKey w j g e := by
              simp only [pend, ansKey, hcd, h4, hk2, v1, v2, h7, hc, decide_true, Bool.true_and, beq_self_eq_true]
            rw [e1, e2] at hp
            have := (hans [] w j g).2 (by
              simp only [List.countP_nil, Bool.false_eq_true, if_false] at hp ⊢
              omega)
            rw [hm1]; simpa using this
      · rw [if_neg hc]
        obtain ⟨v, g1, C1, O1, x1, g2, g3⟩ := S3.event h1 h2 h3 h4 h5 h6 h7 h8 hc
        have hput := putP_not (out := out) h1 g1
        rw [hput]
        have hp0 : ∀ w j g, pend w j g c = false ∧ pend w j g (upd e c) = false := by
          intro w j g
          have : ¬ Cli c.bg.what := by rw [h7]; exact hc
          exact ⟨by simp [pend, this], by unfold pend; rw [upd_bg]; simp [this]⟩
        refine ⟨C1, O1, x1, ?_⟩
        constructor
        · exact all_append S1 (by rw [S2]; simp [All, playM, g2])
        · show (playM (new n) (out ++ [altE e v])).1 = _
          rw [hm1, play_end _ S1, S2]; simp only [playM, g2]
        · rw [hm1]; exact g3
        · exact S4.snoc hc
        · exact (hfire _).2 (by rw [firsOf_one]; rfl)
        · exact (hdoes _).2 (by simp [altE])
        · intro w j g
          rw [hm1]
          refine (hans _ w j g).2 ?_
          have hp := hpend w j g
          rw [(hp0 w j g).1, (hp0 w j g).2] at hp
          have : ansKey w j g (altE e v) = ansKey w j g e := rfl
          simp only [List.countP_cons, List.countP_nil, this, Bool.false_eq_true, if_false] at hp ⊢
          omega
end Go.Proofs.Ytpnkkdpggofanaa

namespace Go.Proofs.Ytpnkkdpggofanaa
open Go.Shelf Go.RowKit Go.Lib Go.Sort Go.Proofs

/-- The numbers as they are. -/
def idN (c : Nat) : List (Int × Int) := (List.range c).map fun (i : Nat) => ((i : Int) + 1, (i : Int) + 1)
theorem idN_len (c : Nat) : (idN c).length = c := by simp [idN]
theorem idN_keys (c : Nat) : ((idN c).map (·.1)).Nodup := by
  unfold idN
  rw [List.map_map]
  unfold List.Nodup
  rw [List.pairwise_map]
  exact List.nodup_range.imp fun h e => h (by simp at e; omega)
theorem idN_mem (c : Nat) (x v : Int) : aget (idN c) x = some v ↔ x = v ∧ 1 ≤ v ∧ v ≤ c := by
  rw [aget_mem (idN_keys c)]
  unfold idN
  simp only [List.mem_map, List.mem_range, Prod.mk.injEq]
  constructor
  · rintro ⟨i, h1, h2, h3⟩; omega
  · rintro ⟨h1, h2, h3⟩; exact ⟨(v - 1).toNat, by omega, by omega, by omega⟩
theorem idN_put (c : Nat) : aput (idN c) ((c : Int) + 1) ((c : Int) + 1) = idN (c + 1) := by
  have hno : (c : Int) + 1 ∉ (idN c).map (·.1) := by
    intro h
    have : aget (idN c) ((c : Int) + 1) ≠ none := fun h' => (aget_none.1 h') h
    cases hh : aget (idN c) ((c : Int) + 1) with
    | none => exact this hh
    | some v => have := (idN_mem c _ v).1 hh; omega
  rw [aput_absent _ _ _ hno]
  unfold idN
  rw [List.range_succ, List.map_append]
  rfl

section
variable {n : Int} {s : List Ev}
/-- How many calls began among the first k. -/
def begun (n : Int) (s : List Ev) (k : Nat) : Nat := (playM (new n) (s.take k)).1.calls.length
theorem begun_step (ha : All (new n) s) {k : Nat} {e : Ev} (hk : s[k]? = some e) :
    (e.kind = 1 → e.call = (begun n s k : Int) + 1 ∧ begun n s (k + 1) = begun n s k + 1) ∧ (e.kind ≠ 1 → 1 ≤ e.call ∧ e.call ≤ begun n s k ∧ begun n s (k + 1) = begun n s k) := by
  obtain ⟨hlt, rfl⟩ := get_of hk
  have hs := all_step ha k hlt
  unfold begun
  rcases step_cases hs with ⟨h1, h2, h3, h4, h5, h6⟩ | ⟨h1, i, c, h2, h3, h4, h5, h6, h7, h8⟩
  · refine ⟨fun _ => ⟨h2, ?_⟩, fun h => absurd h1 h⟩
    rw [h6]; simp
  · refine ⟨fun h => absurd h h1, fun _ => ?_⟩
    have := (List.getElem?_eq_some_iff.1 h3).1
    rw [(calls1 h3 h8).2.2.2]
    omega
theorem trip_does (ha : All (new n) s) (T : Trip s) {j : Nat} {e : Ev} (hj : s[j]? = some e) (hc : Cli e.what) (hd : isDoes e.kind = true) :
    ∃ o, OpAt s j e o ∧ ∃ j0 e0 e2, j = j0 + 1 ∧ s[j0]? = some e0 ∧ s[j + 1]? = some e2 ∧ o.beg = (j0 : Int) ∧ o.fin = ((j + 1 : Nat) : Int) ∧ e0.kind = 1 ∧ e0.call = e.call ∧ e0.what = e.what ∧ e2.kind = 2 ∧ e2.call = e.call ∧ e2.what = e.what := by
  obtain ⟨o, ho⟩ := op_of ha hj
  obtain ⟨b, eb, h1, h2, h3, h4, h5, h6, h7, h8⟩ := ho.beg
  obtain ⟨e1, e2, g1, g2, g3, g4, g5, g6⟩ := T b eb h2 (by rw [h6]; exact hc) h3
  obtain ⟨o1, ho1⟩ := op_of ha g1
  have q1 : o1 = o := ho1.uniq ho (by rw [g3, h4])
  subst q1
  have d1 := ho1.did g4
  have d2 := ho.did hd
  have : j = b + 1 := by omega
  subst this
  obtain ⟨o2, ho2⟩ := op_of ha g2
  have q2 : o2 = o1 := ho2.uniq ho (by rw [g5, h4])
  subst q2
  exact ⟨o2, ho, b, eb, e2, rfl, h2, g2, h1, ho2.fin g6, h3, h4, h6, g6, by rw [g5, h4], by rw [← ho2.what, ho.what]⟩
theorem trip_ans (ha : All (new n) s) (T : Trip s) {j : Nat} {e : Ev} (hj : s[j]? = some e) (hc : Cli e.what) (hd : e.kind = 2) :
    ∃ j0 e1, j = j0 + 1 ∧ s[j0]? = some e1 ∧ isDoes e1.kind = true ∧ e1.call = e.call ∧ e1.what = e.what := by
  obtain ⟨o, ho⟩ := op_of ha hj
  obtain ⟨b, eb, h1, h2, h3, h4, h5, h6, h7, h8⟩ := ho.beg
  obtain ⟨e1, e2, g1, g2, g3, g4, g5, g6⟩ := T b eb h2 (by rw [h6]; exact hc) h3
  obtain ⟨o2, ho2⟩ := op_of ha g2
  have q2 : o2 = o := ho2.uniq ho (by rw [g5, h4])
  subst q2
  have f1 := ho2.fin g6
  have f2 := ho.fin hd
  have : j = b + 1 + 1 := by omega
  obtain ⟨o1, ho1⟩ := op_of ha g1
  have q1 : o1 = o2 := ho1.uniq ho (by rw [g3, h4])
  subst q1
  exact ⟨b + 1, e1, this, g1, g4, by rw [g3, h4], by rw [← ho1.what, ho.what]⟩

/-- Is a client's call open behind the event? -/
def pendE (e : Ev) : Prop := Cli e.what ∧ e.kind ≠ 2
instance (e : Ev) : Decidable (pendE e) := by unfold pendE; infer_instance
/-- What stands behind a client's event whose call isn't answered is of that call. -/
theorem trip_next (ha : All (new n) s) (T : Trip s) {j : Nat} {e : Ev} (hj : s[j]? = some e) (hp : pendE e) : ∃ x, s[j + 1]? = some x ∧ Cli x.what ∧ x.kind ≠ 1 ∧ (e.kind = 1 → isDoes x.kind = true) ∧ (isDoes e.kind = true → x.kind = 2) := by
  have hcli := (pinv_of ha).cli j e hj (by have := hp.1; unfold Cli at this; omega)
  rcases hcli with h | h | h
  · obtain ⟨e1, e2, g1, g2, g3, g4, g5, g6⟩ := T j e hj hp.1 h
    obtain ⟨o, ho⟩ := op_of ha hj
    obtain ⟨o1, ho1⟩ := op_of ha g1
    have q1 : o1 = o := ho1.uniq ho g3
    subst q1
    exact ⟨e1, g1, by rw [← ho1.what, ho.what]; exact hp.1, (by intro h; rw [h] at g4; cases g4), fun _ => g4, fun hd => (by rw [h] at hd; cases hd)⟩
  · exact absurd h hp.2
  · obtain ⟨o, ho, j0, e0, e2, g1, g2, g3, g4, g5, g6, g7, g8, g9, g10, g11⟩ := trip_does ha T hj hp.1 h.1
    exact ⟨e2, g3, by rw [g11]; exact hp.1, by omega, fun h1 => (by rw [h1] at h; cases h.1), fun _ => g9⟩
theorem not_pend_before (ha : All (new n) s) (T : Trip s) {j : Nat} {x e : Ev} (hj : s[j]? = some x) (hj1 : s[j + 1]? = some e) (h : ¬ Cli e.what ∨ e.kind = 1) : ¬ pendE x := by
  intro hp
  obtain ⟨y, h1, h2, h3, _⟩ := trip_next ha T hj hp
  rw [hj1] at h1
  cases h1
  rcases h with h | h
  · exact h h2
  · exact h3 h

/-- How much is put behind the first k events. -/
def upto (s : List Ev) : Nat → Nat
  | 0 => 0
  | k + 1 => match s[k]? with
    | some e => if Cli e.what then (if e.kind = 1 then k else if e.kind = 2 then k + 1 else k + 2) else k + 1
    | none => k + 1
theorem upto_free (ha : All (new n) s) (T : Trip s) {k : Nat} {e : Ev} (hk : s[k]? = some e) (h : ¬ Cli e.what ∨ e.kind = 1) : upto s k = k := by
  cases k with
  | zero => rfl
  | succ k =>
    have hlt := (get_of hk).1
    have hk0 : s[k]? = some s[k] := List.getElem?_eq_getElem (by omega)
    have hn := not_pend_before ha T hk0 hk h
    rw [upto, hk0]
    simp only
    by_cases hc : Cli s[k].what
    · have : s[k].kind = 2 := by
        apply Classical.byContradiction
        intro hh; exact hn ⟨hc, hh⟩
      rw [if_pos hc, if_neg (by omega), if_pos this]
    · rw [if_neg hc]
theorem ser_self (ha : All (new n) s) (T : Trip s) : ∀ k, k ≤ s.length → serUpto s (opMap (opsOf s)) k = (idN (begun n s (upto s k)), s.take (upto s k)) := by
  intro k
  induction k with
  | zero => intro _; simp [serUpto, upto, begun, playM, new, idN]
  | succ k ih =>
    intro hk
    have hlt : k < s.length := hk
    have hj : s[k]? = some s[k] := List.getElem?_eq_getElem hlt
    generalize he : s[k] = e at hj
    have htk : s.take (k + 1) = s.take k ++ [e] := by rw [take_snoc_list s k hlt, he]
    rw [serUpto, hj]
    simp only
    rw [serStep_eq ha hj, ih (by omega)]
    obtain ⟨b1, b2⟩ := begun_step ha hj
    by_cases hc : Cli e.what
    · rw [if_pos hc]
      have hcli := (pinv_of ha).cli k e hj (by unfold Cli at hc; omega)
      rcases hcli with h | h | ⟨h, _⟩
      · rw [if_neg (by rw [h]; decide), upto_free ha T hj (.inr h)]
        have : upto s (k + 1) = k := by rw [upto, hj]; simp only; rw [if_pos hc, if_pos h]
        rw [this]
      · rw [if_neg (by rw [h]; decide)]
        have h1 : upto s (k + 1) = k + 1 := by rw [upto, hj]; simp only; rw [if_pos hc, if_neg (by omega), if_pos h]
        obtain ⟨j0, e1, g1, g2, g3, g4, g5⟩ := trip_ans ha T hj hc h
        subst g1
        have h2 : upto s (j0 + 1) = j0 + 2 := by
          rw [upto, g2]; simp only
          rw [if_pos (by rw [g5]; exact hc), if_neg (by intro h; rw [h] at g3; cases g3), if_neg (by intro h; rw [h] at g3; cases g3)]
        rw [h1, h2]
      · rw [if_pos h]
        obtain ⟨o, ho, j0, e0, e2, g1, g2, g3, g4, g5, g6, g7, g8, g9, g10, g11⟩ := trip_does ha T hj hc h
        subst g1
        have hk1 : e.kind ≠ 1 := by intro h'; rw [h'] at h; cases h
        have hk2 : e.kind ≠ 2 := by intro h'; rw [h'] at h; cases h
        have h1 : upto s (j0 + 1 + 1) = j0 + 1 + 2 := by rw [upto, hj]; simp only; rw [if_pos hc, if_neg hk1, if_neg hk2]
        have h2 : upto s (j0 + 1) = j0 := by rw [upto, g2]; simp only; rw [if_pos (by rw [g8]; exact hc), if_pos g6]
        have hbg : bgE s e = e0 := by
          unfold bgE
          rw [ho.at, g4]
          simp [g2]
        have han : anE s e = e2 := by
          unfold anE ansE
          rw [ho.at, g5, if_pos (by omega)]
          simp only [Int.toNat_natCast, g3, Option.getD_some]
        rw [h1, h2, hbg, han]
        obtain ⟨c1, c2⟩ := (begun_step ha g2).1 g6
        have c3 := (b2 hk1).2.2
        have c4 := ((begun_step ha g3).2 (by omega)).2.2
        have hlt2 := (get_of g3).1
        have hse0 : s[j0]'(by omega) = e0 := (get_of g2).2
        have hse2 : s[j0 + 1 + 1] = e2 := (get_of g3).2
        have hts : s.take (j0 + 1 + 2) = s.take j0 ++ [e0] ++ [e] ++ [e2] := by
          rw [show j0 + 1 + 2 = (j0 + 1 + 1) + 1 by omega, take_snoc_list s (j0 + 1 + 1) hlt2, htk, take_snoc_list s j0 (by omega), hse0, hse2]
        have hL : (idN (begun n s j0)).length = begun n s j0 := idN_len _
        have hself : aget (idN (begun n s j0 + 1)) e0.call = some e0.call := (idN_mem _ _ _).2 ⟨rfl, by omega, by omega⟩
        rw [putP_one g6, hL, ← c1]
        rw [c1, idN_put, ← c1]
        rw [putP_not hk1 (by rw [← g7]; exact hself), putP_not (by omega) (by rw [g10, ← g7]; exact hself)]
        rw [hts]
        have hb : begun n s (j0 + 1 + 2) = begun n s j0 + 1 := by
          rw [show j0 + 1 + 2 = (j0 + 1 + 1) + 1 by omega, c4, c3, c2]
        rw [hb]
        have f0 : altE e0 e0.call = e0 := rfl
        have f1 : altE e e0.call = e := by rw [g7]; rfl
        have f2 : altE e2 e0.call = e2 := by rw [g7, ← g10]; rfl
        rw [f0, f1, f2]
    · rw [if_neg hc, upto_free ha T hj (.inl hc)]
      have h1 : upto s (k + 1) = k + 1 := by rw [upto, hj]; simp only; rw [if_neg hc]
      rw [h1, htk]
      by_cases hk1 : e.kind = 1
      · obtain ⟨c1, c2⟩ := b1 hk1
        rw [putP_one hk1, idN_len, ← c1]
        rw [c1, idN_put, ← c1, c2]
        rfl
      · obtain ⟨c1, c2, c3⟩ := b2 hk1
        rw [putP_not hk1 ((idN_mem _ _ e.call).2 ⟨rfl, c1, c2⟩), c3]
        rfl
theorem upto_end (ha : All (new n) s) (T : Trip s) : upto s s.length = s.length := by
  generalize hk : s.length = k
  cases k with
  | zero => rfl
  | succ k =>
    have hlt : k < s.length := by omega
    have hj : s[k]? = some s[k] := List.getElem?_eq_getElem hlt
    rw [upto, hj]
    simp only
    by_cases hc : Cli s[k].what
    · have : s[k].kind = 2 := by
        apply Classical.byContradiction
        intro hh
        obtain ⟨x, hx, _⟩ := trip_next ha T hj ⟨hc, hh⟩
        rw [List.getElem?_eq_none (by omega)] at hx
        cases hx
      rw [if_pos hc, if_neg (by omega), if_pos this]
    · rw [if_neg hc]
/-- It is its own serial trace. -/
theorem serial_self (ha : All (new n) s) (T : Trip s) : serialOf s = s := by
  unfold serialOf
  rw [ser_self ha T _ (Nat.le_refl _), upto_end ha T, List.take_length]

/-! ### who is open -/
def openOf (s : List Ev) : Nat → Int
  | 0 => 0
  | k + 1 => match s[k]? with
    | some e => if pendE e then 1 else 0
    | none => 0
theorem open_step (ha : All (new n) s) (T : Trip s) {k : Nat} {e : Ev} (hk : s[k]? = some e) :
    (Cli e.what ∧ e.kind = 1 → openOf s k = 0) ∧ (Cli e.what ∧ e.kind ≠ 1 → openOf s k = 1) ∧ (¬ Cli e.what → openOf s k = 0) ∧ openOf s (k + 1) = if pendE e then 1 else 0 := by
  have hfree : ¬ Cli e.what ∨ e.kind = 1 → openOf s k = 0 := by
    intro h
    cases k with
    | zero => rfl
    | succ k =>
      have hlt := (get_of hk).1
      have hk0 : s[k]? = some s[k] := List.getElem?_eq_getElem (by omega)
      have hn := not_pend_before ha T hk0 hk h
      rw [openOf, hk0]
      simp only
      rw [if_neg hn]
  refine ⟨fun h => hfree (.inr h.2), fun h => ?_, fun h => hfree (.inl h), by rw [openOf, hk]⟩
  have hcli := (pinv_of ha).cli k e hk (by have := h.1; unfold Cli at this; omega)
  rcases hcli with h1 | h1 | h1
  · exact absurd h1 h.2
  · obtain ⟨j0, e1, g1, g2, g3, g4, g5⟩ := trip_ans ha T hk h.1 h1
    subst g1
    rw [openOf, g2]
    simp only
    rw [if_pos ⟨by rw [g5]; exact h.1, by intro h; rw [h] at g3; cases g3⟩]
  · obtain ⟨o, ho, j0, e0, e2, g1, g2, g3, g4, g5, g6, g7, g8, g9, g10, g11⟩ := trip_does ha T hk h.1 h1.1
    subst g1
    rw [openOf, g2]
    simp only
    rw [if_pos ⟨by rw [g8]; exact h.1, by omega⟩]
theorem open_end (ha : All (new n) s) (T : Trip s) : openOf s s.length = 0 := by
  generalize hk : s.length = k
  cases k with
  | zero => rfl
  | succ k =>
    have hlt : k < s.length := by omega
    have hj : s[k]? = some s[k] := List.getElem?_eq_getElem hlt
    rw [openOf, hj]
    simp only
    rw [if_neg]
    intro hp
    obtain ⟨x, hx, _⟩ := trip_next ha T hj hp
    rw [List.getElem?_eq_none (by omega)] at hx
    cases hx
end

section
variable {n : Int} {r : List Ev}
/-- A trace that may come respects the order. -/
theorem resp_of (ha : All (new n) r) : (rsp (doneOf r)).2 = true := by
  rw [rsp_iff, List.pairwise_iff_getElem]
  intro i j hi hj hij
  rintro ⟨h0, h1⟩
  have mi := (doneOf_mem r _).1 (List.getElem_mem hi)
  have mj := (doneOf_mem r _).1 (List.getElem_mem hj)
  have hlt := (doneOf_order r i j hi hj).1 hij
  obtain ⟨d, f, ed, ef, k1, k2, k3, _⟩ := op_end ha mj.1 h0
  have := op_did ha mi.1 mi.2
  omega
/-- As many did as there are events by which a call is done. -/
theorem done_count (ha : All (new n) r) : (doneOf r).length = r.countP (fun e => isDoes e.kind) := by
  have key : ∀ k, k ≤ r.length → (opsOf r).countP (fun o => decide (0 ≤ o.did) && decide (o.did < (k : Int))) = (r.take k).countP (fun e => isDoes e.kind) := by
    intro k
    induction k with
    | zero =>
      intro _
      simp only [List.take_zero, List.countP_nil]
      rw [List.countP_eq_zero]
      intro o _
      simp
    | succ k ih =>
      intro hk
      have hlt : k < r.length := hk
      have hj : r[k]? = some r[k] := List.getElem?_eq_getElem hlt
      rw [take_snoc_list r k hlt, List.countP_append, List.countP_cons, List.countP_nil, ← ih (by omega)]
      have h1 : (opsOf r).countP (fun o => o.did == (k : Int)) = if isDoes r[k].kind = true then 1 else 0 := by
        rw [countP_one _ _ (opsOf_nodup' r) (fun x hx y hy h1 h2 => did_inj r hx hy (by simp at h1; omega) (by simp at h1 h2; omega))]
        by_cases hd : isDoes r[k].kind = true
        · obtain ⟨o, ho⟩ := op_of ha hj
          rw [if_pos hd, if_pos]
          rw [List.any_eq_true]
          exact ⟨o, ho.mem, by simp [ho.did hd]⟩
        · rw [if_neg hd, if_neg]
          intro h
          rw [List.any_eq_true] at h
          obtain ⟨o, ho, h2⟩ := h
          simp only [beq_iff_eq] at h2
          obtain ⟨q, hq, q1, q2, q3⟩ := did_at r ho (by omega)
          have : q = k := by omega
          subst this
          exact hd q3
      rw [Nat.zero_add, ← h1]
      refine countP_split _ _ _ _ (fun x _ => ?_) (fun x _ => ?_)
      · rw [Bool.eq_iff_iff]; simp; omega
      · simp; omega
  rw [doneOf_len, ← List.take_length (l := r), ← key _ (Nat.le_refl _), List.take_length]
  apply List.countP_congr
  intro o ho
  simp only [decide_eq_true_eq, Bool.and_eq_true]
  constructor
  · intro h
    obtain ⟨q, hq, q1, _⟩ := did_at r ho h
    exact ⟨h, by omega⟩
  · exact fun h => h.1
/-- The serial trace, by the machine. -/
theorem serial_may (ha : All (new n) r) : ∃ C O x, Sim n r r.length (serUpto r (opMap (opsOf r)) r.length) C O x := sim ha r.length (Nat.le_refl _)
theorem serial_law (ha : All (new n) r) : All (new n) (serialOf r) ∧ Trip (serialOf r) ∧ firsOf (serialOf r) = firsOf r ∧ (doneOf (serialOf r)).length = (doneOf r).length ∧ (playM (new n) (serialOf r)).1.live = (playM (new n) r).1.live ∧ (∀ w i g, r.countP (ansKey w i g) ≤ (serialOf r).countP (ansKey w i g)) := by
  obtain ⟨C, O, x, S⟩ := serial_may ha
  have S1 : All (new n) (serialOf r) := S.all
  refine ⟨S1, S.trip, ?_, ?_, ?_, fun w i g => ?_⟩
  · have := S.fire; rw [List.take_length] at this; exact this
  · rw [done_count ha, done_count S1]
    have := S.does; rw [List.take_length] at this; exact this
  · have := S.fin
    rw [List.take_length] at this
    show (playM (new n) (serUpto r (opMap (opsOf r)) r.length).2).1.live = _
    rw [this]; rfl
  · have := S.ans w i g
    rw [List.take_length] at this
    show _ ≤ (serUpto r (opMap (opsOf r)) r.length).2.countP (ansKey w i g)
    omega
end
end Go.Proofs.Ytpnkkdpggofanaa
