/- The document's machine (vergeref21) as plain data, beside spec's: they take the same events. No program in sight. The document's machine and spec's: what the one takes the other takes. Plain Lean. One event, in the document's machine and in spec's. Plain Lean. -/
import Derived.Test.YtpnkkdpggofanaaMach
namespace Go.Proofs.Ytpnkkdpggofanaa

structure RT where
  id : Int
  live : Bool
  gen : Int
  dl : Int
  per : Int
  last : Bool
  armed : Bool
  btw : Bool
structure Rm where
  room : Int
  now : Int
  closed : Bool
  ended : Bool
  closer : Int
  calls : List Cl
  tms : List RT

def rt0 : RT := ⟨0, false, 0, 0, 0, false, false, false⟩
def u64top : Int := 18446744073709551615
def rfits (a b : Int) : Bool := decide (a ≤ u64top - b)
/-- The place of the first timer of that number. -/
def rfindTo (l : List RT) (id : Int) : Option Nat := l.findIdx? (fun t => t.id == id)
def rfindI (l : List RT) (id : Int) : Int := match rfindTo l id with | some i => i | none => -1
def rget (l : List RT) (id : Int) : Option RT := l.find? (fun t => t.id == id)
def rtm (l : List RT) (id : Int) : RT := (rget l id).getD rt0
def rlives (l : List RT) : List Int := (l.filter (·.live)).map (·.id)

def rbusy (l : List Cl) (thr : Int) : Bool := l.any fun c => c.opn && (c.bg.thr == thr)
def rbegin (m : Rm) (e : Ev) : Option Rm :=
  if e.call != (m.calls.length : Int) + 1 || decide (e.what < 1) || decide (e.what > 7) || rbusy m.calls e.thr then none
  else some { m with calls := m.calls ++ [⟨e, true, false, 0, 0, 0⟩] }

def rmax (a b : Int) : Int := if a < b then b else a
theorem rmax_eq (a b : Int) : rmax a b = max a b := by unfold rmax; rw [Int.max_def]; split <;> split <;> omega
def rlater (now : Int) (c : Cl) (t : RT) (e : Ev) : Cl × RT × Bool :=
  if e.kind == 2 then ({ c with opn := false }, t, e.id == c.id && e.gen == c.gen && e.err == c.err)
  else if c.bg.what != 7 || !t.live then (c, t, false)
  else if e.kind == 4 then
    if t.btw then
      if !rfits t.dl t.per || t.gen == u64top then (c, t, false)
      else (c, { t with gen := t.gen + 1, dl := t.dl + t.per, armed := true, btw := false }, e.gen == t.gen + 1 && e.dl == t.dl + t.per)
    else if t.armed then (c, t, false)
    else (c, { t with dl := rmax t.dl now, armed := true, btw := false }, e.gen == t.gen && e.dl == rmax t.dl now)
  else if e.kind == 5 then
    (c, { t with btw := decide (t.per > 0) && !t.last, live := decide (t.per > 0) && !t.last }, t.armed && !t.btw && e.gen == t.gen && e.dl == t.dl && e.tk == now && t.dl == now)
  else if e.kind == 14 then (c, { t with live := false }, t.btw && e.gen == t.gen && !rfits t.dl t.per)
  else (c, t, false)

def rdone (c : Cl) (e : Ev) : Cl := { c with done := true, id := e.id, gen := e.gen }

def rrefused (m : Rm) (b : Ev) (err : Int) : Bool :=
  if err == 1 then (b.what == 2 && (b.per == 0 || !rfits b.dl b.per)) || ((decide (b.what ≥ 3) && decide (b.what ≤ 5)) && decide (rfindI m.tms b.id < 0))
  else if err == 2 then decide (b.what ≤ 3)
  else if err == 3 then m.closed
  else if err == 9 then b.what == 7 && m.now == u64top
  else if err == 0 then (decide (b.what ≥ 3) && decide (b.what ≤ 5)) && (!(rtm m.tms b.id).live || (b.what == 5 && ((rtm m.tms b.id).per == 0 || (rtm m.tms b.id).last)))
  else false

def rclosing (m : Rm) (c : Cl) (t : RT) (e : Ev) : Rm × Cl × RT × Bool :=
  if e.kind == 10 then
    if c.bg.what != 6 || m.closed then (m, c, t, false) else ({ m with closed := true, closer := e.call }, c, t, true)
  else if !m.closed || m.closer != e.call then (m, c, t, false)
  else if e.kind == 12 then (m, c, { t with live := false }, t.live && !t.btw && e.gen == t.gen)
  else if e.kind == 13 then
    if decide ((rlives m.tms).length > 0) then (m, c, t, false) else ({ m with ended := true }, { c with done := true }, t, true)
  else (m, c, t, false)

def rper (b : Ev) : Int := if b.what == 2 then b.per else 0
def rfirst (m : Rm) (c : Cl) (t : RT) (e : Ev) : Rm × Cl × RT × Bool :=
  if e.kind == 3 then
    (m, rdone c e, ⟨e.id, true, e.gen, c.bg.dl, rper c.bg, false, false, false⟩,
      ((c.bg.what == 1 || (c.bg.what == 2 && decide (rper c.bg > 0) && rfits c.bg.dl (rper c.bg))) && !m.ended && decide (rfindI m.tms e.id < 0) && decide (((rlives m.tms).length : Int) < m.room)) && e.dl == c.bg.dl && e.per == rper c.bg)
  else if e.kind == 11 then
    if c.bg.what != 7 || m.ended || m.now == u64top || e.tk != m.now + 1 then (m, c, t, false)
    else ({ m with now := m.now + 1 }, { c with done := true }, t, true)
  else if e.kind == 6 then
    (m, rdone c e, { t with gen := e.gen, dl := e.dl, armed := false, btw := false }, c.bg.what == 3 && t.live && e.id == c.bg.id && e.dl == c.bg.dl && decide (t.gen < u64top) && e.gen == t.gen + 1)
  else if e.kind == 7 then
    (m, rdone c e, { t with live := false }, c.bg.what == 4 && t.live && e.id == c.bg.id && ((!t.btw && e.gen == t.gen) || (t.btw && decide (t.gen < u64top) && e.gen == t.gen + 1)))
  else if e.kind == 8 then
    (m, rdone c e, { t with last := true, live := !t.btw }, c.bg.what == 5 && t.live && e.id == c.bg.id && decide (t.per > 0) && !t.last && e.gen == t.gen)
  else if e.kind == 9 then (m, { c with done := true, err := e.err }, t, rrefused m c.bg e.err)
  else rclosing m c t e

def rdoes (m : Rm) (c : Cl) (t : RT) (e : Ev) : Rm × Cl × RT × Bool :=
  if c.done then (m, rlater m.now c t e) else rfirst m c t e
def rset (l : List RT) (id : Int) (t : RT) : List RT := match rfindTo l id with | some i => l.set i t | none => l
def rstep (m : Rm) (e : Ev) : Option Rm :=
  if e.kind == 1 then rbegin m e
  else if decide (e.call < 1) || decide (e.call > (m.calls.length : Int)) then none
  else match m.calls[(e.call - 1).toNat]? with
  | none => none
  | some c =>
    if !c.opn || c.bg.thr != e.thr || c.bg.what != e.what then none
    else match rdoes m c (rtm m.tms e.id) e with
      | (_, _, _, false) => none
      | (m', c', t', true) => some { m' with calls := m'.calls.set (e.call - 1).toNat c', tms := if e.kind == 3 then m'.tms ++ [t'] else if decide (rfindI m.tms e.id ≥ 0) && e.kind != 2 then rset m'.tms e.id t' else m'.tms }

def rnew (n : Int) : Rm := ⟨n, 0, false, false, 0, [], []⟩
def rplay (m : Rm) : List Ev → Rm × Nat
  | [] => (m, 0)
  | e :: l => match rstep m e with
    | none => (m, 0)
    | some m' => let r := rplay m' l; (r.1, r.2 + 1)
end Go.Proofs.Ytpnkkdpggofanaa

namespace Go.Proofs.Ytpnkkdpggofanaa

abbrev tmOf (t : RT) : Tm := ⟨t.gen, t.dl, t.per, t.last, t.armed, t.btw⟩
structure RT.wf (t : RT) : Prop where
  gen : U64 t.gen
  dl : U64 t.dl
  per : U64 t.per

theorem rget_id {l : List RT} {id : Int} {t : RT} (h : rget l id = some t) : t.id = id := by
  have := List.find?_some h; simpa using this
theorem rget_mem {l : List RT} {id : Int} {t : RT} (h : rget l id = some t) : t ∈ l := List.mem_of_find?_eq_some h
theorem rget_of_mem {l : List RT} (hn : (l.map (·.id)).Nodup) {t : RT} (h : t ∈ l) : rget l t.id = some t := by
  induction l with
  | nil => simp at h
  | cons a l ih =>
    simp only [List.map_cons, List.nodup_cons] at hn
    simp only [List.mem_cons] at h
    unfold rget at *
    rw [List.find?_cons]
    rcases h with rfl | h
    · simp
    · have : (a.id == t.id) = false := by
        rw [beq_eq_false_iff_ne]; intro e; exact hn.1 (e ▸ List.mem_map_of_mem h)
      rw [this]; exact ih hn.2 h
theorem rfindI_some {l : List RT} {id : Int} : (0 ≤ rfindI l id) ↔ (rget l id).isSome := by
  unfold rfindI rfindTo rget
  cases h : l.findIdx? (fun t => t.id == id) with
  | none =>
    rw [List.findIdx?_eq_none_iff] at h
    rw [List.find?_eq_none.2 (by intro x hx; have := h x hx; simpa using this)]
    simp
  | some i =>
    rw [List.findIdx?_eq_some_iff_getElem] at h
    obtain ⟨hi, hp, _⟩ := h
    constructor
    · intro _
      rw [List.find?_isSome]
      exact ⟨l[i], List.getElem_mem hi, hp⟩
    · intro _; simp only; omega
theorem rset_cons (a : RT) (l : List RT) (id : Int) (t : RT) : rset (a :: l) id t = if a.id = id then t :: l else a :: rset l id t := by
  unfold rset rfindTo
  rw [List.findIdx?_cons]
  by_cases h : a.id = id
  · simp [h]
  · simp only [beq_iff_eq, h, if_false]
    cases h2 : l.findIdx? (fun t => t.id == id) <;> simp
theorem rset_ids (l : List RT) (id : Int) (t : RT) (ht : t.id = id) : (rset l id t).map (·.id) = l.map (·.id) := by
  induction l with
  | nil => rfl
  | cons a l ih =>
    rw [rset_cons]
    by_cases h : a.id = id
    · simp [h, ht]
    · simp [h, ih]
theorem rget_set (l : List RT) (id : Int) (t : RT) (ht : t.id = id) (id' : Int) : rget (rset l id t) id' = if id' = id then (rget l id).map (fun _ => t) else rget l id' := by
  induction l with
  | nil => simp [rset, rfindTo, rget]
  | cons a l ih =>
    rw [rset_cons]
    unfold rget at *
    by_cases h : a.id = id
    · rw [if_pos h, List.find?_cons, List.find?_cons, List.find?_cons]
      by_cases h2 : id' = id
      · simp [h2, ht, h]
      · have e1 : (t.id == id') = false := by rw [beq_eq_false_iff_ne, ht]; exact fun e => h2 e.symm
        have e2 : (a.id == id') = false := by rw [beq_eq_false_iff_ne, h]; exact fun e => h2 e.symm
        simp [h2, e1, e2]
    · rw [if_neg h, List.find?_cons, List.find?_cons, List.find?_cons, ih]
      by_cases h2 : id' = id
      · subst h2
        have e2 : (a.id == id') = false := by rw [beq_eq_false_iff_ne]; exact h
        simp [e2]
      · simp only [h2, if_false]
theorem rset_mem {l : List RT} {id : Int} {t x : RT} (h : x ∈ rset l id t) : x ∈ l ∨ x = t := by
  unfold rset at h
  split at h
  · exact List.mem_or_eq_of_mem_set h
  · exact .inl h
theorem rset_self {l : List RT} {id : Int} {t : RT} (h : rget l id = some t) : rset l id t = l := by
  induction l with
  | nil => rfl
  | cons a l ih =>
    rw [rset_cons]
    unfold rget at *
    rw [List.find?_cons] at h
    by_cases h2 : a.id = id
    · simp only [h2, beq_self_eq_true, Option.some.injEq] at h; rw [if_pos h2, h]
    · have e2 : (a.id == id) = false := by rw [beq_eq_false_iff_ne]; exact h2
      rw [e2] at h
      rw [if_neg h2, ih h]
theorem rget_add (l : List RT) (t : RT) (hn : rget l t.id = none) (id' : Int) : rget (l ++ [t]) id' = if id' = t.id then some t else rget l id' := by
  unfold rget at *
  rw [List.find?_append]
  by_cases h : id' = t.id
  · subst h; rw [hn]; simp
  · have e2 : (t.id == id') = false := by rw [beq_eq_false_iff_ne]; exact fun e => h e.symm
    simp [h, e2]
theorem rget_none {l : List RT} {id : Int} (h : rget l id = none) : id ∉ l.map (·.id) := by
  intro hm
  obtain ⟨t, ht, he⟩ := List.mem_map.1 hm
  unfold rget at h
  rw [List.find?_eq_none] at h
  have := h t ht
  simp [he] at this

structure Sim (M : Ma) (R : Rm) : Prop where
  room : R.room = M.room
  now : R.now = M.now
  closed : R.closed = M.closed
  ended : R.ended = M.ended
  closer : R.closer = M.closer
  calls : R.calls = M.calls
  opn : ∀ thr, hasK M.opn thr = rbusy M.calls thr
  uniq : ∀ (i j : Nat) ci cj, M.calls[i]? = some ci → M.calls[j]? = some cj → ci.opn = true → cj.opn = true → ci.bg.thr = cj.bg.thr → i = j
  ids : (R.tms.map (·.id)).Nodup
  added : ∀ id, hasK M.added id = (rget R.tms id).isSome
  live : ∀ id, aget M.live id = ((rget R.tms id).bind fun t => if t.live then some (tmOf t) else none)
  keys : (M.live.map (·.1)).Nodup
  wfT : ∀ t ∈ R.tms, t.wf
  wfN : U64 M.now
  wfC : ∀ c ∈ M.calls, c.bg.wf
  fresh : ∀ c ∈ M.calls, c.done = false → c.id = 0 ∧ c.gen = 0 ∧ c.err = 0
  kinds : ∀ c ∈ M.calls, 1 ≤ c.bg.what ∧ c.bg.what ≤ 7

theorem sim_new (n : Int) : Sim (new n) (rnew n) :=
  ⟨rfl, rfl, rfl, rfl, rfl, rfl, fun _ => rfl, by intro i j ci cj h; simp [new] at h, by simp [rnew], fun _ => rfl, fun _ => rfl, by simp [new], by simp [rnew], ⟨by simp [new], by simp [new]⟩, by simp [new], by simp [new], by simp [new]⟩

theorem Sim.lives {M : Ma} {R : Rm} (S : Sim M R) : (M.live.map (·.1)).Perm (rlives R.tms) := by
  have hn : (rlives R.tms).Nodup := S.ids.sublist (List.Sublist.map _ List.filter_sublist)
  rw [List.perm_ext_iff_of_nodup S.keys hn]
  intro x
  have h1 := S.live x
  have h2 : x ∈ M.live.map (·.1) ↔ (aget M.live x).isSome := by
    cases h : aget M.live x with
    | none => simpa using aget_none.1 h
    | some v =>
      simp only [Option.isSome_some, iff_true]
      exact Classical.byContradiction fun hc => by rw [aget_none.2 hc] at h; cases h
  rw [h2, h1]
  constructor
  · intro h
    cases hg : rget R.tms x with
    | none => rw [hg] at h; simp at h
    | some t =>
      rw [hg] at h
      simp only [Option.bind_some] at h
      have hl : t.live = true := by cases hb : t.live <;> simp [hb] at h ⊢
      exact List.mem_map.2 ⟨t, List.mem_filter.2 ⟨rget_mem hg, hl⟩, rget_id hg⟩
  · intro h
    obtain ⟨t, ht, rfl⟩ := List.mem_map.1 h
    obtain ⟨hm, hl⟩ := List.mem_filter.1 ht
    rw [rget_of_mem S.ids hm]
    simp [hl]
theorem Sim.len {M : Ma} {R : Rm} (S : Sim M R) : (rlives R.tms).length = M.live.length := by
  rw [← S.lives.length_eq, List.length_map]

theorem modify_set {α : Type} {l : List α} {i : Nat} {c : α} (h : l[i]? = some c) (f : α → α) : l.modify i f = l.set i (f c) := by
  apply List.ext_getElem?
  intro j
  have hlt := (List.getElem?_eq_some_iff.1 h).1
  simp only [List.getElem?_set, List.getElem?_modify]
  by_cases hj : i = j
  · subst hj; have := (List.getElem?_eq_some_iff.1 h).2; simp [hlt, this]
  · simp [hj]
theorem busy_set {l : List Cl} {i : Nat} {c c' : Cl} (h : l[i]? = some c) (ho : c'.opn = c.opn) (hb : c'.bg = c.bg) (thr : Int) : rbusy (l.set i c') thr = rbusy l thr := by
  unfold rbusy
  induction l generalizing i with
  | nil => simp at h
  | cons a l ih =>
    cases i with
    | zero => simp at h; subst h; simp [ho, hb]
    | succ i => simp only [List.getElem?_cons_succ] at h; simp only [List.set_cons_succ, List.any_cons, ih h]
theorem get_set_some {l : List Cl} {i j : Nat} {c c' cj : Cl} (h : l[i]? = some c) (hj : (l.set i c')[j]? = some cj) : (j = i ∧ cj = c') ∨ (j ≠ i ∧ l[j]? = some cj) := by
  rw [List.getElem?_set] at hj
  by_cases e : i = j
  · subst e
    have hlt := (List.getElem?_eq_some_iff.1 h).1
    simp [hlt] at hj
    exact .inl ⟨rfl, hj.symm⟩
  · rw [if_neg e] at hj; exact .inr ⟨fun e2 => e e2.symm, hj⟩

/-- A call turned, but not whether it is open. -/
theorem Sim.call {M : Ma} {R : Rm} (S : Sim M R) {i : Nat} {c c' : Cl} (h : M.calls[i]? = some c) (ho : c'.opn = c.opn) (hb : c'.bg = c.bg) (hd : c'.done = true) : Sim { M with calls := M.calls.set i c' } { R with calls := R.calls.set i c' } := by
  have hm := List.mem_of_getElem? h
  refine { S with calls := by simp only [S.calls], opn := fun thr => by rw [busy_set h ho hb]; exact S.opn thr, uniq := ?_, wfC := ?_, fresh := ?_, kinds := ?_ }
  · intro a b ca cb ha hb' h1 h2 h3
    rcases get_set_some h ha with ⟨rfl, rfl⟩ | ⟨hna, ha2⟩ <;> rcases get_set_some h hb' with ⟨rfl, rfl⟩ | ⟨hnb, hb2⟩
    · rfl
    · exact S.uniq _ _ c cb h hb2 (ho ▸ h1) h2 (by rw [← hb]; exact h3)
    · exact S.uniq _ _ ca c ha2 h h1 (ho ▸ h2) (by rw [← hb]; exact h3)
    · exact S.uniq _ _ ca cb ha2 hb2 h1 h2 h3
  · intro x hx
    rcases List.mem_or_eq_of_mem_set hx with hx | rfl
    · exact S.wfC x hx
    · rw [hb]; exact S.wfC c hm
  · intro x hx hx2
    rcases List.mem_or_eq_of_mem_set hx with hx | rfl
    · exact S.fresh x hx hx2
    · rw [hd] at hx2; cases hx2
  · intro x hx
    rcases List.mem_or_eq_of_mem_set hx with hx | rfl
    · exact S.kinds x hx
    · rw [hb]; exact S.kinds c hm
theorem Sim.put {M : Ma} {R : Rm} (S : Sim M R) {id : Int} {t t' : RT} (h : rget R.tms id = some t) (hid : t'.id = id) (hl : t'.live = true) (hw : t'.wf) : Sim { M with live := aput M.live id (tmOf t') } { R with tms := rset R.tms id t' } := by
  refine { S with ids := by rw [rset_ids _ _ _ hid]; exact S.ids, added := fun k => ?_, live := fun k => ?_, keys := aput_nodup S.keys _ _, wfT := fun x hx => ?_ }
  · rw [rget_set _ _ _ hid]
    by_cases e : k = id
    · subst e; rw [if_pos rfl, h]; have := S.added k; rw [h] at this; simpa using this
    · rw [if_neg e]; exact S.added k
  · rw [rget_set _ _ _ hid, aget_put]
    by_cases e : k = id
    · subst e; simp [h, hl]
    · rw [if_neg e, if_neg e]; exact S.live k
  · rcases rset_mem hx with hx | rfl
    · exact S.wfT x hx
    · exact hw
theorem Sim.del {M : Ma} {R : Rm} (S : Sim M R) {id : Int} {t t' : RT} (h : rget R.tms id = some t) (hid : t'.id = id) (hl : t'.live = false) (hw : t'.wf) : Sim { M with live := adel M.live id } { R with tms := rset R.tms id t' } := by
  refine { S with ids := by rw [rset_ids _ _ _ hid]; exact S.ids, added := fun k => ?_, live := fun k => ?_, keys := adel_nodup S.keys _, wfT := fun x hx => ?_ }
  · rw [rget_set _ _ _ hid]
    by_cases e : k = id
    · subst e; rw [if_pos rfl, h]; have := S.added k; rw [h] at this; simpa using this
    · rw [if_neg e]; exact S.added k
  · rw [rget_set _ _ _ hid, aget_del S.keys]
    by_cases e : k = id
    · subst e; simp [h, hl]
    · rw [if_neg e, if_neg e]; exact S.live k
  · rcases rset_mem hx with hx | rfl
    · exact S.wfT x hx
    · exact hw
theorem Sim.add {M : Ma} {R : Rm} (S : Sim M R) {t : RT} (h : rget R.tms t.id = none) (hl : t.live = true) (hw : t.wf) : Sim { M with added := aput M.added t.id true, live := aput M.live t.id (tmOf t) } { R with tms := R.tms ++ [t] } := by
  refine { S with ids := ?_, added := fun k => ?_, live := fun k => ?_, keys := aput_nodup S.keys _ _, wfT := fun x hx => ?_ }
  · rw [List.map_append, List.nodup_append]
    exact ⟨S.ids, by simp, by intro a ha b hb; simp at hb; subst hb; exact fun e => rget_none h (e ▸ ha)⟩
  · rw [rget_add _ _ h]
    show hasK (aput M.added t.id true) k = _
    unfold hasK
    rw [aget_put]
    by_cases e : k = t.id
    · simp [e]
    · rw [if_neg e, if_neg e]; exact S.added k
  · rw [rget_add _ _ h, aget_put]
    by_cases e : k = t.id
    · simp [e, hl]
    · rw [if_neg e, if_neg e]; exact S.live k
  · rcases List.mem_append.1 hx with hx | hx
    · exact S.wfT x hx
    · simp at hx; subst hx; exact hw
end Go.Proofs.Ytpnkkdpggofanaa

namespace Go.Proofs.Ytpnkkdpggofanaa

def Same2 (o : Option Ma) (p : Option Rm) : Prop := match o, p with
  | none, none => True
  | some M, some R => Sim M R
  | _, _ => False
theorem same_if {a b : Bool} {o : Option Ma} {p : Option Rm} (h : a = b) (h2 : b = false → Same2 o p) : Same2 (if a = true then none else o) (if b = true then none else p) := by
  subst h
  cases a
  · simpa using h2 rfl
  · simp [Same2]

theorem same_if' {a b : Prop} [Decidable a] [Decidable b] {o : Option Ma} {p : Option Rm} (h : a ↔ b) (h2 : ¬ b → Same2 o p) : Same2 (if a then none else o) (if b then none else p) := by
  by_cases hb : b
  · rw [if_pos (h.2 hb), if_pos hb]; trivial
  · rw [if_neg (fun ha => hb (h.1 ha)), if_neg hb]; exact h2 hb
theorem U64.add {a b : Int} (ha : U64 a) (hb : U64 b) (h : fitsB a b = true) : U64 (a + b) := by
  simp [fitsB] at h; obtain ⟨a1, a2⟩ := ha; obtain ⟨b1, b2⟩ := hb; exact ⟨by omega, by omega⟩
theorem fits_eq (a b : Int) : rfits a b = fitsB a b := by
  unfold rfits fitsB u64top
  apply decide_eq_decide.2
  constructor <;> intro h <;> omega
theorem fits_one {a : Int} (h : U64 a) : fitsB a 1 = !(a == u64top) := by
  unfold fitsB u64top
  obtain ⟨h1, h2⟩ := h
  by_cases e : a = 18446744073709551615
  · subst e; decide
  · rw [beq_eq_false_iff_ne.2 e]
    simp; omega

/-- What comes of the document's machine, if an event comes that turns the timer. -/
def rput (R : Rm) (i : Nat) (c' : Cl) (id : Int) (t' : RT) : Rm := { R with calls := R.calls.set i c', tms := rset R.tms id t' }

theorem same_begin {M : Ma} {R : Rm} (S : Sim M R) {e : Ev} (he : e.wf) : Same2 (beginM M e) (rbegin R e) := by
  unfold beginM rbegin
  rw [S.calls, S.opn]
  refine same_if (by cases (e.call != (M.calls.length : Int) + 1) <;> cases rbusy M.calls e.thr <;> cases decide (e.what < 1) <;> cases decide (e.what > 7) <;> rfl) fun hf => ?_
  have hb : rbusy M.calls e.thr = false := by simp at hf; simp [hf]
  have hno : ∀ c ∈ M.calls, c.opn = true → c.bg.thr ≠ e.thr := by
    intro c hc ho ht
    have : rbusy M.calls e.thr = true := List.any_eq_true.2 ⟨c, hc, by simp [ho, ht]⟩
    rw [this] at hb; cases hb
  refine { S with calls := by simp only, opn := fun thr => ?_, uniq := ?_, wfC := ?_, fresh := ?_, kinds := ?_ }
  · have h := S.opn thr
    unfold hasK rbusy at *
    simp only [aget_put, List.any_append, List.any_cons, List.any_nil, Bool.or_false, Bool.true_and]
    by_cases e1 : thr = e.thr
    · simp [e1]
    · rw [if_neg e1, h]
      have : (e.thr == thr) = false := by rw [beq_eq_false_iff_ne]; exact fun x => e1 x.symm
      simp [this]
  · intro i j ci cj hi hj h1 h2 h3
    simp only [List.getElem?_append] at hi hj
    by_cases li : i < M.calls.length <;> by_cases lj : j < M.calls.length
    · rw [if_pos li] at hi; rw [if_pos lj] at hj; exact S.uniq i j ci cj hi hj h1 h2 h3
    · rw [if_pos li] at hi; rw [if_neg lj] at hj
      have hcj := List.mem_of_getElem? hj
      simp at hcj; subst hcj
      exact absurd h3 (hno ci (List.mem_of_getElem? hi) h1)
    · rw [if_neg li] at hi; rw [if_pos lj] at hj
      have hci := List.mem_of_getElem? hi
      simp at hci; subst hci
      exact absurd h3.symm (hno cj (List.mem_of_getElem? hj) h2)
    · rw [if_neg li] at hi; rw [if_neg lj] at hj
      have h1 := (List.getElem?_eq_some_iff.1 hi).1
      have h2 := (List.getElem?_eq_some_iff.1 hj).1
      simp at h1 h2; omega
  · intro c hc
    rcases List.mem_append.1 hc with hc | hc
    · exact S.wfC c hc
    · simp at hc; subst hc; exact he
  · intro c hc hd
    rcases List.mem_append.1 hc with hc | hc
    · exact S.fresh c hc hd
    · simp at hc; subst hc; exact ⟨rfl, rfl, rfl⟩
  · intro c hc
    rcases List.mem_append.1 hc with hc | hc
    · exact S.kinds c hc
    · simp at hc; subst hc; simp at hf; show 1 ≤ e.what ∧ e.what ≤ 7; omega

/-- What an event that isn't a call's beginning does, once its call is told. -/
def rtail (T : List RT) (i : Nat) (e : Ev) (r : Rm × Cl × RT × Bool) : Option Rm := match r with
  | (_, _, _, false) => none
  | (m', c', t', true) => some { m' with calls := m'.calls.set i c', tms := if e.kind == 3 then m'.tms ++ [t'] else if decide (rfindI T e.id ≥ 0) && e.kind != 2 then rset m'.tms e.id t' else m'.tms }
theorem rtail_if (T : List RT) (i : Nat) (e : Ev) (m' : Rm) (c' : Cl) (t' : RT) (b : Bool) :
    rtail T i e (m', c', t', b) = if (!b) = true then none else some { m' with calls := m'.calls.set i c', tms := if e.kind == 3 then m'.tms ++ [t'] else if decide (rfindI T e.id ≥ 0) && e.kind != 2 then rset m'.tms e.id t' else m'.tms } := by
  cases b <;> rfl
theorem found {T : List RT} {id : Int} {t : RT} (h : rget T id = some t) : decide (rfindI T id ≥ 0) = true := by
  have := (rfindI_some (l := T) (id := id)).2 (by simp [h]); simpa using this
theorem lost {T : List RT} {id : Int} (h : rget T id = none) : decide (rfindI T id ≥ 0) = false := by
  have : ¬ (0 ≤ rfindI T id) := fun hh => by have := (rfindI_some (l := T) (id := id)).1 hh; simp [h] at this
  simpa using this
theorem lost' {T : List RT} {id : Int} : decide (rfindI T id < 0) = (rget T id).isNone := by
  cases h : rget T id with
  | none => have := lost h; simp at this; simp; exact this
  | some t => have := found h; simp at this; simp; omega
/-- A timer that stays what it is. -/
theorem tms_same (T : List RT) (e : Ev) (h3 : (e.kind == 3) = false) : (if e.kind == 3 then T ++ [rtm T e.id] else if decide (rfindI T e.id ≥ 0) && e.kind != 2 then rset T e.id (rtm T e.id) else T) = T := by
  rw [h3]
  cases h : rget T e.id with
  | none => rw [lost h]; simp
  | some t =>
    rw [show rtm T e.id = t by simp [rtm, h], rset_self h]
    simp

theorem Sim.now' {M : Ma} {R : Rm} (S : Sim M R) (n : Int) (h : U64 n) : Sim { M with now := n } { R with now := n } := { S with now := rfl, wfN := h }
theorem Sim.shut {M : Ma} {R : Rm} (S : Sim M R) (b : Bool) (k : Int) : Sim { M with closed := b, closer := k } { R with closed := b, closer := k } := { S with closed := rfl, closer := rfl }
theorem Sim.end' {M : Ma} {R : Rm} (S : Sim M R) (b : Bool) : Sim { M with ended := b } { R with ended := b } := { S with ended := rfl }

theorem Sim.rm {M : Ma} {R : Rm} (S : Sim M R) : R = ⟨M.room, M.now, M.closed, M.ended, M.closer, M.calls, R.tms⟩ := by
  obtain ⟨a, b, c, d, f, g, t⟩ := R
  obtain ⟨h1, h2, h3, h4, h5, h6, _⟩ := S
  simp only at h1 h2 h3 h4 h5 h6
  subst h1 h2 h3 h4 h5 h6
  rfl
abbrev Rof (M : Ma) (T : List RT) : Rm := ⟨M.room, M.now, M.closed, M.ended, M.closer, M.calls, T⟩

theorem calls_self {M : Ma} {i : Nat} {c : Cl} (hc : M.calls[i]? = some c) : M.calls.set i c = M.calls := by
  obtain ⟨h1, h2⟩ := List.getElem?_eq_some_iff.1 hc
  subst h2; exact List.set_getElem_self h1
theorem rcalls_self {M : Ma} {R : Rm} (S : Sim M R) {i : Nat} {c : Cl} (hc : M.calls[i]? = some c) : R.calls.set i c = R.calls := by rw [S.calls]; exact calls_self hc

section
variable {M : Ma} {T : List RT} (S : Sim M (Rof M T)) {e : Ev} (he : e.wf) {i : Nat} {c : Cl} (hc : M.calls[i]? = some c)

theorem cl_fin {c : Cl} (h : c.id = 0 ∧ c.gen = 0 ∧ c.err = 0) (b : Bool) (x : Int) : ({ c with done := b, id := 0, gen := 0, err := x } : Cl) = { c with done := b, err := x } := by
  obtain ⟨h1, h2, h3⟩ := h; cases c; simp_all
theorem cl_fin0 {c : Cl} (h : c.id = 0 ∧ c.gen = 0 ∧ c.err = 0) (b : Bool) : ({ c with done := b, id := 0, gen := 0, err := 0 } : Cl) = { c with done := b } := by
  obtain ⟨h1, h2, h3⟩ := h; cases c; simp_all
theorem cl_done {c : Cl} (h : c.id = 0 ∧ c.gen = 0 ∧ c.err = 0) (b : Bool) (x y : Int) : ({ c with done := b, id := x, gen := y, err := 0 } : Cl) = { c with done := b, id := x, gen := y } := by
  obtain ⟨h1, h2, h3⟩ := h; cases c; simp_all

include S hc
theorem same_tick (hk : e.kind = 11) (hd : c.done = false) : Same2 (tickM M i c e) (rtail T i e (rdoes (Rof M T) c (rtm T e.id) e)) := by
  have hz := S.fresh c (List.mem_of_getElem? hc) hd
  have hw := fits_one S.wfN
  unfold rdoes rfirst tickM
  simp only [hd, hk, Bool.false_eq_true, if_false, show ((11 : Int) == 3) = false from rfl, show ((11 : Int) == 11) = true from rfl, if_true]
  rw [hw, Bool.not_not]
  cases hx : (c.bg.what != 7 || M.ended || M.now == u64top || e.tk != M.now + 1)
  · rw [if_neg (by simp), if_neg (by simp)]
    show Sim _ _
    have ht := tms_same T e (by rw [hk]; rfl)
    simp only at ht ⊢
    rw [ht]
    have hw' : U64 (M.now + 1) := U64.add S.wfN ⟨by decide, by decide⟩ (by rw [hw]; simp at hx; simp [hx])
    have := (S.call (c' := { c with done := true }) hc rfl rfl rfl).now' _ hw'
    unfold fin
    rw [modify_set hc, cl_fin0 hz]
    exact this
  · rw [if_pos rfl, if_pos (by simp)]
    simp [Same2, rtail]
theorem same_refuse (hk : e.kind = 9) (hd : c.done = false) : Same2 (refuseM M i c e) (rtail T i e (rdoes (Rof M T) c (rtm T e.id) e)) := by
  have hz := S.fresh c (List.mem_of_getElem? hc) hd
  have hwhat := S.kinds c (List.mem_of_getElem? hc)
  unfold rdoes rfirst refuseM
  simp only [hd, hk, Bool.false_eq_true, if_false, show ((9 : Int) == 3) = false from rfl, show ((9 : Int) == 11) = false from rfl, show ((9 : Int) == 6) = false from rfl, show ((9 : Int) == 7) = false from rfl, show ((9 : Int) == 8) = false from rfl, show ((9 : Int) == 9) = true from rfl, if_true]
  rw [rtail_if]
  have hr : refB M c e = rrefused (Rof M T) c.bg e.err := by
    unfold refB rrefused
    have e1 : ∀ b : Bool, (b = true) = b := fun _ => rfl
    have w1 : (c.bg.what == 3 || c.bg.what == 4 || c.bg.what == 5) = (decide (c.bg.what ≥ 3) && decide (c.bg.what ≤ 5)) := by
      rw [Bool.eq_iff_iff]; simp; omega
    have w2 : (c.bg.what == 1 || c.bg.what == 2 || c.bg.what == 3) = decide (c.bg.what ≤ 3) := by
      rw [Bool.eq_iff_iff]; simp; omega
    have ad := S.added c.bg.id
    have lv := S.live c.bg.id
    rw [w1, w2, ad, fits_one S.wfN, lost']
    congr 1
    · congr 1
      · unfold perOk
        rw [← fits_eq]
        have hp := (S.wfC c (List.mem_of_getElem? hc)).per.1
        have : decide (c.bg.per > 0) = !(c.bg.per == 0) := by
          rw [Bool.eq_iff_iff]; simp; omega
        rw [this]
        cases c.bg.per == 0 <;> cases rfits c.bg.dl c.bg.per <;> rfl
      · simp
    · congr 1
      congr 1
      congr 1
      · simp
      · congr 1
        have wx : (c.bg.what == 3 || c.bg.what == 4) = ((decide (c.bg.what ≥ 3) && decide (c.bg.what ≤ 5)) && !(c.bg.what == 5)) := by
          rw [Bool.eq_iff_iff]; simp; omega
        have wy : (c.bg.what == 5) = ((decide (c.bg.what ≥ 3) && decide (c.bg.what ≤ 5)) && (c.bg.what == 5)) := by
          rw [Bool.eq_iff_iff]; simp; omega
        unfold stopsM
        rw [wx, lv]
        simp only
        cases hg : rget T c.bg.id with
        | none =>
          have : rtm T c.bg.id = rt0 := by simp [rtm, hg]
          rw [this]
          conv => lhs; rw [wy]
          simp [rt0]
          cases (decide (3 ≤ c.bg.what)) <;> cases (decide (c.bg.what ≤ 5)) <;> cases (c.bg.what == 5) <;> rfl
        | some t =>
          have : rtm T c.bg.id = t := by simp [rtm, hg]
          rw [this]
          have hp := (S.wfT t (rget_mem hg)).per.1
          have hp2 : decide (t.per > 0) = !(t.per == 0) := by
            rw [Bool.eq_iff_iff]; simp; omega
          conv => lhs; rw [wy]
          cases hl : t.live
          · simp [hl]
            cases (decide (3 ≤ c.bg.what)) <;> cases (decide (c.bg.what ≤ 5)) <;> cases (c.bg.what == 5) <;> rfl
          · simp only [Option.bind_some, hl, if_true, Option.isNone_some, tmOf, hp2]
            cases (decide (c.bg.what ≥ 3)) <;> cases (decide (c.bg.what ≤ 5)) <;> cases (c.bg.what == 5) <;> cases (t.per == 0) <;> cases t.last <;> rfl
  rw [hr]
  cases hx : rrefused (Rof M T) c.bg e.err
  · simp [Same2]
  · simp only [if_true, Bool.not_true, Bool.false_eq_true, if_false]
    show Sim _ _
    have ht := tms_same T e (by rw [hk]; rfl)
    rw [ht]
    unfold fin
    rw [modify_set hc, cl_fin hz]
    exact S.call hc rfl rfl rfl

theorem tms_put {t t' : RT} (h3 : (e.kind == 3) = false) (h2 : (e.kind == 2) = false) (hg : rget T e.id = some t) : (if (e.kind == 3) = true then T ++ [t'] else if (decide (rfindI T e.id ≥ 0) && e.kind != 2) = true then rset T e.id t' else T) = rset T e.id t' := by
  have _ := S
  have _ := hc
  have hf := found hg
  have h2' : (e.kind != 2) = true := by unfold bne; rw [h2]; rfl
  rw [h3, hf, h2']
  simp
/-- A timer that isn't live. -/
theorem gone (h : aget M.live e.id = none) : (rtm T e.id).live = false := by
  have _ := hc
  have := S.live e.id
  rw [h] at this
  unfold rtm
  simp only at this
  cases hg : rget T e.id with
  | none => rfl
  | some t =>
    rw [hg] at this
    cases hl : t.live
    · simp [hl]
    · simp [hl] at this
theorem there {x : Tm} (h : aget M.live e.id = some x) : ∃ t, rget T e.id = some t ∧ t.live = true ∧ x = tmOf t ∧ t.wf ∧ t.id = e.id := by
  have _ := hc
  have := S.live e.id
  rw [h] at this
  simp only at this
  cases hg : rget T e.id with
  | none => rw [hg] at this; simp at this
  | some t =>
    rw [hg] at this
    cases hl : t.live
    · simp [hl] at this
    · simp [hl] at this
      exact ⟨t, rfl, hl, this.symm ▸ rfl, S.wfT t (rget_mem hg), rget_id hg⟩
theorem none_of {r : Rm × Cl × RT × Bool} (h : r.2.2.2 = false) : Same2 none (rtail T i e r) := by
  have _ := S
  have _ := hc
  obtain ⟨a, b, d, f⟩ := r; simp at h; subst h; simp [Same2, rtail]

include he
theorem same_arm (hk : e.kind = 4) (hd : c.done = true) : Same2 (armM M c e) (rtail T i e (rdoes (Rof M T) c (rtm T e.id) e)) := by
  have _ := he
  unfold armM
  cases hg : aget M.live e.id with
  | none =>
    have hl := gone S hc hg
    exact none_of S hc (by unfold rdoes rlater; simp [hd, hk, hl])
  | some x =>
    obtain ⟨t, hg2, hl, rfl, hw, hid⟩ := there S hc hg
    have hr : rtm T e.id = t := by simp [rtm, hg2]
    have hcs : M.calls.set i c = M.calls := calls_self hc
    have hP := fun t' => S.put (t' := t') hg2
    have ht := fun t' => tms_put (T := T) S hc (t' := t') (by rw [hk]; rfl) (by rw [hk]; rfl) hg2
    rw [hr]
    obtain ⟨tid, tl, tg, td, tp, tlast, ta, tb⟩ := t
    obtain ⟨wg, wd, wp⟩ := hw
    simp only at hl hid wg wd wp
    subst hl
    unfold rdoes rlater
    simp only [hd, hk, if_true, Bool.not_true, Bool.or_false, show ((4 : Int) == 2) = false from rfl, show ((4 : Int) == 4) = true from rfl, Bool.false_eq_true, if_false, Rof]
    cases (c.bg.what != 7)
    · simp only [Bool.false_eq_true, if_false]
      cases tb
      · simp only [Bool.false_eq_true, if_false]
        cases ta
        · simp only [Bool.false_eq_true, if_false, Bool.false_or]
          rw [rtail_if, rmax_eq]
          refine same_if' (by unfold bne; generalize (e.gen == tg) = x; generalize (e.dl == max td M.now) = y; cases x <;> cases y <;> simp) fun hok => ?_
          show Sim _ _
          rw [ht, hcs]
          exact hP ⟨tid, true, tg, max td M.now, tp, tlast, true, false⟩ hid rfl ⟨wg, ⟨by have := wd.1; show 0 ≤ max td M.now; omega, by have := wd.2; have := S.wfN.2; show max td M.now ≤ _; omega⟩, wp⟩
        · simp only [if_true, Bool.true_or]
          exact none_of S hc rfl
      · simp only [if_true]
        have f1 := fits_eq td tp
        have f2 := fits_one wg
        by_cases hq : (!rfits td tp || tg == u64top) = true
        · rw [if_pos hq, if_pos (by rw [f1] at hq; rw [f2]; revert hq; generalize fitsB td tp = x; generalize (tg == u64top) = y; cases x <;> cases y <;> simp)]
          exact none_of S hc rfl
        · rw [if_neg hq, rtail_if]
          have hq2 : fitsB td tp = true ∧ (tg == u64top) = false := by rw [f1] at hq; simpa using hq
          refine same_if' (by rw [f2, hq2.1, hq2.2]; simp [bne]) fun hok => ?_
          show Sim _ _
          rw [ht, hcs]
          exact hP ⟨tid, true, tg + 1, td + tp, tp, tlast, true, false⟩ hid rfl ⟨wg.add ⟨by decide, by decide⟩ (by rw [f2, hq2.2]; rfl), wd.add wp hq2.1, wp⟩
    · simp only [if_true]
      exact none_of S hc rfl

theorem same_fire (hk : e.kind = 5) (hd : c.done = true) : Same2 (fireM M c e) (rtail T i e (rdoes (Rof M T) c (rtm T e.id) e)) := by
  have _ := he
  unfold fireM
  cases hg : aget M.live e.id with
  | none =>
    have hl := gone S hc hg
    exact none_of S hc (by unfold rdoes rlater; simp [hd, hk, hl])
  | some x =>
    obtain ⟨t, hg2, hl, rfl, hw, hid⟩ := there S hc hg
    have hr : rtm T e.id = t := by simp [rtm, hg2]
    have hcs : M.calls.set i c = M.calls := calls_self hc
    have hP := fun t' => S.put (t' := t') hg2
    have hD := fun t' => S.del (t' := t') hg2
    have ht := fun t' => tms_put (T := T) S hc (t' := t') (by rw [hk]; rfl) (by rw [hk]; rfl) hg2
    rw [hr]
    obtain ⟨tid, tl, tg, td, tp, tlast, ta, tb⟩ := t
    obtain ⟨wg, wd, wp⟩ := hw
    simp only at hl hid wg wd wp
    subst hl
    unfold rdoes rlater
    simp only [hd, hk, if_true, Bool.not_true, Bool.or_false, show ((5 : Int) == 2) = false from rfl, show ((5 : Int) == 4) = false from rfl, show ((5 : Int) == 5) = true from rfl, Bool.false_eq_true, if_false, Rof]
    by_cases h7 : (c.bg.what != 7) = true
    · rw [if_pos (by rw [h7]; simp), if_pos h7]
      exact none_of S hc rfl
    · rw [if_neg h7, rtail_if]
      refine same_if' (by have := Bool.eq_false_iff.2 h7; rw [this]; unfold bne; cases ta <;> cases tb <;> generalize (e.gen == tg) = x1 <;> generalize (e.dl == td) = x2 <;> generalize (e.tk == M.now) = x3 <;> generalize (td == M.now) = x4 <;> cases x1 <;> cases x2 <;> cases x3 <;> cases x4 <;> simp) fun hok => ?_
      have hok2 : ta = true ∧ tb = false := by revert hok; cases ta <;> cases tb <;> simp
      by_cases hp : (decide (tp > 0) && !tlast) = true
      · rw [if_pos hp]
        show Sim _ _
        rw [ht, hcs, hp]
        have := hP ⟨tid, true, tg, td, tp, tlast, ta, true⟩ hid rfl ⟨wg, wd, wp⟩
        obtain ⟨rfl, rfl⟩ := hok2
        exact this
      · rw [if_neg hp]
        show Sim _ _
        rw [ht, hcs, Bool.eq_false_iff.2 hp]
        exact hD ⟨tid, false, tg, td, tp, tlast, ta, false⟩ hid rfl ⟨wg, wd, wp⟩
theorem same_over (hk : e.kind = 14) (hd : c.done = true) : Same2 (overM M c e) (rtail T i e (rdoes (Rof M T) c (rtm T e.id) e)) := by
  have _ := he
  unfold overM
  cases hg : aget M.live e.id with
  | none =>
    have hl := gone S hc hg
    exact none_of S hc (by unfold rdoes rlater; simp [hd, hk, hl])
  | some x =>
    obtain ⟨t, hg2, hl, rfl, hw, hid⟩ := there S hc hg
    have hr : rtm T e.id = t := by simp [rtm, hg2]
    have hcs : M.calls.set i c = M.calls := calls_self hc
    have hD := fun t' => S.del (t' := t') hg2
    have ht := fun t' => tms_put (T := T) S hc (t' := t') (by rw [hk]; rfl) (by rw [hk]; rfl) hg2
    rw [hr]
    obtain ⟨tid, tl, tg, td, tp, tlast, ta, tb⟩ := t
    obtain ⟨wg, wd, wp⟩ := hw
    simp only at hl hid wg wd wp
    subst hl
    unfold rdoes rlater
    simp only [hd, hk, if_true, Bool.not_true, Bool.or_false, show ((14 : Int) == 2) = false from rfl, show ((14 : Int) == 4) = false from rfl, show ((14 : Int) == 5) = false from rfl, show ((14 : Int) == 14) = true from rfl, Bool.false_eq_true, if_false, Rof]
    by_cases h7 : (c.bg.what != 7) = true
    · rw [if_pos (by rw [h7]; simp), if_pos h7]
      exact none_of S hc rfl
    · rw [if_neg h7, rtail_if]
      refine same_if' (by have := Bool.eq_false_iff.2 h7; rw [this, fits_eq]; unfold bne; cases tb <;> generalize (e.gen == tg) = x1 <;> generalize fitsB td tp = x2 <;> cases x1 <;> cases x2 <;> simp) fun hok => ?_
      show Sim _ _
      rw [ht, hcs]
      exact hD ⟨tid, false, tg, td, tp, tlast, ta, tb⟩ hid rfl ⟨wg, wd, wp⟩
theorem same_leave (hk : e.kind = 12) (hd : c.done = false) : Same2 (leaveM M e) (rtail T i e (rdoes (Rof M T) c (rtm T e.id) e)) := by
  have _ := he
  unfold leaveM rdoes rfirst rclosing
  simp only [hd, hk, Bool.false_eq_true, if_false, show ((12 : Int) == 3) = false from rfl, show ((12 : Int) == 11) = false from rfl, show ((12 : Int) == 6) = false from rfl, show ((12 : Int) == 7) = false from rfl, show ((12 : Int) == 8) = false from rfl, show ((12 : Int) == 9) = false from rfl, show ((12 : Int) == 10) = false from rfl, show ((12 : Int) == 12) = true from rfl, if_true, Rof]
  by_cases hcl : (!M.closed || M.closer != e.call) = true
  · rw [if_pos hcl, if_pos hcl]
    exact none_of S hc rfl
  · rw [if_neg hcl, if_neg hcl]
    cases hg : aget M.live e.id with
    | none =>
      have hl := gone S hc hg
      exact none_of S hc (by simp [hl])
    | some x =>
      obtain ⟨t, hg2, hl, rfl, hw, hid⟩ := there S hc hg
      have hr : rtm T e.id = t := by simp [rtm, hg2]
      have hcs : M.calls.set i c = M.calls := calls_self hc
      have hD := fun t' => S.del (t' := t') hg2
      have ht := fun t' => tms_put (T := T) S hc (t' := t') (by rw [hk]; rfl) (by rw [hk]; rfl) hg2
      rw [hr]
      obtain ⟨tid, tl, tg, td, tp, tlast, ta, tb⟩ := t
      obtain ⟨wg, wd, wp⟩ := hw
      simp only at hl hid wg wd wp
      subst hl
      rw [rtail_if]
      refine same_if' (by unfold bne; simp only; cases tb <;> generalize (e.gen == tg) = x1 <;> cases x1 <;> simp) fun hok => ?_
      show Sim _ _
      rw [ht, hcs]
      exact hD ⟨tid, false, tg, td, tp, tlast, ta, tb⟩ hid rfl ⟨wg, wd, wp⟩

theorem call_done (hd : c.done = false) (x y : Int) {M2 : Ma} {R2 : Rm} (S2 : Sim M2 R2) (h2 : M2.calls = M.calls) (h3 : R2.calls = M.calls) : Sim { M2 with calls := M.calls.modify i fun c => { c with done := true, id := x, gen := y, err := 0 } } { R2 with calls := M.calls.set i { c with done := true, id := x, gen := y } } := by
  have _ := he
  have hz := S.fresh c (List.mem_of_getElem? hc) hd
  have := S2.call (i := i) (c := c) (c' := { c with done := true, id := x, gen := y }) (by rw [h2]; exact hc) rfl rfl rfl
  rw [modify_set hc, cl_done hz]
  rw [h2, h3] at this
  exact this
theorem same_reset (hk : e.kind = 6) (hd : c.done = false) : Same2 (resetM M i c e) (rtail T i e (rdoes (Rof M T) c (rtm T e.id) e)) := by
  unfold resetM rdoes rfirst
  simp only [hd, hk, Bool.false_eq_true, if_false, show ((6 : Int) == 3) = false from rfl, show ((6 : Int) == 11) = false from rfl, show ((6 : Int) == 6) = true from rfl, if_true, Rof]
  cases hg : aget M.live e.id with
  | none =>
    have hl := gone S hc hg
    exact none_of S hc (by simp [hl])
  | some x =>
    obtain ⟨t, hg2, hl, rfl, hw, hid⟩ := there S hc hg
    have hr : rtm T e.id = t := by simp [rtm, hg2]
    have ht := fun t' => tms_put (T := T) S hc (t' := t') (by rw [hk]; rfl) (by rw [hk]; rfl) hg2
    rw [hr]
    obtain ⟨tid, tl, tg, td, tp, tlast, ta, tb⟩ := t
    obtain ⟨wg, wd, wp⟩ := hw
    simp only at hl hid wg wd wp
    subst hl
    rw [rtail_if]
    have hgen := he.gen
    have hgg : (e.gen == 0 || e.gen - 1 != tg) = !(decide (tg < u64top) && (e.gen == tg + 1)) := by
      obtain ⟨g1, g2⟩ := hgen
      unfold u64top
      by_cases h : e.gen = tg + 1
      · have h0 : (e.gen == 0) = false := by rw [beq_eq_false_iff_ne]; obtain ⟨w1, _⟩ := wg; omega
        have h1 : (e.gen - 1 != tg) = false := by simp; omega
        have h2 : decide (tg < 18446744073709551615) = true := by simp; omega
        rw [h0, h1, h2, beq_iff_eq.2 h]; rfl
      · have h1 : (e.gen == tg + 1) = false := by rw [beq_eq_false_iff_ne]; exact h
        have h2 : (e.gen - 1 != tg) = true := by rw [bne_iff_ne]; omega
        rw [h1, h2]; simp
    refine same_if' (by simp only [Bool.or_assoc, Bool.and_assoc]; rw [hgg]; unfold bne; generalize (c.bg.what == 3) = x1; generalize (e.id == c.bg.id) = x2; generalize (e.dl == c.bg.dl) = x3; generalize (decide (tg < u64top) && (e.gen == tg + 1)) = x4; cases x1 <;> cases x2 <;> cases x3 <;> cases x4 <;> simp) fun hok => ?_
    have hok2 : tg + 1 = e.gen := by simp [u64top] at hok; omega
    show Sim _ _
    rw [ht]
    exact call_done S he hc hd e.id e.gen (S.put (t' := ⟨tid, true, e.gen, e.dl, tp, tlast, false, false⟩) hg2 hid rfl ⟨he.gen, he.dl, wp⟩) rfl rfl
theorem same_cancel (hk : e.kind = 7) (hd : c.done = false) : Same2 (cancelM M i c e) (rtail T i e (rdoes (Rof M T) c (rtm T e.id) e)) := by
  unfold cancelM rdoes rfirst
  simp only [hd, hk, Bool.false_eq_true, if_false, show ((7 : Int) == 3) = false from rfl, show ((7 : Int) == 11) = false from rfl, show ((7 : Int) == 6) = false from rfl, show ((7 : Int) == 7) = true from rfl, if_true, Rof]
  cases hg : aget M.live e.id with
  | none =>
    have hl := gone S hc hg
    exact none_of S hc (by simp [hl])
  | some x =>
    obtain ⟨t, hg2, hl, rfl, hw, hid⟩ := there S hc hg
    have hr : rtm T e.id = t := by simp [rtm, hg2]
    have ht := fun t' => tms_put (T := T) S hc (t' := t') (by rw [hk]; rfl) (by rw [hk]; rfl) hg2
    rw [hr]
    obtain ⟨tid, tl, tg, td, tp, tlast, ta, tb⟩ := t
    obtain ⟨wg, wd, wp⟩ := hw
    simp only at hl hid wg wd wp
    subst hl
    rw [rtail_if]
    have f2 := fits_one wg
    have f3 : decide (tg < u64top) = !(tg == u64top) := by
      have := wg.2; unfold u64top; rw [Bool.eq_iff_iff]; simp; omega
    refine same_if' (by rw [f2, f3]; unfold bne; cases tb <;> simp only [Bool.false_eq_true, if_false, if_true, Bool.false_and, Bool.true_and, Bool.not_not, Bool.not_true, Bool.not_false, Bool.false_or, Bool.or_false] <;> generalize (c.bg.what == 4) = x1 <;> generalize (e.id == c.bg.id) = x2 <;> generalize (tg == u64top) = x3 <;> generalize (e.gen == tg + 1) = x4 <;> generalize (e.gen == tg) = x5 <;> cases x1 <;> cases x2 <;> cases x3 <;> cases x4 <;> cases x5 <;> simp) fun hok => ?_
    show Sim _ _
    rw [ht]
    exact call_done S he hc hd e.id e.gen (S.del (t' := ⟨tid, false, tg, td, tp, tlast, ta, tb⟩) hg2 hid rfl ⟨wg, wd, wp⟩) rfl rfl
theorem same_stop (hk : e.kind = 8) (hd : c.done = false) : Same2 (stopM M i c e) (rtail T i e (rdoes (Rof M T) c (rtm T e.id) e)) := by
  unfold stopM rdoes rfirst
  simp only [hd, hk, Bool.false_eq_true, if_false, show ((8 : Int) == 3) = false from rfl, show ((8 : Int) == 11) = false from rfl, show ((8 : Int) == 6) = false from rfl, show ((8 : Int) == 7) = false from rfl, show ((8 : Int) == 8) = true from rfl, if_true, Rof]
  cases hg : aget M.live e.id with
  | none =>
    have hl := gone S hc hg
    exact none_of S hc (by simp [hl])
  | some x =>
    obtain ⟨t, hg2, hl, rfl, hw, hid⟩ := there S hc hg
    have hr : rtm T e.id = t := by simp [rtm, hg2]
    have ht := fun t' => tms_put (T := T) S hc (t' := t') (by rw [hk]; rfl) (by rw [hk]; rfl) hg2
    rw [hr]
    obtain ⟨tid, tl, tg, td, tp, tlast, ta, tb⟩ := t
    obtain ⟨wg, wd, wp⟩ := hw
    simp only at hl hid wg wd wp
    subst hl
    rw [rtail_if]
    refine same_if' (by unfold bne; simp only; generalize (c.bg.what == 5) = x1; generalize (e.id == c.bg.id) = x2; generalize decide (tp > 0) = x3; generalize (e.gen == tg) = x4; cases x1 <;> cases x2 <;> cases x3 <;> cases x4 <;> cases tlast <;> simp) fun hok => ?_
    cases tb
    · show Sim _ _
      rw [ht]
      exact call_done S he hc hd e.id e.gen (S.put (t' := ⟨tid, true, tg, td, tp, true, ta, false⟩) hg2 hid rfl ⟨wg, wd, wp⟩) rfl rfl
    · show Sim _ _
      rw [ht]
      exact call_done S he hc hd e.id e.gen (S.del (t' := ⟨tid, false, tg, td, tp, true, ta, true⟩) hg2 hid rfl ⟨wg, wd, wp⟩) rfl rfl
theorem same_close (hk : e.kind = 10) (hd : c.done = false) : Same2 (closeM M c e) (rtail T i e (rdoes (Rof M T) c (rtm T e.id) e)) := by
  have _ := he
  unfold closeM rdoes rfirst rclosing
  simp only [hd, hk, Bool.false_eq_true, if_false, show ((10 : Int) == 3) = false from rfl, show ((10 : Int) == 11) = false from rfl, show ((10 : Int) == 6) = false from rfl, show ((10 : Int) == 7) = false from rfl, show ((10 : Int) == 8) = false from rfl, show ((10 : Int) == 9) = false from rfl, show ((10 : Int) == 10) = true from rfl, if_true, Rof]
  by_cases hx : (c.bg.what != 6 || M.closed) = true
  · rw [if_pos hx, if_pos hx]
    exact none_of S hc rfl
  · rw [if_neg hx, if_neg hx]
    show Sim _ _
    rw [tms_same T e (by rw [hk]; rfl), calls_self hc]
    exact S.shut true e.call
theorem same_end (hk : e.kind = 13) (hd : c.done = false) : Same2 (endM M i e) (rtail T i e (rdoes (Rof M T) c (rtm T e.id) e)) := by
  have _ := he
  have hlen : (rlives T).length = M.live.length := S.len
  have hz := S.fresh c (List.mem_of_getElem? hc) hd
  unfold endM rdoes rfirst rclosing
  simp only [hd, hk, Bool.false_eq_true, if_false, show ((13 : Int) == 3) = false from rfl, show ((13 : Int) == 11) = false from rfl, show ((13 : Int) == 6) = false from rfl, show ((13 : Int) == 7) = false from rfl, show ((13 : Int) == 8) = false from rfl, show ((13 : Int) == 9) = false from rfl, show ((13 : Int) == 10) = false from rfl, show ((13 : Int) == 12) = false from rfl, show ((13 : Int) == 13) = true from rfl, if_true, Rof]
  by_cases hx : (!M.closed || M.closer != e.call) = true
  · rw [if_pos hx, if_pos (by rw [hx]; rfl)]
    exact none_of S hc rfl
  · rw [if_neg hx, hlen]
    by_cases hy : decide (M.live.length > 0) = true
    · rw [if_pos hy, if_pos (by simp at hy; simp; right; exact hy)]
      exact none_of S hc rfl
    · rw [if_neg hy, if_neg (by have := Bool.eq_false_iff.2 hx; rw [this]; simp at hy; simp [hy])]
      show Sim _ _
      rw [tms_same T e (by rw [hk]; rfl)]
      unfold fin
      rw [modify_set hc, cl_fin0 hz]
      exact (S.call (c' := { c with done := true }) hc rfl rfl rfl).end' true
theorem same_add (hk : e.kind = 3) (hd : c.done = false) : Same2 (addM M i c e) (rtail T i e (rdoes (Rof M T) c (rtm T e.id) e)) := by
  have hlen : (rlives T).length = M.live.length := S.len
  have had := S.added e.id
  have hcw := S.wfC c (List.mem_of_getElem? hc)
  unfold addM rdoes rfirst
  simp only [hd, hk, Bool.false_eq_true, if_false, show ((3 : Int) == 3) = true from rfl, if_true, Rof]
  rw [rtail_if, hlen, lost', had]
  unfold perOk
  have hor : ∀ (a b d : Bool) (o : Option Ma), (if a = true then none else if b = true then none else if d = true then none else o) = if (a || b || d) = true then none else o := by intro a b d o; cases a <;> cases b <;> cases d <;> rfl
  rw [hor, ← fits_eq]
  have hlt : decide ((M.live.length : Int) ≥ M.room) = !decide ((M.live.length : Int) < M.room) := by rw [Bool.eq_iff_iff]; simp
  rw [hlt]
  have hrp : rper c.bg = if (c.bg.what == 2) = true then c.bg.per else 0 := rfl
  have hno : (rget (Rof M T).tms e.id).isSome = !(rget T e.id).isNone := by simp
  rw [hno]
  refine same_if' ?_ fun hok => ?_
  · unfold bne
    by_cases h2 : (c.bg.what == 2) = true
    · have h1 : (c.bg.what == 1) = false := by simp at h2 ⊢; omega
      rw [hrp, if_pos h2, h1, h2]
      generalize decide (c.bg.per > 0) = x1; generalize rfits c.bg.dl c.bg.per = x2; generalize decide ((M.live.length : Int) < M.room) = x3; generalize (e.dl == c.bg.dl) = x4; generalize (e.per == c.bg.per) = x5; generalize (rget T e.id).isNone = x6; generalize M.ended = x7
      cases x1 <;> cases x2 <;> cases x3 <;> cases x4 <;> cases x5 <;> cases x6 <;> cases x7 <;> simp
    · have h2' := Bool.eq_false_iff.2 h2
      rw [hrp, if_neg h2, h2']
      generalize (c.bg.what == 1) = x1; generalize rfits c.bg.dl 0 = x2; generalize decide ((M.live.length : Int) < M.room) = x3; generalize (e.dl == c.bg.dl) = x4; generalize (e.per == 0) = x5; generalize (rget T e.id).isNone = x6; generalize M.ended = x7
      cases x1 <;> cases x3 <;> cases x4 <;> cases x5 <;> cases x6 <;> cases x7 <;> simp
  · have hok1 : (rget T e.id).isNone = true ∧ e.dl = c.bg.dl ∧ e.per = rper c.bg := by simp at hok; simp [hok]
    obtain ⟨h1, h2, h3⟩ := hok1
    show Sim _ _
    have := S.add (t := ⟨e.id, true, e.gen, e.dl, e.per, false, false, false⟩) (by simpa [Rof] using h1) rfl ⟨he.gen, he.dl, he.per⟩
    rw [← h2, ← h3]
    simp only [hk, show ((3 : Int) == 3) = true from rfl, if_true]
    exact call_done S he hc hd e.id e.gen this rfl rfl
theorem same_answer (hk : e.kind = 2) (hd : c.done = true) (ho : c.opn = true) (hthr : c.bg.thr = e.thr) : Same2 (answerM M i c e) (rtail T i e (rdoes (Rof M T) c (rtm T e.id) e)) := by
  have _ := he
  unfold answerM rdoes rlater
  simp only [hd, hk, if_true, show ((2 : Int) == 2) = true from rfl]
  rw [rtail_if]
  refine same_if' (by unfold bne; generalize (e.id == c.id) = x1; generalize (e.gen == c.gen) = x2; generalize (e.err == c.err) = x3; cases x1 <;> cases x2 <;> cases x3 <;> simp) fun hok => ?_
  show Sim _ _
  have ht : (if (e.kind == 3) = true then T ++ [rtm T e.id] else if (decide (rfindI T e.id ≥ 0) && e.kind != 2) = true then rset T e.id (rtm T e.id) else T) = T := by rw [hk]; simp
  simp only at ht ⊢
  rw [ht, modify_set hc]
  have hlt := (List.getElem?_eq_some_iff.1 hc).1
  refine { S with calls := by simp only [hd], opn := ?_, uniq := ?_, wfC := ?_, fresh := ?_, kinds := ?_ }
  · intro thr
    show hasK (aput M.opn e.thr false) thr = rbusy (M.calls.set i { c with opn := false }) thr
    unfold hasK
    rw [aget_put]
    by_cases hx : thr = e.thr
    · rw [if_pos hx]
      simp only [Option.getD_some]
      symm
      unfold rbusy
      rw [List.any_eq_false]
      intro x hxm
      obtain ⟨j, hj, rfl⟩ := List.mem_iff_getElem.1 hxm
      rcases get_set_some (l := M.calls) (i := i) (j := j) hc (List.getElem?_eq_getElem hj) with ⟨_, h2⟩ | ⟨h1, h2⟩
      · rw [h2]; simp
      · intro hh
        simp only [Bool.and_eq_true, beq_iff_eq] at hh
        exact h1 (S.uniq j i _ c h2 hc hh.1 ho (by rw [hh.2, hx, hthr]))
    · rw [if_neg hx]
      have := S.opn thr
      unfold hasK at this
      rw [this]
      have hb : (c.bg.thr == thr) = false := by rw [beq_eq_false_iff_ne, hthr]; exact fun e => hx e.symm
      unfold rbusy
      have : ∀ (l : List Cl) (i : Nat), l[i]? = some c → (l.any fun c => c.opn && (c.bg.thr == thr)) = ((l.set i { c with opn := false }).any fun c => c.opn && (c.bg.thr == thr)) := by
        intro l
        induction l with
        | nil => intro i h; simp at h
        | cons a l ih =>
          intro i h
          cases i with
          | zero => simp at h; subst h; simp [hb]
          | succ i => simp only [List.getElem?_cons_succ] at h; simp only [List.set_cons_succ, List.any_cons, ih i h]
      exact this _ _ hc
  · intro a b ca cb ha hb h1 h2 h3
    rcases get_set_some hc ha with ⟨_, rfl⟩ | ⟨hna, ha2⟩
    · cases h1
    · rcases get_set_some hc hb with ⟨_, rfl⟩ | ⟨hnb, hb2⟩
      · cases h2
      · exact S.uniq _ _ ca cb ha2 hb2 h1 h2 h3
  · intro x hx
    rcases List.mem_or_eq_of_mem_set hx with hx | rfl
    · exact S.wfC x hx
    · exact S.wfC c (List.mem_of_getElem? hc)
  · intro x hx hx2
    rcases List.mem_or_eq_of_mem_set hx with hx | rfl
    · exact S.fresh x hx hx2
    · have : c.done = false := hx2
      rw [hd] at this; cases this
  · intro x hx
    rcases List.mem_or_eq_of_mem_set hx with hx | rfl
    · exact S.kinds x hx
    · exact S.kinds c (List.mem_of_getElem? hc)
end

theorem rlater_no {now : Int} {c : Cl} {t : RT} {e : Ev} (h : e.kind ≠ 2 ∧ e.kind ≠ 4 ∧ e.kind ≠ 5 ∧ e.kind ≠ 14) : (rlater now c t e).2.2 = false := by
  obtain ⟨h1, h2, h3, h4⟩ := h
  unfold rlater
  simp only [beq_iff_eq, h1, h2, h3, h4, if_false]
  split <;> rfl
theorem rfirst_no {m : Rm} {c : Cl} {t : RT} {e : Ev} (h : e.kind ≠ 3 ∧ e.kind ≠ 11 ∧ e.kind ≠ 6 ∧ e.kind ≠ 7 ∧ e.kind ≠ 8 ∧ e.kind ≠ 9 ∧ e.kind ≠ 10 ∧ e.kind ≠ 12 ∧ e.kind ≠ 13) : (rfirst m c t e).2.2.2 = false := by
  obtain ⟨h1, h2, h3, h4, h5, h6, h7, h8, h9⟩ := h
  unfold rfirst rclosing
  simp only [beq_iff_eq, h1, h2, h3, h4, h5, h6, h7, h8, h9, if_false]
  split <;> rfl

theorem rstep_eq (R : Rm) (e : Ev) : rstep R e = if e.kind == 1 then rbegin R e else if decide (e.call < 1) || decide (e.call > (R.calls.length : Int)) then none else match R.calls[(e.call - 1).toNat]? with
  | none => none
  | some c => if !c.opn || c.bg.thr != e.thr || c.bg.what != e.what then none else rtail R.tms (e.call - 1).toNat e (rdoes R c (rtm R.tms e.id) e) := by
  unfold rstep rtail
  rfl

theorem sim_step {M : Ma} {R : Rm} (S : Sim M R) {e : Ev} (he : e.wf) : Same2 (stepM M e) (rstep R e) := by
  obtain ⟨T, rfl⟩ : ∃ T, R = Rof M T := ⟨R.tms, S.rm⟩
  rw [rstep_eq]
  unfold stepM
  by_cases h1 : (e.kind == 1) = true
  · rw [if_pos h1, if_pos h1]; exact same_begin S he
  rw [if_neg h1, if_neg h1]
  refine same_if' Iff.rfl fun hb => ?_
  cases hc : M.calls[(e.call - 1).toNat]? with
  | none => simp only; trivial
  | some c =>
    simp only
    by_cases ho : (!c.opn || c.bg.thr != e.thr || c.bg.what != e.what) = true
    · rw [if_pos ho, if_pos (by revert ho; generalize (!c.opn) = x1; generalize (c.bg.thr != e.thr) = x2; generalize (c.bg.what != e.what) = x3; generalize (ruleOf e.kind).isNone = x4; generalize (some c.done != ruleOf e.kind) = x5; cases x1 <;> cases x2 <;> cases x3 <;> cases x4 <;> cases x5 <;> simp)]
      trivial
    · rw [if_neg ho]
      have ho2 : c.opn = true ∧ c.bg.thr = e.thr ∧ c.bg.what = e.what := by simpa [and_assoc] using ho
      have hcond : ((ruleOf e.kind).isNone || !c.opn || (some c.done != ruleOf e.kind) || c.bg.thr != e.thr || c.bg.what != e.what) = (some c.done != ruleOf e.kind) := by
        rw [ho2.1, ho2.2.1, ho2.2.2]
        cases hr : ruleOf e.kind with
        | none => simp
        | some b => simp
      rw [hcond]
      generalize (e.call - 1).toNat = i at *
      have hk1 : e.kind ≠ 1 := by simpa using h1
      cases hd : c.done
      · -- not done
        by_cases k3 : e.kind = 3
        · have := same_add S he hc k3 hd; unfold ruleM ruleOf; simpa [k3] using this
        by_cases k11 : e.kind = 11
        · have := same_tick S hc k11 hd; unfold ruleM ruleOf; simpa [k11] using this
        by_cases k6 : e.kind = 6
        · have := same_reset S he hc k6 hd; unfold ruleM ruleOf; simpa [k6] using this
        by_cases k7 : e.kind = 7
        · have := same_cancel S he hc k7 hd; unfold ruleM ruleOf; simpa [k7] using this
        by_cases k8 : e.kind = 8
        · have := same_stop S he hc k8 hd; unfold ruleM ruleOf; simpa [k8] using this
        by_cases k9 : e.kind = 9
        · have := same_refuse S hc k9 hd; unfold ruleM ruleOf; simpa [k9] using this
        by_cases k10 : e.kind = 10
        · have := same_close S he hc k10 hd; unfold ruleM ruleOf; simpa [k10] using this
        by_cases k12 : e.kind = 12
        · have := same_leave S he hc k12 hd; unfold ruleM ruleOf; simpa [k12] using this
        by_cases k13 : e.kind = 13
        · have := same_end S he hc k13 hd; unfold ruleM ruleOf; simpa [k13] using this
        rw [if_pos (by unfold ruleOf; simp only [beq_iff_eq, k3, k11, k6, k7, k8, k9, k10, k12, k13, or_self, Bool.or_eq_true, if_false]; split <;> simp)]
        exact none_of S hc (by unfold rdoes; rw [hd]; exact rfirst_no ⟨k3, k11, k6, k7, k8, k9, k10, k12, k13⟩)
      · by_cases k4 : e.kind = 4
        · have := same_arm S he hc k4 hd; unfold ruleM ruleOf; simpa [k4] using this
        by_cases k5 : e.kind = 5
        · have := same_fire S he hc k5 hd; unfold ruleM ruleOf; simpa [k5] using this
        by_cases k14 : e.kind = 14
        · have := same_over S he hc k14 hd; unfold ruleM ruleOf; simpa [k14] using this
        by_cases k2 : e.kind = 2
        · have := same_answer S he hc k2 hd ho2.1 ho2.2.1; unfold ruleM ruleOf; simpa [k2] using this
        rw [if_pos (by unfold ruleOf; simp only [beq_iff_eq, k4, k5, k14, k2, or_self, Bool.or_eq_true, if_false]; split <;> simp)]
        exact none_of S hc (by unfold rdoes; rw [hd, if_pos rfl]; exact rlater_no ⟨k2, k4, k5, k14⟩)

theorem sim_play {M : Ma} {R : Rm} (S : Sim M R) : ∀ (l : List Ev), (∀ e ∈ l, e.wf) → (playM M l).2 = (rplay R l).2 ∧ Sim (playM M l).1 (rplay R l).1 := by
  intro l
  induction l generalizing M R with
  | nil => intro _; exact ⟨rfl, S⟩
  | cons e l ih =>
    intro hw
    have h := sim_step S (hw e (by simp))
    unfold playM rplay
    cases h1 : stepM M e with
    | none =>
      cases h2 : rstep R e with
      | none => exact ⟨rfl, S⟩
      | some R' => rw [h1, h2] at h; exact h.elim
    | some M' =>
      cases h2 : rstep R e with
      | none => rw [h1, h2] at h; exact h.elim
      | some R' =>
        rw [h1, h2] at h
        obtain ⟨a, b⟩ := ih h (fun x hx => hw x (by simp [hx]))
        exact ⟨by simp only [a], b⟩
end Go.Proofs.Ytpnkkdpggofanaa
