/- Maps as lists of pairs: what a look-up, a store, a delete and len do. Over whatever program. -/
import Derived.Test.YtpnkkdpggofanaaGen
import Derived.RangeFuncBox
import Derived.Maps.OwnOps
namespace Go.Proofs.Ytpnkkdpggofanaa
open Go.RowKit

def aget {κ ν : Type} [DecidableEq κ] (m : List (κ × ν)) (k : κ) : Option ν := match m with
  | [] => none
  | p :: m => if k = p.1 then some p.2 else aget m k
def aput {κ ν : Type} [DecidableEq κ] (m : List (κ × ν)) (k : κ) (v : ν) : List (κ × ν) := match m with
  | [] => [(k, v)]
  | p :: m => if k = p.1 then (k, v) :: m else p :: aput m k v
def adel {κ ν : Type} [DecidableEq κ] (m : List (κ × ν)) (k : κ) : List (κ × ν) := match m with
  | [] => []
  | p :: m => if k = p.1 then m else p :: adel m k

section
variable {κ ν : Type} [DecidableEq κ]
theorem aget_put (m : List (κ × ν)) (k k' : κ) (v : ν) : aget (aput m k v) k' = if k' = k then some v else aget m k' := by
  induction m with
  | nil => simp [aput, aget]
  | cons p m ih =>
    simp only [aput]
    by_cases h : k = p.1
    · rw [if_pos h]; subst h; simp only [aget]; by_cases h2 : k' = p.1 <;> simp [h2]
    · rw [if_neg h]; simp only [aget, ih]
      by_cases h2 : k' = p.1
      · rw [if_pos h2, if_neg (by rw [h2]; exact fun e => h e.symm), if_pos h2]
      · rw [if_neg h2, if_neg h2]
theorem aget_none {m : List (κ × ν)} {k : κ} : aget m k = none ↔ k ∉ m.map (·.1) := by
  induction m with
  | nil => simp [aget]
  | cons p m ih =>
    simp only [aget, List.map_cons, List.mem_cons, not_or]
    by_cases h : k = p.1
    · simp [h]
    · simp [h, ih]
theorem aget_mem {m : List (κ × ν)} (hn : (m.map (·.1)).Nodup) {k : κ} {v : ν} : aget m k = some v ↔ (k, v) ∈ m := by
  induction m with
  | nil => simp [aget]
  | cons p m ih =>
    obtain ⟨pk, pv⟩ := p
    simp only [List.map_cons, List.nodup_cons] at hn
    simp only [aget, List.mem_cons, Prod.mk.injEq]
    by_cases h : k = pk
    · subst h
      rw [if_pos rfl]
      constructor
      · rintro ⟨rfl⟩; exact .inl ⟨rfl, rfl⟩
      · rintro (⟨_, rfl⟩ | h)
        · rfl
        · exact absurd (List.mem_map_of_mem (f := (·.1)) h) hn.1
    · rw [if_neg h, ih hn.2]
      simp [h]
theorem aput_keys (m : List (κ × ν)) (k : κ) (v : ν) : (aput m k v).map (·.1) = if k ∈ m.map (·.1) then m.map (·.1) else m.map (·.1) ++ [k] := by
  induction m with
  | nil => simp [aput]
  | cons p m ih =>
    simp only [aput]
    by_cases h : k = p.1
    · simp [h]
    · simp only [h, if_false, List.map_cons, ih, List.mem_cons, false_or]
      split <;> simp
theorem aput_nodup {m : List (κ × ν)} (hn : (m.map (·.1)).Nodup) (k : κ) (v : ν) : ((aput m k v).map (·.1)).Nodup := by
  rw [aput_keys]
  split
  · exact hn
  · rename_i h
    rw [List.nodup_append]
    exact ⟨hn, by simp, by intro a ha b hb; simp at hb; subst hb; exact fun e => h (e ▸ ha)⟩
theorem adel_sub (m : List (κ × ν)) (k : κ) : ((adel m k).map (·.1)).Sublist (m.map (·.1)) := by
  induction m with
  | nil => simp [adel]
  | cons p m ih =>
    simp only [adel]
    by_cases h : k = p.1
    · rw [if_pos h]; simp
    · rw [if_neg h, List.map_cons, List.map_cons]; exact ih.cons_cons _
theorem adel_nodup {m : List (κ × ν)} (hn : (m.map (·.1)).Nodup) (k : κ) : ((adel m k).map (·.1)).Nodup := hn.sublist (adel_sub m k)
theorem aget_del {m : List (κ × ν)} (hn : (m.map (·.1)).Nodup) (k k' : κ) : aget (adel m k) k' = if k' = k then none else aget m k' := by
  induction m with
  | nil => simp [adel, aget]
  | cons p m ih =>
    simp only [List.map_cons, List.nodup_cons] at hn
    simp only [adel]
    by_cases h : k = p.1
    · subst h
      rw [if_pos rfl]
      by_cases h2 : k' = p.1
      · rw [if_pos h2, h2]; exact aget_none.2 hn.1
      · rw [if_neg h2]; simp [aget, h2]
    · rw [if_neg h]
      simp only [aget, ih hn.2]
      by_cases h2 : k' = p.1
      · rw [if_pos h2, if_pos h2, if_neg (by rw [h2]; exact fun e => h e.symm)]
      · rw [if_neg h2, if_neg h2]
end

/-- The place and the element of a key, among entries whose keys are ks. -/
def findIx {κ : Type} [DecidableEq κ] (k : κ) : List κ → List MapEntry → Nat → Option (Nat × Value)
  | k' :: ks, e :: es, i => if k = k' then some (i, e.val) else findIx k ks es (i + 1)
  | _, _, _ => none

/-- What the model asks of a key's type. -/
structure KeyLaw (P : Program) (K : TypeId) {κ : Type} [DecidableEq κ] (enc : κ → Value) : Prop where
  check : ∀ (em : Bool) (k : κ) (w : World), (Instr.checkKey em 10000 K (enc k)).run P w = .ok () w
  find : ∀ (k : κ) (es : List MapEntry) (ks : List κ), es.map (·.key) = ks.map enc → ∀ w, (Instr.findKey K (enc k) es).run P w = .ok (findIx k ks es 0) w
  bits : ∀ k, Instr.sameBits 10000 (enc k) (enc k) = true

theorem findNow_ints (q : IntKind) (d : TypeDesc) (hd : ∃ q', d = .int q') (k : Int) : ∀ (es : List MapEntry) (ks : List Int), es.map (·.key) = ks.map (Value.int q) → ∀ i, Instr.findNow d (.int q k) es i = some (findIx k ks es i)
  | [], ks, h, i => by
    have : ks = [] := by simpa using h.symm
    subst this; rfl
  | e :: es, ks, h, i => by
    cases ks with
    | nil => simp at h
    | cons k' ks =>
      simp only [List.map_cons, List.cons.injEq] at h
      obtain ⟨q', rfl⟩ := hd
      simp only [Instr.findNow, h.1, Instr.sameNow, if_true, findIx]
      by_cases hk : k = k'
      · simp [hk]
      · have : (k == k') = false := by simp [hk]
        simp only [this, hk, if_false]
        exact findNow_ints q _ ⟨q', rfl⟩ k es ks h.2 (i + 1)

theorem keyLaw_int {P : Program} {K : TypeId} {q : IntKind} (hK : P.underlying K = some (.int q)) : KeyLaw P K (Value.int q) where
  check em k w := by
    unfold Instr.checkKey
    simp [run_underlying hK]
  find k es ks h w := by
    unfold Instr.findKey
    simp [run_underlying hK, findNow_ints q (.int q) ⟨q, rfl⟩ k es ks h 0]
  bits k := by simp [Instr.sameBits]

/-- Block b is a map whose entries are m. -/
def MapIs {κ ν : Type} (enc : κ → Value) (encV : ν → Value) (w : World) (b : Nat) (m : List (κ × ν)) : Prop :=
  ∃ es clock, w.heap[b]? = some (.map es clock) ∧ es.toList.map (fun e => (e.key, e.val)) = m.map (fun p => (enc p.1, encV p.2)) ∧ (m.map (·.1)).Nodup ∧ (es.toList.map (·.born)).Nodup ∧ ∀ e ∈ es.toList, e.born < clock

section
variable {κ ν : Type} {enc : κ → Value} {encV : ν → Value} {P : Program} {K : TypeId}

theorem findIx_get [DecidableEq κ] (k : κ) : ∀ (es : List MapEntry) (m : List (κ × ν)) (i : Nat), es.map (fun e => (e.key, e.val)) = m.map (fun p => (enc p.1, encV p.2)) →
    (findIx k (m.map (·.1)) es i).map (·.2) = (aget m k).map encV
  | [], [], i, _ => rfl
  | [], p :: m, i, h => by simp at h
  | e :: es, [], i, h => by simp at h
  | e :: es, p :: m, i, h => by
    simp only [List.map_cons, List.cons.injEq, Prod.mk.injEq] at h
    simp only [List.map_cons, findIx, aget]
    by_cases hk : k = p.1
    · simp [hk, h.1.2]
    · simp only [hk, if_false]; exact findIx_get k es m (i + 1) h.2

theorem MapIs.lt {w : World} {b : Nat} {m : List (κ × ν)} (h : MapIs enc encV w b m) : b < w.heap.size := by
  obtain ⟨es, c, hb, _⟩ := h
  exact (Array.getElem?_eq_some_iff.1 hb).1
theorem MapIs.kept {w w' : World} {b : Nat} {m : List (κ × ν)} (h : MapIs enc encV w b m) (hb : w'.heap[b]? = w.heap[b]?) : MapIs enc encV w' b m := by
  obtain ⟨es, c, hbb, r⟩ := h
  exact ⟨es, c, hb.trans hbb, r⟩
theorem MapIs.nodup {w : World} {b : Nat} {m : List (κ × ν)} (h : MapIs enc encV w b m) : (m.map (·.1)).Nodup := h.choose_spec.choose_spec.2.2.1
theorem MapIs.made (w : World) : MapIs enc encV (w.alloc (.map #[] 0)) w.heap.size ([] : List (κ × ν)) :=
  ⟨#[], 0, heap_alloc_new w _, rfl, by simp, by simp, by simp⟩

theorem keys_of_pairs {es : List MapEntry} {m : List (κ × ν)} (h : es.map (fun e => (e.key, e.val)) = m.map (fun p => (enc p.1, encV p.2))) : es.map (·.key) = (m.map (·.1)).map enc := by
  have := congrArg (List.map Prod.fst) h
  simpa [List.map_map, Function.comp_def] using this

/-- 'm[k]' and 'v, ok := m[k]'. -/
theorem MapIs.run_lookup [DecidableEq κ] {w : World} {b : Nat} {m : List (κ × ν)} (h : MapIs enc encV w b m) (law : KeyLaw P K enc) {T E : TypeId} (hT : P.underlying T = some (.map K E)) {z : Value} (hz : ∀ w, (zeroValue E).run P w = .ok z w) (k : κ) (c : Bool) :
    (Instr.lookup T (.map (some b)) (enc k) c).run P w = .ok (if c then .tuple #[((aget m k).map encV).getD z, .bool (aget m k).isSome] else ((aget m k).map encV).getD z) w := by
  obtain ⟨es, cl, hb, he, _⟩ := h
  have hf := law.find k es.toList (m.map (·.1)) (keys_of_pairs he) w
  have hg := findIx_get (encV := encV) k es.toList m 0 he
  unfold Instr.lookup
  simp only [Sem.run_bind, run_underlying hT, Result.andThen_ok]
  simp only [getObj, Sem.run, hb, Sem.run_bind, Sem.run_pure, Result.andThen_ok, law.check, hf]
  cases hx : findIx k (m.map (·.1)) es.toList 0 with
  | none =>
    rw [hx] at hg
    have : aget m k = none := by simpa using hg.symm
    simp [this, hz]
  | some r =>
    rw [hx] at hg
    cases hy : aget m k with
    | none => rw [hy] at hg; simp at hg
    | some v => rw [hy] at hg; simp at hg; simp [hg]

theorem findIx_place [DecidableEq κ] (k : κ) (v : ν) : ∀ (es : List MapEntry) (m : List (κ × ν)) (j i : Nat) (u : Value), es.map (fun e => (e.key, e.val)) = m.map (fun p => (enc p.1, encV p.2)) → findIx k (m.map (·.1)) es j = some (i, u) →
    ∃ i', i = j + i' ∧ (es[i']?).map (·.key) = some (enc k) ∧ (es.modify i' fun e => { e with key := enc k, val := encV v }).map (fun e => (e.key, e.val)) = (aput m k v).map (fun p => (enc p.1, encV p.2)) ∧
      (es.eraseIdx i').map (fun e => (e.key, e.val)) = (adel m k).map (fun p => (enc p.1, encV p.2))
  | [], [], j, i, u, _, h => by simp [findIx] at h
  | [], p :: m, j, i, u, h, _ => by simp at h
  | e :: es, [], j, i, u, h, _ => by simp at h
  | e :: es, p :: m, j, i, u, h, hf => by
    simp only [List.map_cons, List.cons.injEq, Prod.mk.injEq] at h
    simp only [List.map_cons, findIx] at hf
    by_cases hk : k = p.1
    · rw [if_pos hk] at hf
      simp only [Option.some.injEq, Prod.mk.injEq] at hf
      refine ⟨0, by omega, by simp [h.1.1, hk], ?_, ?_⟩
      · simp only [aput, if_pos hk, List.modify_zero_cons, List.map_cons, h.2]
      · simp [adel, if_pos hk, h.2]
    · rw [if_neg hk] at hf
      obtain ⟨i', h1, h2, h3, h4⟩ := findIx_place k v es m (j + 1) i u h.2 hf
      refine ⟨i' + 1, by omega, by simpa using h2, ?_, ?_⟩
      · simp only [aput, if_neg hk, List.modify_succ_cons, List.map_cons, h3, h.1.1, h.1.2]
      · simp only [adel, if_neg hk, List.eraseIdx_cons_succ, List.map_cons, h4, h.1.1, h.1.2]

theorem findIx_none [DecidableEq κ] (k : κ) (v : ν) : ∀ (es : List MapEntry) (m : List (κ × ν)) (j : Nat), es.map (fun e => (e.key, e.val)) = m.map (fun p => (enc p.1, encV p.2)) → findIx k (m.map (·.1)) es j = none → aput m k v = m ++ [(k, v)] ∧ adel m k = m
  | [], [], j, _, _ => ⟨rfl, rfl⟩
  | [], p :: m, j, h, _ => by simp at h
  | e :: es, [], j, h, _ => by simp at h
  | e :: es, p :: m, j, h, hf => by
    simp only [List.map_cons, List.cons.injEq] at h
    simp only [List.map_cons, findIx] at hf
    by_cases hk : k = p.1
    · rw [if_pos hk] at hf; simp at hf
    · rw [if_neg hk] at hf
      have ih := findIx_none k v es m (j + 1) h.2 hf
      simp [aput, adel, hk, ih]

theorem grownBy_put (w : World) (b : Nat) (o : Obj) : w.grownBy (w.putObj b o) (some b) := grownBy_putObj' w b o

/-- 'm[k] = v'. -/
theorem MapIs.run_update [DecidableEq κ] {w : World} {b : Nat} {m : List (κ × ν)} (h : MapIs enc encV w b m) (law : KeyLaw P K enc) {T E : TypeId} (hT : P.underlying T = some (.map K E)) (k : κ) (v : ν) :
    ∃ w', (Instr.mapUpdate T (.map (some b)) (enc k) (encV v)).run P w = .ok () w' ∧ MapIs enc encV w' b (aput m k v) ∧ w.grownBy w' (some b) ∧ w'.heap.size = w.heap.size := by
  have hlt := h.lt
  obtain ⟨es, cl, hb, he, hn, hs, hc⟩ := h
  have hf := law.find k es.toList (m.map (·.1)) (keys_of_pairs he) w
  unfold Instr.mapUpdate
  simp only [Sem.run_bind, run_underlying hT, Result.andThen_ok]
  simp only [getObj, Sem.run, hb, Sem.run_bind, Result.andThen_ok, law.check, hf]
  have put : ∀ o, (setObj b o).run P w = .ok () (w.putObj b o) := by
    intro o; simp [setObj, Sem.run, hb, World.putObj]
  have same : ∀ o, (w.putObj b o).heap[b]? = some o := fun o => World.putObj_heap_same hlt
  cases hx : findIx k (m.map (·.1)) es.toList 0 with
  | none =>
    obtain ⟨h1, _⟩ := findIx_none k v es.toList m 0 he hx
    refine ⟨_, put _, ⟨_, _, same _, ?_, aput_nodup hn k v, ?_, ?_⟩, grownBy_put w b _, by simp [World.putObj]⟩
    · rw [h1]; simp [he]
    · simp only [Array.toList_push, List.map_append, List.map_cons, List.map_nil]
      rw [List.nodup_append]
      refine ⟨hs, by simp, ?_⟩
      intro x hx y hy
      simp at hy; subst hy
      obtain ⟨e, he', rfl⟩ := List.mem_map.1 hx
      have := hc e he'; omega
    · intro e hm
      simp only [Array.toList_push, List.mem_append, List.mem_singleton] at hm
      rcases hm with hm | rfl
      · have := hc e hm; omega
      · simp
  | some r =>
    obtain ⟨i, u⟩ := r
    obtain ⟨i', h1, h2, h3, _⟩ := findIx_place k v es.toList m 0 i u he hx
    obtain rfl : i = i' := by omega
    have hkey : ((es[i]?).map (·.key)).getD (enc k) = enc k := by
      rw [Array.getElem?_toList] at h2; rw [h2]; rfl
    simp only [hkey, Instr.keyThatStays, law.bits, if_true]
    refine ⟨_, put _, ⟨_, _, same _, ?_, aput_nodup hn k v, ?_, ?_⟩, grownBy_put w b _, by simp [World.putObj]⟩
    · rw [Array.toList_modify]; exact h3
    · rw [Array.toList_modify]
      have : (es.toList.modify i fun e => { e with key := enc k, val := encV v }).map (·.born) = es.toList.map (·.born) := by
        apply List.ext_getElem?
        intro j
        simp only [List.getElem?_map, List.getElem?_modify]
        split <;> cases es.toList[j]? <;> rfl
      rw [this]; exact hs
    · intro e hm
      rw [Array.toList_modify] at hm
      have : e.born ∈ (es.toList.modify i fun e => { e with key := enc k, val := encV v }).map (·.born) := List.mem_map_of_mem hm
      have e2 : (es.toList.modify i fun e => { e with key := enc k, val := encV v }).map (·.born) = es.toList.map (·.born) := by
        apply List.ext_getElem?
        intro j
        simp only [List.getElem?_map, List.getElem?_modify]
        split <;> cases es.toList[j]? <;> rfl
      rw [e2] at this
      obtain ⟨e', h', hb'⟩ := List.mem_map.1 this
      rw [← hb']; exact hc e' h'
end

section
variable {P : Program} (w : World) {ops : Array Oper} {rest : List Oper} {o : Oper} {a : Act} {Q : Exit → Act → World → Prop}
theorem wpList_update {κ ν : Type} [DecidableEq κ] {enc : κ → Value} {encV : ν → Value} {K : TypeId} (hgd : o.guard = none) (T : TypeId) (mo ko vo : Operand) (ho : o.op = .mapUpdate T mo ko vo)
    (law : KeyLaw P K enc) {E : TypeId} (hT : P.underlying T = some (.map K E)) (b : Nat) (m : List (κ × ν)) (hm : MapIs enc encV w b m) (hmo : a.eval mo = .map (some b)) (k : κ) (hk : a.eval ko = enc k) (v : ν) (hv : a.eval vo = encV v)
    (h : ∀ w', MapIs enc encV w' b (aput m k v) → w.grownBy w' (some b) → w'.heap.size = w.heap.size → wpList P ops Q rest (a.put o.dst undef) w') : wpList P ops Q (o :: rest) a w := by
  refine wpList_plain hgd fun K' hK' => ?_
  obtain ⟨w', hr, h1, h2, h3⟩ := hm.run_update law hT k v
  unfold Oper.wp
  simp [execOp, ho, hmo, hk, hv, hr, Result.andThen]
  exact hK' _ _ (h w' h1 h2 h3)
end

section
variable {κ ν : Type} {enc : κ → Value} {encV : ν → Value} {P : Program} {K : TypeId}
/-- 'delete(m, k)'. -/
theorem MapIs.run_delete [DecidableEq κ] {w : World} {b : Nat} {m : List (κ × ν)} (h : MapIs enc encV w b m) (law : KeyLaw P K enc) {T E : TypeId} (hT : P.underlying T = some (.map K E)) (k : κ) (v : ν) (ty : TypeId) (K' : TypeId) :
    ∃ w', (Builtin.delete_ #[T, K'] ty #[.map (some b), enc k]).run P w = .ok (.tuple #[]) w' ∧ MapIs enc encV w' b (adel m k) ∧ w.grownBy w' (some b) ∧ w'.heap.size = w.heap.size := by
  have hlt := h.lt
  obtain ⟨es, cl, hb, he, hn, hs, hc⟩ := h
  have hf := law.find k es.toList (m.map (·.1)) (keys_of_pairs he) w
  have put : ∀ o, (setObj b o).run P w = .ok () (w.putObj b o) := by
    intro o; simp [setObj, Sem.run, hb, World.putObj]
  have same : ∀ o, (w.putObj b o).heap[b]? = some o := fun o => World.putObj_heap_same hlt
  have hget : (getObj b).run P w = .ok (.map es cl) w := by simp only [getObj, Sem.run, hb]
  cases hx : findIx k (m.map (·.1)) es.toList 0 with
  | none =>
    obtain ⟨_, h1⟩ := findIx_none k v es.toList m 0 he hx
    rw [hx] at hf
    refine ⟨_, ?_, ⟨es, cl, same _, ?_, ?_, hs, hc⟩, grownBy_put w b _, by simp [World.putObj]⟩
    · simp [Builtin.delete_, run_underlying hT, hget, law.check, hf, put, Result.andThen]
    · rw [h1]; exact he
    · rw [h1]; exact hn
  | some r =>
    obtain ⟨i, u⟩ := r
    obtain ⟨i', h1, h2, _, h4⟩ := findIx_place k v es.toList m 0 i u he hx
    obtain rfl : i = i' := by omega
    rw [hx] at hf
    have hjs : i < es.size := by
      rcases Nat.lt_or_ge i es.size with h | h
      · exact h
      · rw [List.getElem?_eq_none (by simpa using h)] at h2; simp at h2
    have hsub : (es.eraseIdxIfInBounds i).toList = es.toList.eraseIdx i := by
      unfold Array.eraseIdxIfInBounds
      rw [dif_pos hjs]
      simp
    refine ⟨_, ?_, ⟨es.eraseIdxIfInBounds i, cl, same _, ?_, adel_nodup hn k, ?_, ?_⟩, grownBy_put w b _, by simp [World.putObj]⟩
    · simp [Builtin.delete_, run_underlying hT, hget, law.check, hf, put, Result.andThen]
    · rw [hsub]; exact h4
    · rw [hsub]; exact hs.sublist ((List.eraseIdx_sublist _ _).map _)
    · intro e hm
      rw [hsub] at hm
      exact hc e ((List.eraseIdx_sublist _ _).subset hm)
/-- 'len(m)' reads this. -/
theorem MapIs.obj {w : World} {b : Nat} {m : List (κ × ν)} (h : MapIs enc encV w b m) : ∃ es cl, w.heap[b]? = some (.map es cl) ∧ es.size = m.length := by
  obtain ⟨es, cl, hb, he, _⟩ := h
  refine ⟨es, cl, hb, ?_⟩
  have := congrArg List.length he
  simpa using this
end
section
variable {P : Program} (w : World) {ops : Array Oper} {rest : List Oper} {o : Oper} {a : Act} {Q : Exit → Act → World → Prop}
theorem wpList_delete {κ ν : Type} [DecidableEq κ] {enc : κ → Value} {encV : ν → Value} {K : TypeId} (hgd : o.guard = none) (T K' : TypeId) (mo ko : Operand) (ho : o.op = Op.call { callee := Callee.builtin Builtin.delete, args := #[mo, ko], argTypes := #[T, K'] })
    (law : KeyLaw P K enc) {E : TypeId} (hT : P.underlying T = some (.map K E)) (b : Nat) (m : List (κ × ν)) (v : ν) (hm : MapIs enc encV w b m) (hmo : a.eval mo = .map (some b)) (k : κ) (hk : a.eval ko = enc k)
    (h : ∀ w', MapIs enc encV w' b (adel m k) → w.grownBy w' (some b) → w'.heap.size = w.heap.size → wpList P ops Q rest (a.put o.dst (.tuple #[])) w') : wpList P ops Q (o :: rest) a w := by
  refine wpList_plain hgd fun K0 hK' => ?_
  obtain ⟨w', hr, h1, h2, h3⟩ := hm.run_delete law hT k v o.type K'
  unfold Oper.wp
  simp [execOp, ho, resolve, invoke, builtin, hmo, hk, hr, Result.andThen]
  exact hK' _ _ (h w' h1 h2 h3)
end
end Go.Proofs.Ytpnkkdpggofanaa
