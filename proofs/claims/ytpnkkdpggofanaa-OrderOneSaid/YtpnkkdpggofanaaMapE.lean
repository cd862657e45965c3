/- 'm[k]++' in a map that is a list of pairs: the entry is laid, then stored. Over whatever program. -/
import Derived.Test.YtpnkkdpggofanaaMap
import Derived.WideKeyEntry
namespace Go.Proofs.Ytpnkkdpggofanaa
open Go.RowKit

section
variable {κ ν : Type} {enc : κ → Value} {encV : ν → Value} {P : Program} {K : TypeId}
theorem findIx_some [DecidableEq κ] (k : κ) : ∀ (es : List MapEntry) (m : List (κ × ν)) (j i : Nat) (u : Value), es.map (fun e => (e.key, e.val)) = m.map (fun p => (enc p.1, encV p.2)) → findIx k (m.map (·.1)) es j = some (i, u) →
    ∃ i' e, i = j + i' ∧ es[i']? = some e ∧ e.key = enc k ∧ e.val = u
  | [], [], j, i, u, _, h => by simp [findIx] at h
  | [], p :: m, j, i, u, h, _ => by simp at h
  | e :: es, [], j, i, u, h, _ => by simp at h
  | e :: es, p :: m, j, i, u, h, hf => by
    simp only [List.map_cons, List.cons.injEq, Prod.mk.injEq] at h
    simp only [List.map_cons, findIx] at hf
    by_cases hk : k = p.1
    · rw [if_pos hk] at hf
      simp only [Option.some.injEq, Prod.mk.injEq] at hf
      exact ⟨0, e, by omega, rfl, by rw [hk]; exact h.1.1, hf.2⟩
    · rw [if_neg hk] at hf
      obtain ⟨i', e', h1, h2, h3, h4⟩ := findIx_some k es m (j + 1) i u h.2 hf
      exact ⟨i' + 1, e', by omega, by simpa using h2, h3, h4⟩

theorem MapIs.run_entry [DecidableEq κ] {w : World} {b : Nat} {m : List (κ × ν)} (h : MapIs enc encV w b m) (law : KeyLaw P K enc) {T E : TypeId} (hT : P.underlying T = some (.map K E)) {z : ν} (hz : ∀ w, (zeroValue E).run P w = .ok (encV z) w) (k : κ) :
    ∃ st w1 m1, (Instr.mapEntry T (.map (some b)) (enc k)).run P w = .ok (.tuple #[encV ((aget m k).getD z), goInt st]) w1 ∧ MapIs enc encV w1 b m1 ∧ aget m1 k = some ((aget m k).getD z) ∧ w.grownBy w1 (some b) ∧ w1.heap.size = w.heap.size ∧
      ∀ (v : ν) (w2 : World), w2.heap[b]? = w1.heap[b]? → ∃ w3, (Instr.entryStore T (.map (some b)) (goInt st) (encV v)).run P w2 = .ok () w3 ∧ MapIs enc encV w3 b (aput m k v) ∧ w2.grownBy w3 (some b) ∧ w3.heap.size = w2.heap.size := by
  have hlt := h.lt
  obtain ⟨es, cl, hb, he, hn, hs, hc⟩ := h
  have hf := law.find k es.toList (m.map (·.1)) (keys_of_pairs he) w
  have hg := findIx_get (encV := encV) k es.toList m 0 he
  have put : ∀ (W : World) o es' cl', W.heap[b]? = some (.map es' cl') → (setObj b o).run P W = .ok () (W.putObj b o) := by
    intro W o es' cl' h; simp [setObj, Sem.run, h, World.putObj]
  have same : ∀ (W : World) o o', W.heap[b]? = some o' → (W.putObj b o).heap[b]? = some o := fun W o o' h => World.putObj_heap_same (Array.getElem?_eq_some_iff.1 h).1
  have get : ∀ (W : World) es cl, W.heap[b]? = some (.map es cl) → (getObj b).run P W = .ok (.map es cl) W := fun W es cl h => by simp only [getObj, Sem.run, h]
  cases hx : findIx k (m.map (·.1)) es.toList 0 with
  | none =>
    rw [hx] at hf hg
    have hnone : aget m k = none := by simpa using hg.symm
    have happ : ∀ v, aput m k v = m ++ [(k, v)] := fun v => (findIx_none k v es.toList m 0 he hx).1
    have hmk : ∀ (v : ν) (W : World), W.heap[b]? = some (.map (es.push ⟨enc k, encV v, cl⟩) (cl + 1)) → MapIs enc encV W b (aput m k v) := by
      intro v W hW
      refine ⟨_, _, hW, ?_, aput_nodup hn k v, ?_, ?_⟩
      · rw [happ]; simp [he]
      · simp only [Array.toList_push, List.map_append, List.map_cons, List.map_nil]
        rw [List.nodup_append]
        refine ⟨hs, by simp, ?_⟩
        intro x hx y hy
        simp at hy; subst hy
        obtain ⟨e, he', rfl⟩ := List.mem_map.1 hx
        have := hc e he'; omega
      · intro e hm
        simp only [Array.toList_push, List.mem_append, List.mem_singleton] at hm
        rcases hm with hm | rfl
        · have := hc e hm; omega
        · simp
    refine ⟨cl, w.putObj b (.map (es.push ⟨enc k, encV z, cl⟩) (cl + 1)), aput m k z, ?_, hmk z _ (same w _ _ hb), ?_, grownBy_put w b _, by simp [World.putObj], fun v w2 hw2 => ?_⟩
    · simp [Instr.mapEntry, run_underlying hT, get w _ _ hb, law.check, hf, hz, put w _ _ _ hb, Result.andThen, hnone]
    · rw [aget_put, if_pos rfl, hnone]; rfl
    · have hw2' : w2.heap[b]? = some (.map (es.push ⟨enc k, encV z, cl⟩) (cl + 1)) := hw2.trans (same w _ _ hb)
      have hidx : (es.push ⟨enc k, encV z, cl⟩).findIdx? (fun e => ((e.born : Nat) : Int) == ((cl : Nat) : Int)) = some es.size := by
        rw [WideElems.findIdx_arr]
        exact WideElems.findIdx_born (l := (es.push ⟨enc k, encV z, cl⟩).toList) (j := es.size) (e0 := ⟨enc k, encV z, cl⟩) (by
          simp only [Array.toList_push, List.map_append, List.map_cons, List.map_nil]
          refine List.nodup_append.2 ⟨hs, by simp, fun a ha c hc' e1 => ?_⟩
          simp only [List.mem_singleton] at hc'
          obtain ⟨x, hx, rfl⟩ := List.mem_map.1 ha
          have := hc x hx
          omega) (by simp)
      have hmod : (es.push ⟨enc k, encV z, cl⟩).modify es.size (fun e => { e with val := encV v }) = es.push ⟨enc k, encV v, cl⟩ := by
        apply Array.ext'
        rw [Array.toList_modify, Array.toList_push, Array.toList_push, ← Array.length_toList, WideElems.modify_last]
      refine ⟨w2.putObj b (.map (es.push ⟨enc k, encV v, cl⟩) (cl + 1)), ?_, hmk v _ (same w2 _ _ hw2'), grownBy_put w2 b _, by simp [World.putObj]⟩
      simp [Instr.entryStore, get w2 _ _ hw2', asInt, asIntOf, goInt, hidx, hmod, put w2 _ _ _ hw2', Result.andThen]
  | some r =>
    obtain ⟨i, u⟩ := r
    rw [hx] at hf hg
    obtain ⟨i', e0, h1, h2, h3, h4⟩ := findIx_some k es.toList m 0 i u he hx
    obtain rfl : i = i' := by omega
    have hj : es[i]? = some e0 := by simpa using h2
    cases ha : aget m k with
    | none => rw [ha] at hg; simp at hg
    | some v0 =>
    rw [ha] at hg
    have hv0 : u = encV v0 := by simpa using hg
    have hsame : es.modify i (fun e => { e with key := enc k }) = es := by
      apply Array.ext'
      rw [Array.toList_modify, ChangeMaps.modify_eq_set _ _ _ _ h2]
      have : ({ e0 with key := enc k } : MapEntry) = e0 := by rw [← h3]
      rw [this]
      exact WideElems.set_self _ _ _ h2
    refine ⟨e0.born, w.putObj b (.map es cl), m, ?_, ⟨es, cl, same w _ _ hb, he, hn, hs, hc⟩, ha, grownBy_put w b _, by simp [World.putObj], fun v w2 hw2 => ?_⟩
    · simp [Instr.mapEntry, run_underlying hT, get w _ _ hb, law.check, hf, hj, h3, Instr.keyThatStays, law.bits, hsame, put w _ _ _ hb, Result.andThen, hv0]
    · have hw2' : w2.heap[b]? = some (.map es cl) := hw2.trans (same w _ _ hb)
      have hidx : es.findIdx? (fun e => ((e.born : Nat) : Int) == ((e0.born : Nat) : Int)) = some i := by
        rw [WideElems.findIdx_arr]
        exact WideElems.findIdx_born hs h2
      have hmod : es.modify i (fun e => { e with val := encV v }) = es.modify i (fun e' => { e' with key := enc k, val := encV v }) := by
        apply Array.ext'
        rw [Array.toList_modify, Array.toList_modify, ChangeMaps.modify_eq_set _ _ _ _ h2, ChangeMaps.modify_eq_set _ _ _ _ h2, ← h3]
      have hborn : (es.toList.modify i fun e => { e with key := enc k, val := encV v }).map (·.born) = es.toList.map (·.born) := by
        apply List.ext_getElem?
        intro j
        simp only [List.getElem?_map, List.getElem?_modify]
        split <;> cases es.toList[j]? <;> rfl
      obtain ⟨i2, q1, _, q3, _⟩ := findIx_place k v es.toList m 0 i u he hx
      obtain rfl : i = i2 := by omega
      refine ⟨w2.putObj b (.map (es.modify i (fun e => { e with key := enc k, val := encV v })) cl), ?_, ⟨_, _, same w2 _ _ hw2', ?_, aput_nodup hn k v, ?_, ?_⟩, grownBy_put w2 b _, by simp [World.putObj]⟩
      · simp [Instr.entryStore, get w2 _ _ hw2', asInt, asIntOf, goInt, hidx, hmod, put w2 _ _ _ hw2', Result.andThen]
      · rw [Array.toList_modify]; exact q3
      · rw [Array.toList_modify, hborn]; exact hs
      · intro e hm
        rw [Array.toList_modify] at hm
        have := List.mem_map_of_mem (f := (·.born)) hm
        rw [hborn] at this
        obtain ⟨e', h', hb'⟩ := List.mem_map.1 this
        rw [← hb']; exact hc e' h'
end
end Go.Proofs.Ytpnkkdpggofanaa
