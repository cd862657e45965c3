/- OrderLine's plain law: what order.Line gives has just the calls that did, each once, in the order in which they did. -/
import Derived.Test.YtpnkkdpggofanaaSerD
namespace Go.Proofs.Ytpnkkdpggofanaa
open Go.Shelf Go.RowKit Go.Lib Go.Sort Go.Proofs

theorem stabL_perm (l : List OpD) : (stabL l).Perm l := by
  have h := stab_spec swo_did l.toArray
  have h1 := h.1.2.2
  have hs : (stab (ltOf cmpD) l.toArray).size = l.toArray.size := h.1.1
  rw [show (stab (ltOf cmpD) l.toArray).extract 0 l.toArray.size = stab (ltOf cmpD) l.toArray by rw [← hs]; simp, show l.toArray.extract 0 l.toArray.size = l.toArray by simp] at h1
  simpa [stabL] using h1
theorem stabL_sorted (l : List OpD) : (stabL l).Pairwise (fun x y => x.did ≤ y.did) := by
  have h := (stab_spec swo_did l.toArray).2
  have hs : (stab (ltOf cmpD) l.toArray).size = l.length := by simpa using (stab_spec swo_did l.toArray).1.1
  rw [List.pairwise_iff_getElem]
  intro i j hi hj hij
  have hi' : i < (stab (ltOf cmpD) l.toArray).size := by simpa [stabL] using hi
  have hj' : j < (stab (ltOf cmpD) l.toArray).size := by simpa [stabL] using hj
  have := h i j (Nat.zero_le _) hij (by simp; omega)
  rw [ltOf_cmpD, getElem!_pos _ j hj', getElem!_pos _ i hi'] at this
  simp only [decide_eq_false_iff_not] at this
  simp only [stabL, Array.getElem_toList]
  omega

/-- Where an op did is an event of its own. -/
def Own0 (l : List Ev) (o : OpD) : Prop := 0 ≤ o.did → ∃ d : Nat, o.did = d ∧ ∃ e, l[d]? = some e ∧ e.call = o.no
theorem opsA_own (l : List Ev) (k : Nat) : ∀ o ∈ opsA l k, Own0 l o := by
  induction k with
  | zero => simp [opsA]
  | succ k ih =>
    rw [opsA]
    cases hk : l[k]? with
    | none => exact ih
    | some e =>
      simp only
      split
      · intro o ho
        rcases List.mem_append.1 ho with h | h
        · exact ih o h
        · simp only [List.mem_singleton] at h
          subst h
          intro h0
          simp only at h0
          omega
      · exact ih
theorem opsB_own (l : List Ev) (A : List OpD) (hA : ∀ o ∈ A, Own0 l o) (k : Nat) : ∀ o ∈ opsB l A k, Own0 l o := by
  induction k with
  | zero => exact hA
  | succ k ih =>
    rw [opsB]
    cases hk : l[k]? with
    | none => exact ih
    | some e =>
      intro o ho
      simp only at ho
      obtain ⟨x, hx, rfl⟩ := List.mem_map.1 ho
      have hxo := ih x hx
      unfold stepB
      by_cases h1 : x.no = e.call
      · rw [if_pos h1]
        split
        · intro _
          exact ⟨k, rfl, e, hk, h1.symm⟩
        · split
          · exact hxo
          · exact hxo
      · rw [if_neg h1]
        exact hxo
theorem opsOf_own (l : List Ev) : ∀ o ∈ opsOf l, Own0 l o := opsB_own l _ (opsA_own l _) _

theorem no_inj {os : List OpD} (hn : (os.map (·.no)).Nodup) {x y : OpD} (hx : x ∈ os) (hy : y ∈ os) (h : x.no = y.no) : x = y := by
  obtain ⟨i, hi, rfl⟩ := List.mem_iff_getElem.1 hx
  obtain ⟨j, hj, rfl⟩ := List.mem_iff_getElem.1 hy
  have h1 : (os.map (·.no))[i]? = some os[i].no := by simp [hi]
  have h2 : (os.map (·.no))[j]? = some os[i].no := by rw [h]; simp [hj]
  have := (List.getElem?_inj (by simpa using hi) hn).1 (h1.trans h2.symm)
  subst this
  rfl
theorem did_inj (l : List Ev) {x y : OpD} (hx : x ∈ opsOf l) (hy : y ∈ opsOf l) (h0 : 0 ≤ x.did) (h : x.did = y.did) : x = y := by
  obtain ⟨d, hd, e, he, hc⟩ := opsOf_own l x hx h0
  obtain ⟨d', hd', e', he', hc'⟩ := opsOf_own l y hy (h ▸ h0)
  have : d = d' := by omega
  subst this
  rw [he] at he'
  cases he'
  exact no_inj (opsOf_nodup l) hx hy (hc.symm.trans hc')

theorem doneOf_mem (l : List Ev) (o : OpD) : o ∈ doneOf l ↔ o ∈ opsOf l ∧ 0 ≤ o.did := by
  unfold doneOf
  rw [List.mem_filter, (stabL_perm _).mem_iff]
  simp
theorem doneOf_nodup (l : List Ev) : ((doneOf l).map (·.no)).Nodup := by
  have h1 : ((stabL (opsOf l)).map (·.no)).Nodup := (((stabL_perm (opsOf l)).map (·.no)).nodup_iff).2 (opsOf_nodup l)
  exact h1.sublist (List.filter_sublist.map _)
theorem doneOf_len (l : List Ev) : (doneOf l).length = (opsOf l).countP (fun o => decide (0 ≤ o.did)) := by
  unfold doneOf
  rw [← List.countP_eq_length_filter, (stabL_perm _).countP_eq]
/-- Among those that did, the place in the line tells who did first. -/
theorem doneOf_order (l : List Ev) (i j : Nat) (hi : i < (doneOf l).length) (hj : j < (doneOf l).length) : i < j ↔ (doneOf l)[i].did < (doneOf l)[j].did := by
  have hs : (doneOf l).Pairwise (fun x y => x.did ≤ y.did) := (stabL_sorted (opsOf l)).sublist List.filter_sublist
  have key : ∀ a b (ha : a < (doneOf l).length) (hb : b < (doneOf l).length), a < b → (doneOf l)[a].did < (doneOf l)[b].did := by
    intro a b ha hb hab
    have h1 := List.pairwise_iff_getElem.1 hs a b ha hb hab
    rcases Int.lt_or_eq_of_le h1 with h | h
    · exact h
    · exfalso
      have ma := (doneOf_mem l _).1 (List.getElem_mem ha)
      have mb := (doneOf_mem l _).1 (List.getElem_mem hb)
      have e := did_inj l ma.1 mb.1 ma.2 h
      have h2 : ((doneOf l).map (·.no))[a]? = some (doneOf l)[a].no := by simp [ha]
      have h3 : ((doneOf l).map (·.no))[b]? = some (doneOf l)[a].no := by rw [e]; simp [hb]
      have := (List.getElem?_inj (by simpa using ha) (doneOf_nodup l)).1 (h2.trans h3.symm)
      omega
  refine ⟨key i j hi hj, fun h => ?_⟩
  rcases Nat.lt_trichotomy i j with h1 | h1 | h1
  · exact h1
  · subst h1; omega
  · have := key j i hj hi h1; omega
end Go.Proofs.Ytpnkkdpggofanaa
