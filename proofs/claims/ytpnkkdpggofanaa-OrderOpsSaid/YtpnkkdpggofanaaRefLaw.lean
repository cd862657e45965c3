/- order.Ops against the document's: plain Lean. -/
import Derived.Test.YtpnkkdpggofanaaRefA
namespace Go.Proofs.Ytpnkkdpggofanaa
open Go.Shelf Go.RowKit Go.Lib Go.Sort Go.Proofs

/-- The first k events' calls, by definition. -/
def refA (l : List Ev) : Nat → List OpD
  | 0 => []
  | k + 1 => match l[k]? with
    | some e => if e.kind = 1 ∧ firstE l e.call 1 = (k : Int) then refA l k ++ [⟨e.call, e.thr, e.what, k, firstE l e.call 3, firstE l e.call 2⟩] else refA l k
    | none => refA l k
def refOps (l : List Ev) : List OpD := refA l l.length

theorem hit1 (c : Int) (e : Ev) : hitE c 1 e = (e.call == c && e.kind == 1) := by simp [hitE]
theorem hit2 (c : Int) (e : Ev) : hitE c 2 e = (e.call == c && e.kind == 2) := by simp [hitE]
theorem hit3 (c : Int) (e : Ev) : hitE c 3 e = (e.call == c && isDoes e.kind) := by
  unfold hitE
  by_cases h : e.kind = 3
  · rw [h]; simp [isDoes]
  · have h2 : (e.kind == 3) = false := by simp [h]
    simp [h2]

theorem opsA_mem (l : List Ev) (k : Nat) (hk : k ≤ l.length) (c : Int) : c ∈ (opsA l k).map (·.no) ↔ ∃ j, ∃ h : j < l.length, j < k ∧ hitE c 1 l[j] = true := by
  induction k with
  | zero => simp [opsA]
  | succ k ih =>
    have hlt : k < l.length := hk
    have ih := ih (by omega)
    rw [opsA, List.getElem?_eq_getElem hlt]
    simp only
    have hx : hitE c 1 l[k] = true ↔ l[k].call = c ∧ l[k].kind = 1 := by rw [hit1]; simp
    have split : (∃ j, ∃ h : j < l.length, j < k + 1 ∧ hitE c 1 l[j] = true) ↔ (∃ j, ∃ h : j < l.length, j < k ∧ hitE c 1 l[j] = true) ∨ (l[k].call = c ∧ l[k].kind = 1) := by
      constructor
      · rintro ⟨j, h, hj, hh⟩
        by_cases e : j = k
        · subst e; exact .inr (hx.1 hh)
        · exact .inl ⟨j, h, by omega, hh⟩
      · rintro (⟨j, h, hj, hh⟩ | h)
        · exact ⟨j, h, by omega, hh⟩
        · exact ⟨k, hlt, by omega, hx.2 h⟩
    rw [split, ← ih]
    by_cases h : l[k].kind = 1 ∧ l[k].call ∉ (opsA l k).map (·.no)
    · rw [if_pos h, List.map_append, List.mem_append]
      simp only [List.map_cons, List.map_nil, List.mem_singleton]
      constructor
      · rintro (h1 | h1)
        · exact .inl h1
        · exact .inr ⟨h1.symm, h.1⟩
      · rintro (h1 | h1)
        · exact .inl h1
        · exact .inr h1.1.symm
    · rw [if_neg h]
      constructor
      · exact .inl
      · rintro (h1 | ⟨h1, h2⟩)
        · exact h1
        · subst h1
          by_cases h3 : l[k].call ∈ (opsA l k).map (·.no)
          · exact h3
          · exact absurd ⟨h2, h3⟩ h

theorem firstE_iff (l : List Ev) (c s : Int) (k : Nat) (hk : k < l.length) : firstE l c s = (k : Int) ↔ hitE c s l[k] = true ∧ ¬ ∃ j, ∃ h : j < l.length, j < k ∧ hitE c s l[j] = true := by
  unfold firstE
  cases hf : l.findIdx? (hitE c s) with
  | none =>
    simp only
    rw [List.findIdx?_eq_none_iff] at hf
    constructor
    · intro h; omega
    · rintro ⟨h, _⟩
      rw [hf _ (List.getElem_mem hk)] at h
      cases h
  | some i =>
    simp only
    obtain ⟨hi, h1, h2⟩ := List.findIdx?_eq_some_iff_getElem.1 hf
    constructor
    · intro h
      have : i = k := by omega
      subst this
      refine ⟨h1, ?_⟩
      rintro ⟨j, hj, hjk, hh⟩
      exact h2 j hjk hh
    · rintro ⟨h3, h4⟩
      rcases Nat.lt_trichotomy i k with h | h | h
      · exact absurd ⟨i, hi, h, h1⟩ h4
      · omega
      · exact absurd h3 (h2 k h)
theorem firstE_lt (l : List Ev) (c s : Int) : firstE l c s = -1 ∨ ∃ k : Nat, ∃ h : k < l.length, firstE l c s = k := by
  unfold firstE
  cases hf : l.findIdx? (hitE c s) with
  | none => exact .inl rfl
  | some i =>
    obtain ⟨hi, _⟩ := List.findIdx?_eq_some_iff_getElem.1 hf
    exact .inr ⟨i, hi, rfl⟩

/-- The place of the first event of that sort among the first k, or -1. -/
def firstTo (l : List Ev) (c s : Int) (k : Nat) : Int := if firstE l c s < k then firstE l c s else -1
theorem firstTo_zero (l : List Ev) (c s : Int) : firstTo l c s 0 = -1 := by
  unfold firstTo
  rcases firstE_lt l c s with h | ⟨k, _, h⟩
  · rw [h]; rfl
  · rw [h, if_neg (by omega)]
theorem firstTo_all (l : List Ev) (c s : Int) : firstTo l c s l.length = firstE l c s := by
  unfold firstTo
  rcases firstE_lt l c s with h | ⟨k, hk, h⟩
  · rw [h]; split <;> rfl
  · rw [h, if_pos (by omega)]
theorem firstTo_succ (l : List Ev) (c s : Int) (k : Nat) (hk : k < l.length) : firstTo l c s (k + 1) = if hitE c s l[k] = true ∧ firstTo l c s k < 0 then (k : Int) else firstTo l c s k := by
  have hi := firstE_iff l c s k hk
  have hz : (∃ j, ∃ h : j < l.length, j < k ∧ hitE c s l[j] = true) ↔ 0 ≤ firstTo l c s k := by
    unfold firstTo
    constructor
    · rintro ⟨j, hj, hjk, hh⟩
      rcases firstE_lt l c s with h | ⟨i, hi2, h⟩
      · exfalso
        have : ∀ x ∈ l, hitE c s x = false := by
          unfold firstE at h
          cases hf : l.findIdx? (hitE c s) with
          | none => exact fun x hx => by rw [List.findIdx?_eq_none_iff] at hf; exact hf x hx
          | some i => rw [hf] at h; simp only at h; omega
        rw [this _ (List.getElem_mem hj)] at hh
        cases hh
      · have h3 := (firstE_iff l c s i hi2).1 h
        have : i ≤ j := by
          rcases Nat.lt_or_ge j i with h4 | h4
          · exact absurd ⟨j, hj, h4, hh⟩ h3.2
          · exact h4
        rw [h, if_pos (by omega)]
        omega
    · intro h
      rcases firstE_lt l c s with h1 | ⟨i, hi2, h1⟩
      · rw [h1] at h; split at h <;> omega
      · rw [h1] at h
        by_cases h4 : (i : Int) < (k : Int)
        · exact ⟨i, hi2, by omega, ((firstE_iff l c s i hi2).1 h1).1⟩
        · rw [if_neg h4] at h; omega
  by_cases hh : hitE c s l[k] = true ∧ firstTo l c s k < 0
  · rw [if_pos hh]
    have : firstE l c s = (k : Int) := hi.2 ⟨hh.1, fun h => by have := hz.1 h; omega⟩
    unfold firstTo
    rw [this, if_pos (by omega)]
  · rw [if_neg hh]
    have hne : firstE l c s ≠ (k : Int) := fun h => by
      have h5 := hi.1 h
      refine hh ⟨h5.1, ?_⟩
      have h6 : ¬ 0 ≤ firstTo l c s k := fun h => h5.2 (hz.2 h)
      omega
    unfold firstTo
    by_cases h7 : firstE l c s < (k : Int)
    · rw [if_pos h7, if_pos (by omega)]
    · rw [if_neg h7, if_neg (by omega)]

def fieldsTo (l : List Ev) (k : Nat) (o : OpD) : OpD := { o with did := firstTo l o.no 3 k, fin := firstTo l o.no 2 k }
theorem does_ne2 {k : Int} (h : isDoes k = true) : k ≠ 2 := by rintro rfl; simp [isDoes] at h
theorem stepB_fields (l : List Ev) (k : Nat) (hk : k < l.length) (o : OpD) : stepB k l[k] (fieldsTo l k o) = fieldsTo l (k + 1) o := by
  unfold fieldsTo
  rw [firstTo_succ l o.no 3 k hk, firstTo_succ l o.no 2 k hk, hit3, hit2]
  unfold stepB
  simp only
  generalize firstTo l o.no 3 k = a
  generalize firstTo l o.no 2 k = b
  by_cases h1 : o.no = l[k].call
  · rw [if_pos h1]
    have hb : (l[k].call == o.no) = true := by simp [h1]
    rw [hb]
    simp only [Bool.true_and]
    by_cases h2 : isDoes l[k].kind = true
    · have h3 := does_ne2 h2
      have h3b : (l[k].kind == 2) = false := by simp [h3]
      rw [h2, h3b]
      by_cases h4 : a < 0
      · simp [h4]
      · simp [h4, h3]
    · have h2b : isDoes l[k].kind = false := by simpa using h2
      rw [h2b]
      by_cases h5 : l[k].kind = 2
      · by_cases h6 : b < 0
        · simp [h5, h6]
        · simp [h5, h6]
      · simp [h5]
  · rw [if_neg h1]
    have hb : (l[k].call == o.no) = false := by simp; exact fun h => h1 h.symm
    rw [hb]
    simp
theorem opsA_fresh (l : List Ev) (k : Nat) : ∀ o ∈ opsA l k, o.did = -1 ∧ o.fin = -1 := by
  induction k with
  | zero => simp [opsA]
  | succ k ih =>
    rw [opsA]
    cases l[k]? with
    | none => exact ih
    | some e =>
      simp only
      split
      · intro o ho
        rcases List.mem_append.1 ho with h | h
        · exact ih o h
        · simp only [List.mem_singleton] at h; subst h; exact ⟨rfl, rfl⟩
      · exact ih
theorem opsB_fields (l : List Ev) (A : List OpD) (hA : ∀ o ∈ A, o.did = -1 ∧ o.fin = -1) (k : Nat) (hk : k ≤ l.length) : opsB l A k = A.map (fieldsTo l k) := by
  induction k with
  | zero =>
    rw [opsB]
    conv => lhs; rw [← List.map_id A]
    apply List.map_congr_left
    intro o ho
    obtain ⟨h1, h2⟩ := hA o ho
    unfold fieldsTo
    rw [firstTo_zero, firstTo_zero]
    obtain ⟨a, b, c, d, e, f⟩ := o
    simp only at h1 h2
    subst h1; subst h2
    rfl
  | succ k ih =>
    have hlt : k < l.length := hk
    rw [opsB, List.getElem?_eq_getElem hlt]
    simp only
    rw [ih (by omega), List.map_map]
    apply List.map_congr_left
    intro o _
    exact stepB_fields l k hlt o
theorem refA_eq (l : List Ev) (k : Nat) (hk : k ≤ l.length) : refA l k = (opsA l k).map (fieldsTo l l.length) := by
  induction k with
  | zero => rfl
  | succ k ih =>
    have hlt : k < l.length := hk
    rw [refA, opsA, List.getElem?_eq_getElem hlt]
    simp only
    have hx : (l[k].kind = 1 ∧ firstE l l[k].call 1 = (k : Int)) ↔ (l[k].kind = 1 ∧ l[k].call ∉ (opsA l k).map (·.no)) := by
      constructor
      · rintro ⟨h1, h2⟩
        exact ⟨h1, fun h => ((firstE_iff l _ 1 k hlt).1 h2).2 ((opsA_mem l k (by omega) _).1 h)⟩
      · rintro ⟨h1, h2⟩
        exact ⟨h1, (firstE_iff l _ 1 k hlt).2 ⟨by rw [hit1]; simp [h1], fun h => h2 ((opsA_mem l k (by omega) _).2 h)⟩⟩
    by_cases h : l[k].kind = 1 ∧ l[k].call ∉ (opsA l k).map (·.no)
    · rw [if_pos (hx.2 h), if_pos h, ih (by omega), List.map_append]
      simp [fieldsTo, firstTo_all]
    · rw [if_neg (fun h' => h (hx.1 h')), if_neg h, ih (by omega)]
/-- order.Ops gives the document's ops. -/
theorem opsOf_ref (l : List Ev) : opsOf l = refOps l := by
  unfold opsOf refOps
  rw [opsB_fields l _ (opsA_fresh l _) _ (Nat.le_refl _), refA_eq l _ (Nat.le_refl _)]
end Go.Proofs.Ytpnkkdpggofanaa
