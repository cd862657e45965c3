/- order.Ops: what it computes, in plain Lean. -/
import Derived.Test.YtpnkkdpggofanaaOrdM
import Derived.Test.YtpnkkdpggofanaaEvs
namespace Go.Proofs.Ytpnkkdpggofanaa
open Go.Shelf Go.RowKit Go.Lib Go.Sort Go.Proofs

def isDoes (k : Int) : Bool := k == 3 || k == 11 || k == 6 || k == 7 || k == 8 || k == 9 || k == 13
/-- The first loop. -/
def opsA (l : List Ev) : Nat → List OpD
  | 0 => []
  | k + 1 => match l[k]? with
    | some e => if e.kind = 1 ∧ e.call ∉ (opsA l k).map (·.no) then opsA l k ++ [⟨e.call, e.thr, e.what, k, -1, -1⟩] else opsA l k
    | none => opsA l k
def stepB (k : Nat) (e : Ev) (o : OpD) : OpD :=
  if o.no = e.call then (if isDoes e.kind = true ∧ o.did < 0 then { o with did := k } else if e.kind = 2 ∧ o.fin < 0 then { o with fin := k } else o) else o
/-- The second. -/
def opsB (l : List Ev) (o : List OpD) : Nat → List OpD
  | 0 => o
  | k + 1 => match l[k]? with
    | some e => (opsB l o k).map (stepB k e)
    | none => opsB l o k
def opsOf (l : List Ev) : List OpD := opsB l (opsA l l.length) l.length

def idx (o : List OpD) : List (Int × Int) := o.zipIdx.map fun p => (p.1.no, (p.2 : Int))
theorem idx_keys (o : List OpD) : (idx o).map (·.1) = o.map (·.no) := by
  have : ∀ (o : List OpD) (s : Nat), (o.zipIdx s).map (fun p => p.1.no) = o.map (·.no) := by
    intro o
    induction o with
    | nil => intro s; rfl
    | cons x o ih => intro s; simp [List.zipIdx_cons, ih]
  simpa [idx, Function.comp_def] using this o 0
theorem idx_snoc (o : List OpD) (x : OpD) : idx (o ++ [x]) = idx o ++ [(x.no, (o.length : Int))] := by
  simp [idx, List.zipIdx_append]
theorem aput_absent {κ ν : Type} [DecidableEq κ] (m : List (κ × ν)) (k : κ) (v : ν) (h : k ∉ m.map (·.1)) : aput m k v = m ++ [(k, v)] := by
  induction m with
  | nil => rfl
  | cons p m ih =>
    simp only [List.map_cons, List.mem_cons, not_or] at h
    rw [aput, if_neg h.1, ih h.2]
    rfl
theorem idx_get (o : List OpD) (hn : (o.map (·.no)).Nodup) (k : Nat) (x : OpD) (h : o[k]? = some x) : aget (idx o) x.no = some (k : Int) := by
  rw [aget_mem (by rw [idx_keys]; exact hn)]
  simp only [idx, List.mem_map]
  exact ⟨(x, k), List.mk_mem_zipIdx_iff_getElem?.2 h, rfl⟩
theorem idx_none (o : List OpD) (c : Int) : aget (idx o) c = none ↔ c ∉ o.map (·.no) := by
  rw [aget_none, idx_keys]
theorem opsA_nodup (l : List Ev) (k : Nat) : ((opsA l k).map (·.no)).Nodup := by
  induction k with
  | zero => simp [opsA]
  | succ k ih =>
    rw [opsA]
    cases l[k]? with
    | none => exact ih
    | some e =>
      simp only
      by_cases h : e.kind = 1 ∧ e.call ∉ (opsA l k).map (·.no)
      · rw [if_pos h, List.map_append, List.map_cons, List.map_nil]
        exact List.nodup_append.2 ⟨ih, by simp, by intro a ha b hb; simp at hb; subst hb; intro he; subst he; exact h.2 ha⟩
      · rw [if_neg h]; exact ih
theorem opsA_len (l : List Ev) (k : Nat) : (opsA l k).length ≤ k := by
  induction k with
  | zero => simp [opsA]
  | succ k ih =>
    rw [opsA]
    cases l[k]? with
    | none => simp only; omega
    | some e =>
      simp only
      split
      · simp; exact ih
      · omega
theorem stepB_no (k : Nat) (e : Ev) (o : OpD) : (stepB k e o).no = o.no := by
  unfold stepB
  repeat' split
  all_goals rfl
theorem opsB_nos (l : List Ev) (o : List OpD) (k : Nat) : (opsB l o k).map (·.no) = o.map (·.no) := by
  induction k with
  | zero => rfl
  | succ k ih =>
    rw [opsB]
    cases l[k]? with
    | none => exact ih
    | some e => simp only [List.map_map, Function.comp_def, stepB_no]; exact ih
theorem idx_of_nos {o o' : List OpD} (h : o.map (·.no) = o'.map (·.no)) : idx o = idx o' := by
  have : ∀ (o : List OpD) (s : Nat), (o.zipIdx s).map (fun p => (p.1.no, (p.2 : Int))) = ((o.map (·.no)).zipIdx s).map (fun p => (p.1, (p.2 : Int))) := by
    intro o
    induction o with
    | nil => intro s; rfl
    | cons x o ih => intro s; simp [List.zipIdx_cons, ih]
  rw [idx, idx, this, this, h]
theorem opsB_idx (l : List Ev) (o : List OpD) (k : Nat) : idx (opsB l o k) = idx o := idx_of_nos (opsB_nos l o k)
theorem opsB_len (l : List Ev) (o : List OpD) (k : Nat) : (opsB l o k).length = o.length := by
  have := congrArg List.length (opsB_nos l o k)
  simpa using this
/-- A step that meets the call at place j. -/
theorem stepB_at (k : Nat) (e : Ev) (o : List OpD) (hn : (o.map (·.no)).Nodup) (j : Nat) (x : OpD) (hj : o[j]? = some x) (hx : x.no = e.call) : o.map (stepB k e) = o.set j (stepB k e x) := by
  apply List.ext_getElem?
  intro i
  rw [List.getElem?_map, List.getElem?_set]
  by_cases hij : j = i
  · subst hij
    have : j < o.length := (List.getElem?_eq_some_iff.1 hj).1
    obtain ⟨_, hj'⟩ := List.getElem?_eq_some_iff.1 hj
    simp [hj', this]
  · rw [if_neg hij]
    cases hi : o[i]? with
    | none => rfl
    | some y =>
      simp only [Option.map_some]
      have : y.no ≠ e.call := by
        intro hy
        have h1 : (o.map (·.no))[i]? = some e.call := by simp [hi, hy]
        have h2 : (o.map (·.no))[j]? = some e.call := by simp [hj, hx]
        exact hij ((List.getElem?_inj (List.getElem?_eq_some_iff.1 h2).1 hn).1 (h2.trans h1.symm))
      unfold stepB
      rw [if_neg this]
theorem stepB_absent (k : Nat) (e : Ev) (o : List OpD) (h : e.call ∉ o.map (·.no)) : o.map (stepB k e) = o := by
  conv => rhs; rw [← List.map_id o]
  apply List.map_congr_left
  intro y hy
  have : y.no ≠ e.call := fun he => h (he ▸ List.mem_map_of_mem hy)
  unfold stepB
  rw [if_neg this]
  rfl
theorem flatMap_set (o : List OpD) (j : Nat) (y : OpD) (hj : j < o.length) (c : Nat) (hc : c < 6) (u : Value) (x : OpD) (hx : o[j]? = some x) (hy : opC y = (opC x).set c u) : (o.set j y).flatMap opC = (o.flatMap opC).set (j * 6 + c) u := by
  induction o generalizing j with
  | nil => simp at hj
  | cons z o ih =>
    cases j with
    | zero =>
      simp at hx
      subst hx
      rw [List.set_cons_zero, List.flatMap_cons, List.flatMap_cons, hy, Nat.zero_mul, Nat.zero_add]
      rw [List.set_append_left _ _ (by rw [opC_len]; exact hc)]
    | succ j =>
      rw [List.set_cons_succ, List.flatMap_cons, List.flatMap_cons, ih j (by simpa using hj) (by simpa using hx), List.set_append_right _ _ (by rw [opC_len]; omega)]
      congr 2
      rw [opC_len]; omega
end Go.Proofs.Ytpnkkdpggofanaa
