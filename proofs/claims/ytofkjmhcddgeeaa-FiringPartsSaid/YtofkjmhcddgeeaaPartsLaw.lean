/- Firings by their timers: how many, and how many faults. No program in sight. -/
import Derived.Test.YtofkjmhcddgeeaaIds
import Derived.Test.YtofkjmhcddgeeaaFaults
namespace Go.Proofs.Ytofkjmhcddgeeaa
open Go.RowKit

def ownOf (l : List Fir) (x : Int) : List Fir := l.filter fun f => f.id == x
def fcnt (l : List Fir) : Nat := (faultsTo l l.length).length
def badF (l : List Fir) (f : Fir) : Bool := decide (f.tk < f.dl) || l.any fun g => decide ((g.id, g.gen) = (f.id, f.gen))
theorem badAt_app (l : List Fir) (f : Fir) (i : Nat) (h : i < l.length) : badAt (l ++ [f]) i = badAt l i := by
  unfold badAt
  rw [List.getElem?_append_left h, List.take_append_of_le_length (by omega)]
theorem fcnt_snoc (l : List Fir) (f : Fir) : fcnt (l ++ [f]) = fcnt l + if badF l f then 1 else 0 := by
  have hb : badAt (l ++ [f]) l.length = badF l f := by
    unfold badAt badF
    rw [List.getElem?_append_right (Nat.le_refl _)]
    simp
  have he : faultsTo (l ++ [f]) l.length = faultsTo l l.length := by
    unfold faultsTo
    congr 1
    apply List.filter_congr
    intro i hi
    exact badAt_app l f i (by simpa using hi)
  unfold fcnt
  rw [List.length_append, List.length_singleton, faultsTo_succ, he, hb, List.length_append]
  congr 1
  cases badF l f <;> rfl
theorem ownOf_snoc (l : List Fir) (f : Fir) (x : Int) : ownOf (l ++ [f]) x = if f.id = x then ownOf l x ++ [f] else ownOf l x := by
  unfold ownOf
  rw [List.filter_append]
  by_cases h : f.id = x <;> simp [h]
theorem badF_own (l : List Fir) (f : Fir) : badF (ownOf l f.id) f = badF l f := by
  unfold badF ownOf
  congr 1
  rw [List.any_filter]
  congr 1
  funext g
  by_cases h : g.id = f.id <;> simp [h]

def sumOf (g : Int → Nat) (s : List Int) : Nat := (s.map g).sum
theorem sumOf_add (g h : Int → Nat) (s : List Int) : sumOf (fun x => g x + h x) s = sumOf g s + sumOf h s := by
  unfold sumOf
  induction s with
  | nil => rfl
  | cons x s ih => simp only [List.map_cons, List.sum_cons, ih]; omega
theorem sumOf_one (c : Nat) (y : Int) : ∀ (s : List Int), s.Nodup → y ∈ s → sumOf (fun x => if y = x then c else 0) s = c
  | [], _, h => by simp at h
  | x :: s, hn, h => by
    simp only [sumOf, List.map_cons, List.sum_cons]
    rw [List.nodup_cons] at hn
    by_cases hx : y = x
    · subst hx
      have : ∀ t : List Int, y ∉ t → (t.map fun x => if y = x then c else 0).sum = 0 := by
        intro t
        induction t with
        | nil => intro _; rfl
        | cons z t ih =>
          intro hz
          simp only [List.mem_cons, not_or] at hz
          simp only [List.map_cons, List.sum_cons, if_neg hz.1, ih hz.2]
      simp [this s hn.1]
    · rw [if_neg hx, Nat.zero_add]
      exact sumOf_one c y s hn.2 (by simpa [hx] using h)
theorem sumOf_congr {g h : Int → Nat} {s : List Int} (e : ∀ x ∈ s, g x = h x) : sumOf g s = sumOf h s := by
  unfold sumOf; rw [List.map_congr_left e]
/-- Over any numbers that hold all timers', each once. -/
theorem parts_law (s : List Int) (hs : s.Nodup) (l : List Fir) : (∀ f ∈ l, f.id ∈ s) → sumOf (fun x => (ownOf l x).length) s = l.length ∧ sumOf (fun x => fcnt (ownOf l x)) s = fcnt l := by
  refine take_ind (fun l => (∀ f ∈ l, f.id ∈ s) → sumOf (fun x => (ownOf l x).length) s = l.length ∧ sumOf (fun x => fcnt (ownOf l x)) s = fcnt l) ?_ ?_ l
  · intro _
    have z : ∀ t : List Int, sumOf (fun _ => 0) t = 0 := by
      intro t
      unfold sumOf
      induction t with
      | nil => rfl
      | cons x t ih => simpa using ih
    exact ⟨z s, z s⟩
  · intro l f ih h
    obtain ⟨i1, i2⟩ := ih (fun g hg => h g (by simp [hg]))
    have hf := h f (by simp)
    constructor
    · rw [List.length_append, List.length_singleton, ← i1, ← sumOf_one 1 f.id s hs hf, ← sumOf_add]
      apply sumOf_congr
      intro x _
      rw [ownOf_snoc]
      split <;> simp
    · rw [fcnt_snoc, ← i2, ← sumOf_one (if badF l f then 1 else 0) f.id s hs hf, ← sumOf_add]
      apply sumOf_congr
      intro x _
      rw [ownOf_snoc]
      by_cases hx : f.id = x
      · subst hx; rw [if_pos rfl, if_pos rfl, fcnt_snoc, badF_own]
      · rw [if_neg hx, if_neg hx, Nat.add_zero]
theorem sumOf_snoc (g : Int → Nat) (s : List Int) (x : Int) : sumOf g (s ++ [x]) = sumOf g s + g x := by simp [sumOf]
theorem sumOf_take_le (g : Int → Nat) (s : List Int) (k : Nat) : sumOf g (s.take k) ≤ sumOf g s := by
  have : sumOf g s = sumOf g (s.take k) + sumOf g (s.drop k) := by
    unfold sumOf; rw [← List.sum_append, ← List.map_append, List.take_append_drop]
  omega
theorem fcnt_le (l : List Fir) : fcnt l ≤ l.length := faultsTo_len l _
theorem parts_ids (l : List Fir) : sumOf (fun x => (ownOf l x).length) (idsOf l) = l.length ∧ sumOf (fun x => fcnt (ownOf l x)) (idsOf l) = fcnt l :=
  parts_law (idsOf l) ((idsOf_lt l).imp (fun h => by omega)) l (fun f hf => (idsOf_mem l f.id).2 ⟨f, hf, rfl⟩)

/-- A store into a row of the call's own. -/
theorem owns_set {w : World} {base : Nat} {e : TypeId} {size g n cap : Nat} {xs : List Value} (h : w.ownsRow base e size (.slice (some ⟨g, 0, none⟩) n cap) n xs) (i : Nat) (u : Value) :
    (w.setCell ⟨g, i, none⟩ u).ownsRow base e size (.slice (some ⟨g, 0, none⟩) n cap) n (xs.set i u) := by
  refine ⟨by rw [List.length_set]; exact h.1, ?_⟩
  rcases h.2 with ⟨h0, _⟩ | ⟨g', cap', cur, hv, hb, hg, h1, h2, h3, h4⟩
  · cases h0
  · cases hv
    refine .inr ⟨g, cap, cur.setIfInBounds i u, rfl, hb, ?_, h1, h2, by simp [h3], ?_⟩
    · have hlt := (Array.getElem?_eq_some_iff.1 hg).1
      simp [World.setCell, Array.getElem?_modify, hg]
    · rw [Array.toList_setIfInBounds, List.take_set, h4]
theorem flatMap_set (l : List Fir) (j : Nat) (h : j < l.length) (u : Int) : (l.flatMap firC).set (j * 4) (.int .u64 u) = (l.set j { l[j] with id := u }).flatMap firC := by
  induction l generalizing j with
  | nil => simp at h
  | cons f l ih =>
    cases j with
    | zero => simp [firC]
    | succ j =>
      simp only [List.flatMap_cons, List.set_cons_succ, List.getElem_cons_succ]
      have hl : (firC f).length = 4 := rfl
      rw [List.set_append, if_neg (by omega), show (j + 1) * 4 - (firC f).length = j * 4 by omega, ih j (by simpa using h)]
end Go.Proofs.Ytofkjmhcddgeeaa
