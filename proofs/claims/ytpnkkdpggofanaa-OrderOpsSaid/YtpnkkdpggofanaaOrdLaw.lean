/- What an op is; counting. Plain Lean. order.Respects: what it says. Plain Lean. -/
import Derived.Test.YtpnkkdpggofanaaLineLaw
import Derived.Test.YtpnkkdpggofanaaRefLaw
import Derived.Test.YtpnkkdpggofanaaResp24
namespace Go.Proofs.Ytpnkkdpggofanaa
open Go.Shelf Go.RowKit Go.Lib Go.Sort Go.Proofs

/-- What an op is. -/
theorem refA_mem (l : List Ev) (k : Nat) : ∀ o ∈ refA l k, ∃ i, ∃ h : i < l.length, l[i].kind = 1 ∧ firstE l l[i].call 1 = (i : Int) ∧ o = ⟨l[i].call, l[i].thr, l[i].what, i, firstE l l[i].call 3, firstE l l[i].call 2⟩ := by
  induction k with
  | zero => simp [refA]
  | succ k ih =>
    rw [refA]
    cases hk : l[k]? with
    | none => exact ih
    | some e =>
      obtain ⟨hlt, he⟩ := List.getElem?_eq_some_iff.1 hk
      simp only
      split
      · rename_i hif
        intro o ho
        rcases List.mem_append.1 ho with h | h
        · exact ih o h
        · simp only [List.mem_singleton] at h
          exact ⟨k, hlt, by rw [he]; exact hif.1, by rw [he]; exact hif.2, by rw [he]; exact h⟩
      · exact ih
theorem opsOf_mem (l : List Ev) : ∀ o ∈ opsOf l, ∃ i, ∃ h : i < l.length, l[i].kind = 1 ∧ firstE l l[i].call 1 = (i : Int) ∧ o = ⟨l[i].call, l[i].thr, l[i].what, i, firstE l l[i].call 3, firstE l l[i].call 2⟩ := by
  rw [opsOf_ref]; exact refA_mem l l.length
theorem opsOf_nodup' (l : List Ev) : (opsOf l).Nodup := by
  have := opsOf_nodup l
  unfold List.Nodup at *
  rw [List.pairwise_map] at this
  exact this.imp fun h e => h (by rw [e])

theorem countP_one {α : Type} (p : α → Bool) (os : List α) (hn : os.Nodup) (h : ∀ x ∈ os, ∀ y ∈ os, p x = true → p y = true → x = y) : os.countP p = if os.any p then 1 else 0 := by
  induction os with
  | nil => simp
  | cons o os ih =>
    rw [List.nodup_cons] at hn
    rw [List.countP_cons, List.any_cons, ih hn.2 (fun x hx y hy => h x (List.mem_cons_of_mem _ hx) y (List.mem_cons_of_mem _ hy))]
    cases hp : p o with
    | false => simp
    | true =>
      have : os.any p = false := by
        rw [List.any_eq_false]
        intro y hy hpy
        exact hn.1 (by rw [h o (by simp) y (List.mem_cons_of_mem _ hy) hp hpy]; exact hy)
      simp [this]
theorem beg_inj (l : List Ev) {x y : OpD} (hx : x ∈ opsOf l) (hy : y ∈ opsOf l) (h : x.beg = y.beg) : x = y := by
  obtain ⟨i, hi, _, _, rfl⟩ := opsOf_mem l x hx
  obtain ⟨j, hj, _, _, rfl⟩ := opsOf_mem l y hy
  simp only at h
  have : i = j := by omega
  subst this; rfl
theorem fin_at (l : List Ev) {x : OpD} (hx : x ∈ opsOf l) (h0 : 0 ≤ x.fin) : ∃ k, ∃ h : k < l.length, x.fin = (k : Int) ∧ l[k].call = x.no ∧ l[k].kind = 2 := by
  obtain ⟨i, hi, _, _, rfl⟩ := opsOf_mem l x hx
  simp only at h0 ⊢
  rcases firstE_lt l l[i].call 2 with h | ⟨k, hk, h⟩
  · omega
  · have := ((firstE_iff l _ 2 k hk).1 h).1
    rw [hit2] at this
    simp at this
    exact ⟨k, hk, h, this.1, this.2⟩
theorem fin_inj (l : List Ev) {x y : OpD} (hx : x ∈ opsOf l) (hy : y ∈ opsOf l) (h0 : 0 ≤ x.fin) (h : x.fin = y.fin) : x = y := by
  obtain ⟨i, hi, h1, h2, _⟩ := fin_at l hx h0
  obtain ⟨j, hj, h3, h4, _⟩ := fin_at l hy (h ▸ h0)
  have : i = j := by omega
  subst this
  exact no_inj (opsOf_nodup l) hx hy (h2.symm.trans h4)
theorem countP_split {α : Type} (p q r : α → Bool) (os : List α) (h : ∀ x ∈ os, p x = (q x || r x)) (hd : ∀ x ∈ os, ¬ (q x = true ∧ r x = true)) : os.countP p = os.countP q + os.countP r := by
  induction os with
  | nil => simp
  | cons o os ih =>
    rw [List.countP_cons, List.countP_cons, List.countP_cons, ih (fun x hx => h x (List.mem_cons_of_mem _ hx)) (fun x hx => hd x (List.mem_cons_of_mem _ hx))]
    have h1 := h o (by simp)
    have h2 := hd o (by simp)
    cases hq : q o <;> cases hr : r o <;> simp [hq, hr] at h1 h2 <;> simp [h1] <;> omega
end Go.Proofs.Ytpnkkdpggofanaa

namespace Go.Proofs.Ytpnkkdpggofanaa
open Go.Shelf Go.RowKit Go.Lib Go.Sort Go.Proofs

theorem rsp_max (ds : List OpD) (x : Int) (hx : 0 ≤ x) : x < (rsp ds).1 ↔ ∃ a ∈ ds, x < a.beg := by
  have gen : ∀ (ds : List OpD) (s : Int × Bool), x < (ds.foldl rspStep s).1 ↔ x < s.1 ∨ ∃ a ∈ ds, x < a.beg := by
    intro ds
    induction ds with
    | nil => intro s; simp
    | cons o ds ih =>
      intro s
      rw [List.foldl_cons, ih]
      simp only [rspStep, List.mem_cons, exists_eq_or_imp]
      constructor
      · rintro (h | h)
        · rcases Int.lt_or_le x s.1 with h1 | h1
          · exact .inl h1
          · exact .inr (.inl (by omega))
        · exact .inr (.inr h)
      · rintro (h | h | h)
        · exact .inl (by omega)
        · exact .inl (by omega)
        · exact .inr h
  unfold rsp
  rw [gen]
  constructor
  · rintro (h | h)
    · omega
    · exact h
  · exact .inr
theorem rsp_iff (ds : List OpD) : (rsp ds).2 = true ↔ ds.Pairwise (fun a b => ¬ (0 ≤ b.fin ∧ b.fin < a.beg)) := by
  have gen : ∀ n (ds : List OpD), ds.length = n → ((rsp ds).2 = true ↔ ds.Pairwise (fun a b => ¬ (0 ≤ b.fin ∧ b.fin < a.beg))) := by
    intro n
    induction n with
    | zero => intro ds h; have : ds = [] := List.length_eq_zero_iff.1 h; subst this; simp [rsp]
    | succ n ih =>
      intro ds h
      have hne : ds ≠ [] := fun e => by subst e; simp at h
      obtain ⟨pre, x, rfl⟩ : ∃ pre x, ds = pre ++ [x] := ⟨_, _, (List.dropLast_concat_getLast hne).symm⟩
      rw [rsp_snoc, List.pairwise_append]
      simp only [rspStep, Bool.and_eq_true, ih pre (by simpa using h)]
      simp only [List.pairwise_cons, List.not_mem_nil, false_implies, implies_true, List.Pairwise.nil, and_self, true_and, List.mem_singleton, forall_eq]
      refine and_congr_right fun _ => ?_
      by_cases h0 : 0 ≤ x.fin
      · have := rsp_max pre x.fin h0
        simp only [h0, decide_true, Bool.true_and, Bool.not_eq_true', decide_eq_false_iff_not, true_and]
        rw [this]
        simp
      · simp [h0]
  exact gen _ ds rfl
end Go.Proofs.Ytpnkkdpggofanaa
