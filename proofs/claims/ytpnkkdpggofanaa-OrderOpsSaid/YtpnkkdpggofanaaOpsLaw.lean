/- OrderOps' plain law: the line, whether it respects the order, and how many were open at once, are the document's. -/
import Derived.Test.YtpnkkdpggofanaaOrdLaw
import Derived.Test.YtpnkkdpggofanaaRefRightA
import Derived.Test.YtpnkkdpggofanaaRefResp
import Derived.Test.YtpnkkdpggofanaaRefMost
import Derived.Test.YtpnkkdpggofanaaMost24
namespace Go.Proofs.Ytpnkkdpggofanaa
open Go.Shelf Go.RowKit Go.Lib Go.Sort Go.Proofs

theorem sorted_ext : ∀ {xs ys : List OpD}, xs.Pairwise (fun a b => a.did < b.did) → ys.Pairwise (fun a b => a.did < b.did) → (∀ o, o ∈ xs ↔ o ∈ ys) → xs = ys := by
  intro xs
  induction xs with
  | nil =>
    intro ys _ _ h
    cases ys with
    | nil => rfl
    | cons y ys => exact absurd ((h y).2 (by simp)) (by simp)
  | cons x xs ih =>
    intro ys hx hy h
    cases ys with
    | nil => exact absurd ((h x).1 (by simp)) (by simp)
    | cons y ys =>
      rw [List.pairwise_cons] at hx hy
      have hxy : x = y := by
        rcases List.mem_cons.1 ((h x).1 (by simp)) with e | e
        · exact e
        rcases List.mem_cons.1 ((h y).2 (by simp)) with e2 | e2
        · exact e2.symm
        have h1 := hy.1 x e
        have h2 := hx.1 y e2
        omega
      subst hxy
      refine congrArg (x :: ·) (ih hx.2 hy.2 (fun o => ⟨fun ho => ?_, fun ho => ?_⟩))
      · rcases List.mem_cons.1 ((h o).1 (List.mem_cons_of_mem _ ho)) with e | e
        · subst e; have := hx.1 o ho; omega
        · exact e
      · rcases List.mem_cons.1 ((h o).2 (List.mem_cons_of_mem _ ho)) with e | e
        · subst e; have := hy.1 o ho; omega
        · exact e

def refD (os : List OpD) (n : Nat) : List OpD := (List.range n).flatMap fun (i : Nat) => os.filter (fun o => o.did == (i : Int))
theorem refD_line (os : List OpD) (n : Nat) : rlineTo os n = (refD os n).map (·.no) := by
  unfold rlineTo refD rlin
  rw [List.map_flatMap]
  congr 1
  funext i
  rw [List.take_length]
theorem doneOf_sorted (l : List Ev) : (doneOf l).Pairwise (fun a b => a.did < b.did) := by
  rw [List.pairwise_iff_getElem]
  intro i j hi hj hij
  exact (doneOf_order l i j hi hj).1 hij
theorem refD_done (l : List Ev) : refD (opsOf l) l.length = doneOf l := by
  refine sorted_ext ?_ (doneOf_sorted l) ?_
  · unfold refD
    rw [List.pairwise_flatMap]
    refine ⟨fun i _ => ?_, ?_⟩
    · have hn : ((opsOf l).filter (fun o => o.did == (i : Int))).Pairwise (· ≠ ·) := (opsOf_nodup' l).sublist List.filter_sublist
      refine hn.imp_of_mem ?_
      intro a b ha hb hne
      exfalso
      obtain ⟨ha1, ha2⟩ := List.mem_filter.1 ha
      obtain ⟨hb1, hb2⟩ := List.mem_filter.1 hb
      simp only [beq_iff_eq] at ha2 hb2
      exact hne (did_inj l ha1 hb1 (by omega) (by omega))
    · refine List.Pairwise.imp ?_ List.pairwise_lt_range
      intro i j hij x hx y hy
      have h1 := (List.mem_filter.1 hx).2
      have h2 := (List.mem_filter.1 hy).2
      simp only [beq_iff_eq] at h1 h2
      omega
  · intro o
    rw [doneOf_mem]
    unfold refD
    rw [List.mem_flatMap]
    constructor
    · rintro ⟨i, hi, ho⟩
      obtain ⟨h1, h2⟩ := List.mem_filter.1 ho
      simp only [beq_iff_eq] at h2
      exact ⟨h1, by omega⟩
    · rintro ⟨h1, h2⟩
      obtain ⟨d, hd, e, he, _⟩ := opsOf_own l o h1 h2
      have := (List.getElem?_eq_some_iff.1 he).1
      exact ⟨d, List.mem_range.2 this, List.mem_filter.2 ⟨h1, by simp [hd]⟩⟩
theorem line_ref (l : List Ev) : refLine l = (doneOf l).map (·.no) := by
  unfold refLine
  rw [refD_line, ← opsOf_ref, refD_done]

/-! ### Respects -/
theorem refResp_iff (os : List OpD) : refResp os = true ↔ ∀ a ∈ os, ∀ b ∈ os, 0 ≤ a.did → 0 ≤ b.did → b.did < a.did → ¬ (0 ≤ a.fin ∧ a.fin < b.beg) := by
  unfold refResp rbad
  simp only [List.all_eq_true, Bool.not_eq_true', Bool.and_eq_false_iff, decide_eq_false_iff_not]
  constructor
  · intro h a ha b hb h1 h2 h3 h4
    rcases h a ha b hb with (((h5 | h5) | h5) | h5) | h5
    · exact h5 h1
    · exact h5 h2
    · exact h5 h4.1
    · exact h5 h4.2
    · exact h5 h3
  · intro h a ha b hb
    by_cases h1 : 0 ≤ a.did
    · by_cases h2 : 0 ≤ b.did
      · by_cases h3 : b.did < a.did
        · have := h a ha b hb h1 h2 h3
          by_cases h4 : 0 ≤ a.fin
          · exact .inl (.inr (fun h5 => this ⟨h4, h5⟩))
          · exact .inl (.inl (.inr h4))
        · exact .inr h3
      · exact .inl (.inl (.inl (.inr h2)))
    · exact .inl (.inl (.inl (.inl h1)))
theorem resp_ref (l : List Ev) : refResp (refOps l) = (rsp (doneOf l)).2 := by
  rw [← opsOf_ref]
  rw [Bool.eq_iff_iff, refResp_iff, rsp_iff, List.pairwise_iff_getElem]
  constructor
  · intro h i j hi hj hij
    have mi := (doneOf_mem l _).1 (List.getElem_mem hi)
    have mj := (doneOf_mem l _).1 (List.getElem_mem hj)
    exact h _ mj.1 _ mi.1 mj.2 mi.2 ((doneOf_order l i j hi hj).1 hij)
  · intro h a ha b hb h1 h2 h3
    obtain ⟨i, hi, rfl⟩ := List.mem_iff_getElem.1 ((doneOf_mem l a).2 ⟨ha, h1⟩)
    obtain ⟨j, hj, rfl⟩ := List.mem_iff_getElem.1 ((doneOf_mem l b).2 ⟨hb, h2⟩)
    exact h j i hj hi ((doneOf_order l j i hj hi).2 h3)

/-! ### Most -/
def cntB (os : List OpD) (i : Nat) : Nat := os.countP (fun o => decide (o.beg < (i : Int)))
def cntE (os : List OpD) (i : Nat) : Nat := os.countP (fun o => decide (0 ≤ o.fin) && decide (o.fin < (i : Int)))
theorem cntB_succ (l : List Ev) (i : Nat) : cntB (opsOf l) (i + 1) = cntB (opsOf l) i + if begsAt (opsOf l) i then 1 else 0 := by
  unfold cntB begsAt
  rw [← countP_one _ _ (opsOf_nodup' l) (fun x hx y hy h1 h2 => beg_inj l hx hy (by simp at h1 h2; omega))]
  refine countP_split _ _ _ _ (fun x _ => ?_) (fun x _ => ?_)
  · rw [Bool.eq_iff_iff]; simp; omega
  · simp; omega
theorem cntE_succ (l : List Ev) (i : Nat) : cntE (opsOf l) (i + 1) = cntE (opsOf l) i + if endsAt (opsOf l) i then 1 else 0 := by
  unfold cntE endsAt
  rw [← countP_one _ _ (opsOf_nodup' l) (fun x hx y hy h1 h2 => fin_inj l hx hy (by simp at h1; omega) (by simp at h1 h2; omega))]
  refine countP_split _ _ _ _ (fun x _ => ?_) (fun x _ => ?_)
  · rw [Bool.eq_iff_iff]; simp; omega
  · simp; omega
theorem mostTo_cnt (l : List Ev) (i : Nat) : (mostTo (opsOf l) i).1 = (cntB (opsOf l) i : Int) - cntE (opsOf l) i := by
  induction i with
  | zero =>
    have h1 : cntB (opsOf l) 0 = 0 := by
      unfold cntB
      rw [List.countP_eq_zero]
      intro o ho
      obtain ⟨k, hk, _, _, rfl⟩ := opsOf_mem l o ho
      simp
    have h2 : cntE (opsOf l) 0 = 0 := by
      unfold cntE
      rw [List.countP_eq_zero]
      intro o ho
      simp
    rw [h1, h2]; rfl
  | succ i ih =>
    rw [mostTo, mostStep]
    simp only
    rw [ih, cntB_succ, cntE_succ]
    cases begsAt (opsOf l) i <;> cases endsAt (opsOf l) i <;> simp <;> omega
theorem thereTo_at (os : List OpD) (hn : (os.map (·.no)).Nodup) (i : Nat) (e : Ev) (o : OpD) (ho : o ∈ os) (hc : o.no = e.call) : thereTo os i e os.length = rthere i e o := by
  obtain ⟨j, hj, rfl⟩ := List.mem_iff_getElem.1 ho
  have gen : ∀ k, k ≤ os.length → thereTo os i e k = if j < k then rthere i e os[j] else false := by
    intro k
    induction k with
    | zero => intro _; simp [thereTo]
    | succ k ih =>
      intro hk
      have hlt : k < os.length := hk
      rw [thereTo_succ _ _ _ _ hlt, ih (by omega)]
      by_cases hkj : k = j
      · subst hkj
        rw [if_pos hc, if_pos (by omega)]
      · have : os[k].no ≠ e.call := by
          intro h
          apply hkj
          have h1 : (os.map (·.no))[k]? = some e.call := by simp [hlt, h]
          have h2 : (os.map (·.no))[j]? = some e.call := by simp [hj, hc]
          exact (List.getElem?_inj (by simpa using hlt) hn).1 (h1.trans h2.symm)
        rw [if_neg this]
        by_cases hjk : j < k
        · rw [if_pos hjk, if_pos (by omega)]
        · rw [if_neg hjk, if_neg (by omega)]
  rw [gen _ (Nat.le_refl _), if_pos hj]
theorem refRight_at (l : List Ev) (os : List OpD) (h : refRight l os = true) (i : Nat) (hi : i < l.length) : thereTo os i l[i] os.length = true := by
  unfold refRight at h
  rw [List.all_eq_true] at h
  have := h i (List.mem_range.2 hi)
  rw [List.getElem?_eq_getElem hi] at this
  exact this
theorem right_fin (l : List Ev) (h : refRight l (opsOf l) = true) (o : OpD) (ho : o ∈ opsOf l) (h0 : 0 ≤ o.fin) : o.beg ≤ o.fin := by
  obtain ⟨k, hk, h1, h2, h3⟩ := fin_at l ho h0
  have := refRight_at l _ h k hk
  rw [thereTo_at _ (opsOf_nodup l) k _ o ho h2.symm] at this
  unfold rthere at this
  simp only [Bool.and_eq_true, decide_eq_true_eq] at this
  omega
theorem ropens_cnt (l : List Ev) (h : refRight l (opsOf l) = true) (i : Nat) : cntB (opsOf l) (i + 1) = ropens (opsOf l) i (opsOf l).length + cntE (opsOf l) i := by
  unfold ropens cntB cntE
  rw [List.take_length]
  refine countP_split _ _ _ _ (fun x hx => ?_) (fun x hx => ?_)
  · have := right_fin l h x hx
    rw [Bool.eq_iff_iff]
    simp only [ropen, decide_eq_true_eq, Bool.or_eq_true, Bool.and_eq_true]
    by_cases h0 : 0 ≤ x.fin
    · have := this h0; omega
    · omega
  · have := right_fin l h x hx
    simp only [ropen, decide_eq_true_eq, Bool.or_eq_true, Bool.and_eq_true]
    by_cases h0 : 0 ≤ x.fin
    · have := this h0; omega
    · omega
theorem most_ref (l : List Ev) (h : refRight l (refOps l) = true) (i : Nat) : (mostTo (opsOf l) i).2 = (refMost (refOps l) i : Nat) := by
  rw [← opsOf_ref] at h ⊢
  induction i with
  | zero => rfl
  | succ i ih =>
    rw [mostTo, mostStep, refMost]
    simp only
    rw [ih]
    have h1 := ropens_cnt l h i
    have h2 := cntB_succ l i
    have h3 := mostTo_cnt l i
    cases hb : begsAt (opsOf l) i <;> simp only [hb, if_true, if_false, Bool.false_eq_true] at h2 ⊢ <;> omega
end Go.Proofs.Ytpnkkdpggofanaa
