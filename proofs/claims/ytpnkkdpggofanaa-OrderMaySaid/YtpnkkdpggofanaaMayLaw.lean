/- The fields of a serial trace's events are in their ranges. Plain Lean. -/
import Derived.Test.YtpnkkdpggofanaaMay
namespace Go.Proofs.Ytpnkkdpggofanaa

def wfx (e : Ev) : Prop := I64 e.kind ∧ I64 e.thr ∧ I64 e.what ∧ U64 e.id ∧ U64 e.gen ∧ U64 e.dl ∧ U64 e.per ∧ U64 e.tk ∧ I64 e.err
theorem wfx_of {e : Ev} (h : e.wf) : wfx e := ⟨h.kind, h.thr, h.what, h.id, h.gen, h.dl, h.per, h.tk, h.err⟩
theorem wf_of_wfx {e : Ev} (h : wfx e) (hc : I64 e.call) : e.wf := by
  obtain ⟨h1, h2, h3, h4, h5, h6, h7, h8, h9⟩ := h
  exact ⟨h1, h2, hc, h3, h4, h5, h6, h7, h8, h9⟩
theorem wfx_Z : wfx evZ := by
  unfold wfx evZ I64 U64
  decide
theorem putP_wfx {st : List (Int × Int) × List Ev} {e : Ev} (h : ∀ x ∈ st.2, wfx x) (he : wfx e) : ∀ x ∈ (putP st e).2, wfx x := by
  intro x hx
  rcases List.mem_append.1 hx with hx | hx
  · exact h x hx
  · rw [List.mem_singleton.1 hx]; exact he
theorem getZ_wfx {l : List Ev} (hl : ∀ e ∈ l, wfx e) (k : Nat) : wfx ((l[k]?).getD evZ) := by
  cases h : l[k]? with
  | none => exact wfx_Z
  | some e => exact hl e (List.mem_of_getElem? h)
theorem aget_has {κ ν : Type} [DecidableEq κ] {m : List (κ × ν)} {k : κ} {v : ν} (h : aget m k = some v) : ∃ p ∈ m, p.2 = v := by
  induction m with
  | nil => simp [aget] at h
  | cons p m ih =>
    simp only [aget] at h
    by_cases e : k = p.1
    · rw [if_pos e] at h; exact ⟨p, List.mem_cons_self, by simpa using h⟩
    · rw [if_neg e] at h; obtain ⟨q, h1, h2⟩ := ih h; exact ⟨q, List.mem_cons_of_mem _ h1, h2⟩
theorem ansE_wfx {l : List Ev} (hl : ∀ e ∈ l, wfx e) {o : OpD} (ho : I64 o.thr ∧ I64 o.what) {e : Ev} (he : wfx e) : wfx (ansE l o e) := by
  have h0 : U64 0 := by unfold U64; decide
  have h2 : I64 2 := by unfold I64; decide
  have h00 : I64 0 := by unfold I64; decide
  obtain ⟨h1, _, _, h4, h5, _, _, _, h9⟩ := he
  unfold ansE
  split
  · exact getZ_wfx hl _
  · split
    · exact ⟨h2, ho.1, ho.2, h0, h0, h0, h0, h0, h9⟩
    · exact ⟨h2, ho.1, ho.2, h4, h5, h0, h0, h0, h00⟩
theorem serStep_wfx {l : List Ev} (hl : ∀ e ∈ l, wfx e) {O : List (Int × OpD)} (hO : ∀ c o, aget O c = some o → I64 o.thr ∧ I64 o.what) {st : List (Int × Int) × List Ev} (h : ∀ x ∈ st.2, wfx x) (i : Nat) {e : Ev} (he : wfx e) :
    ∀ x ∈ (serStep l O st i e).2, wfx x := by
  unfold serStep
  split
  · exact h
  · rename_i o ho
    split
    · exact h
    · split
      · split
        · exact putP_wfx h he
        · exact h
      · split
        · exact h
        · split
          · exact putP_wfx (putP_wfx (putP_wfx h (getZ_wfx hl _)) he) (ansE_wfx hl (hO _ _ ho) he)
          · split
            · exact putP_wfx h he
            · exact h
theorem serUpto_wfx {l : List Ev} (hl : ∀ e ∈ l, wfx e) {O : List (Int × OpD)} (hO : ∀ c o, aget O c = some o → I64 o.thr ∧ I64 o.what) (k : Nat) : ∀ x ∈ (serUpto l O k).2, wfx x := by
  induction k with
  | zero => intro x hx; cases hx
  | succ k ih =>
    rw [serUpto]
    split
    · rename_i e he
      exact serStep_wfx hl hO ih k (hl e (List.mem_of_getElem? he))
    · exact ih
theorem opMap_wfx {l : List Ev} (hl : ∀ e ∈ l, wfx e) : ∀ c o, aget (opMap (opsOf l)) c = some o → I64 o.thr ∧ I64 o.what := by
  intro c o h
  obtain ⟨p, hp, rfl⟩ := aget_has h
  obtain ⟨x, hx, rfl⟩ := List.mem_map.1 hp
  obtain ⟨i, hi, _, _, rfl⟩ := opsOf_mem l x hx
  have := hl _ (List.getElem_mem hi)
  exact ⟨this.2.1, this.2.2.1⟩
/-- All of a serial trace's events are in their ranges. -/
theorem serial_wf {n : Int} {r : List Ev} (ha : All (new n) r) (hw : ∀ e ∈ r, e.wf) (hn : r.length ≤ 1000) : ∀ e ∈ serialOf r, e.wf := by
  intro e he
  have hx := serUpto_wfx (fun e he => wfx_of (hw e he)) (opMap_wfx (fun e he => wfx_of (hw e he))) r.length e he
  refine wf_of_wfx hx ?_
  obtain ⟨k, hk, rfl⟩ := List.mem_iff_getElem.1 he
  have hs := (serial_law ha).1
  have hb := begun_step hs (List.getElem?_eq_getElem hk)
  have hle := serialOf_len r
  have hbl : ∀ k, begun n (serialOf r) k ≤ k ∧ begun n (serialOf r) k ≤ begun n (serialOf r) k := fun _ => ⟨?_, Nat.le_refl _⟩
  · have hk1 := (hbl k).1
    unfold I64
    by_cases h1 : (serialOf r)[k].kind = 1
    · have := (hb.1 h1).1; omega
    · have := hb.2 h1; omega
  · rename_i j
    clear hb
    induction j with
    | zero => simp [begun, playM, new]
    | succ j ih =>
      rcases Nat.lt_or_ge j (serialOf r).length with hj | hj
      · have hb := begun_step hs (List.getElem?_eq_getElem hj)
        by_cases h1 : (serialOf r)[j].kind = 1
        · have := (hb.1 h1).2; omega
        · have := (hb.2 h1).2.2; omega
      · have : begun n (serialOf r) (j + 1) = begun n (serialOf r) j := by unfold begun; rw [List.take_of_length_le (by omega), List.take_of_length_le hj]
        omega
theorem may_wf {n : Int} {l : List Ev} (hw : ∀ e ∈ l, e.wf) : ∀ e ∈ may n l, e.wf := fun e he => hw e (may_mem he)
end Go.Proofs.Ytpnkkdpggofanaa
