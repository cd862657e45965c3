/- How often each answer was given; a map that counts them; one entry more, in a region that draws its order. -/
import Derived.Test.YtpnkkdpggofanaaKey3
import Derived.Test.YtpnkkdpggofanaaMay
import Derived.Test.YtpnkkdpggofanaaOrder2
namespace Go.Proofs.Ytpnkkdpggofanaa
open Go.RowKit Go.Shelf Go.Sort

def cntK (l : List Ev) (k : Nat) (q : Int × Int × Int) : Int := ((l.take k).countP (ansKey q.1 q.2.1 q.2.2) : Nat)
def keyE (e : Ev) : Int × Int × Int := (e.what, e.id, e.gen)
theorem ansKey_iff (q : Int × Int × Int) (e : Ev) : ansKey q.1 q.2.1 q.2.2 e = true ↔ e.kind = 2 ∧ q = keyE e := by
  obtain ⟨a, b, c⟩ := q
  simp only [ansKey, keyE, Bool.and_eq_true, beq_iff_eq, Prod.mk.injEq]
  constructor
  · rintro ⟨⟨⟨h1, h2⟩, h3⟩, h4⟩; exact ⟨h1, h2.symm, h3.symm, h4.symm⟩
  · rintro ⟨h1, h2, h3, h4⟩; exact ⟨⟨⟨h1, h2.symm⟩, h3.symm⟩, h4.symm⟩
theorem cntK_zero (l : List Ev) (q : Int × Int × Int) : cntK l 0 q = 0 := by simp [cntK]
theorem cntK_not {l : List Ev} {k : Nat} (h : k < l.length) (hk : l[k].kind ≠ 2) (q : Int × Int × Int) : cntK l (k + 1) q = cntK l k q := by
  unfold cntK
  have : ansKey q.1 q.2.1 q.2.2 l[k] = false := by
    cases hh : ansKey q.1 q.2.1 q.2.2 l[k] with
    | false => rfl
    | true => exact absurd ((ansKey_iff q _).1 hh).1 hk
  rw [take_snoc_list l k h, List.countP_append, List.countP_cons, List.countP_nil, this]
  simp
theorem cntK_ans {l : List Ev} {k : Nat} (h : k < l.length) (hk : l[k].kind = 2) (q : Int × Int × Int) : cntK l (k + 1) q = if q = keyE l[k] then cntK l k (keyE l[k]) + 1 else cntK l k q := by
  unfold cntK
  rw [take_snoc_list l k h, List.countP_append, List.countP_cons, List.countP_nil]
  by_cases e : q = keyE l[k]
  · rw [if_pos e, if_pos ((ansKey_iff q _).2 ⟨hk, e⟩), ← e]
    omega
  · rw [if_neg e, if_neg (fun hh => e ((ansKey_iff q _).1 hh).2)]
    omega
theorem cntK_bound (l : List Ev) (k : Nat) (q : Int × Int × Int) : 0 ≤ cntK l k q ∧ cntK l k q ≤ l.length := by
  unfold cntK
  have h1 := List.countP_le_length (p := ansKey q.1 q.2.1 q.2.2) (l := l.take k)
  have h2 := List.length_take_le' k l
  omega
/-- A map that says how often. -/
def Cnt (m : List ((Int × Int × Int) × Int)) (f : Int × Int × Int → Int) : Prop := ∀ q, (aget m q).getD 0 = f q
theorem Cnt.nil : Cnt [] (fun _ => 0) := fun q => by simp [aget]
theorem Cnt.put {m : List ((Int × Int × Int) × Int)} {f g : Int × Int × Int → Int} (h : Cnt m f) (q : Int × Int × Int) (v : Int) (hg : ∀ p, g p = if p = q then v else f p) : Cnt (aput m q v) g := by
  intro p
  rw [aget_put, hg]
  by_cases e : p = q
  · rw [if_pos e, if_pos e]; rfl
  · rw [if_neg e, if_neg e]; exact h p
theorem Cnt.eq {m : List ((Int × Int × Int) × Int)} {f g : Int × Int × Int → Int} (h : Cnt m f) (hg : ∀ p, g p = f p) : Cnt m g := fun q => by rw [hg]; exact h q

theorem cnt_less {f g g' : Int × Int × Int → Int} {q0 : Int × Int × Int} {cv : Int} (hv : cv = f q0 - g q0) (h : ∀ q, g' q = if q = q0 then g q0 + 1 else g q) (q : Int × Int × Int) : f q - g' q = if q = q0 then cv - 1 else f q - g q := by
  rw [h]
  by_cases e : q = q0
  · subst e; rw [if_pos rfl, if_pos rfl]; omega
  · rw [if_neg e, if_neg e]

theorem int_zero3 : ∀ w, (zeroValue 3).run Try.prog w = .ok (.int .i64 0) w := Try.zeroValue3
theorem look_cnt {W : World} {b : Nat} {m : List ((Int × Int × Int) × Int)} {f : Int × Int × Int → Int} (h : MapIs keyW (Value.int .i64) W b m) (hc : Cnt m f) (q : Int × Int × Int) :
    (Instr.lookup 56 (.map (some b)) (keyW q) false).run Try.prog W = .ok (.int .i64 (f q)) W := by
  have := h.run_lookup key3_law Try.underlying56 int_zero3 q false
  rw [← hc q]
  rw [this]
  cases aget m q <;> rfl
theorem entry_cnt {W : World} {b : Nat} {m : List ((Int × Int × Int) × Int)} {f : Int × Int × Int → Int} (h : MapIs keyW (Value.int .i64) W b m) (hc : Cnt m f) (q : Int × Int × Int) :
    ∃ st w1, (Instr.mapEntry 56 (.map (some b)) (keyW q)).run Try.prog W = .ok (.tuple #[.int .i64 (f q), goInt st]) w1 ∧ (Instr.lookup 56 (.map (some b)) (keyW q) false).run Try.prog w1 = .ok (.int .i64 (f q)) w1 ∧ W.grownBy w1 (some b) ∧ w1.heap.size = W.heap.size ∧
      ∀ v, ∃ w3, (Instr.entryStore 56 (.map (some b)) (goInt st) (.int .i64 v)).run Try.prog w1 = .ok () w3 ∧ MapIs keyW (Value.int .i64) w3 b (aput m q v) ∧ w1.grownBy w3 (some b) ∧ w3.heap.size = w1.heap.size := by
  obtain ⟨st, w1, m1, h1, h2, h3, h4, h5, h6⟩ := h.run_entry key3_law Try.underlying56 (z := (0 : Int)) int_zero3 q
  rw [hc q] at h1 h3
  refine ⟨st, w1, h1, ?_, h4, h5, fun v => h6 v w1 rfl⟩
  have := h2.run_lookup key3_law Try.underlying56 int_zero3 q false
  rw [h3] at this
  exact this

section
variable {P : Program} {ops : Array Oper} {Q : Exit → Act → World → Prop} {md : Region.Mode} {S : World → Prop}
theorem wpAnyH_two {i k fuel : Nat} {listed : Array Bool} {a : Act} {w : World} {oi ok : Oper} (hr : Region.ready md ops listed = [i, k]) (hoi : ops[i]? = some oi) (hok : ops[k]? = some ok)
    (hi : ∀ K : Act → World → Prop, Hid (∀ a w, S w → wpAnyH P md ops Q S fuel (listed.setIfInBounds i true) a w → K a w) → if Region.wanted oi (yielded ops a.tmps) = true then oi.wp P a w K Q else K (a.put oi.dst undef) w)
    (hk : ∀ K : Act → World → Prop, Hid (∀ a w, S w → wpAnyH P md ops Q S fuel (listed.setIfInBounds k true) a w → K a w) → if Region.wanted ok (yielded ops a.tmps) = true then ok.wp P a w K Q else K (a.put ok.dst undef) w) : wpAnyH P md ops Q S (fuel + 1) listed a w :=
  wpAnyH_ready hr (by simp) (AllReadyH.cons hoi (fun K' hK => hi K' (show Hid _ from fun a w hS hW => hK.out a w hS (fun _ => hW))) (AllReadyH.cons hok (fun K' hK => hk K' (show Hid _ from fun a w hS hW => hK.out a w hS (fun _ => hW))) AllReadyH.nil))
theorem wp_lookup {K : Act → World → Prop} {a : Act} {w w' : World} {o : Oper} {t : TypeId} {m k : Operand} {c : Bool} {vm vk v : Value} (hg : o.guard = none) (hop : o.op = .lookup t m k c) (hm : a.eval m = vm) (hk : a.eval k = vk)
    (hrun : (Instr.lookup t vm vk c).run P w = .ok v w') (h : K (a.put o.dst v) w') : if Region.wanted o (yielded ops a.tmps) = true then o.wp P a w K Q else K (a.put o.dst undef) w := by
  rw [if_pos (by unfold Region.wanted; rw [hg])]
  unfold Oper.wp execOp
  simp only [hop, hm, hk, Sem.run_bind, Sem.run_pure, hrun, Result.andThen_ok]
  exact h
theorem wp_entry {K : Act → World → Prop} {a : Act} {w w' : World} {o : Oper} {t : TypeId} {m k : Operand} {vm vk v : Value} (hg : o.guard = none) (hop : o.op = .mapEntry t m k) (hm : a.eval m = vm) (hk : a.eval k = vk)
    (hrun : (Instr.mapEntry t vm vk).run P w = .ok v w') (h : K (a.put o.dst v) w') : if Region.wanted o (yielded ops a.tmps) = true then o.wp P a w K Q else K (a.put o.dst undef) w := by
  rw [if_pos (by unfold Region.wanted; rw [hg])]
  unfold Oper.wp execOp
  simp only [hop, hm, hk, Sem.run_bind, Sem.run_pure, hrun, Result.andThen_ok]
  exact h
theorem wp_store {K : Act → World → Prop} {a : Act} {w w' : World} {o : Oper} {t : TypeId} {m k x : Operand} {vm vk vx : Value} (hg : o.guard = none) (hop : o.op = .entryStore t m k x) (hm : a.eval m = vm) (hk : a.eval k = vk) (hx : a.eval x = vx)
    (hrun : (Instr.entryStore t vm vk vx).run P w = .ok () w') (h : K (a.put o.dst undef) w') : if Region.wanted o (yielded ops a.tmps) = true then o.wp P a w K Q else K (a.put o.dst undef) w := by
  rw [if_pos (by unfold Region.wanted; rw [hg])]
  unfold Oper.wp execOp
  simp only [hop, hm, hk, hx, Sem.run_bind, Sem.run_pure, hrun, Result.andThen_ok]
  exact h
end
end Go.Proofs.Ytpnkkdpggofanaa
