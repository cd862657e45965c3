/- Plain lemmas on worlds, slices and lists that the walks use; nothing of the program. -/
import Derived.WalkKit
import Derived.Handy
import Derived.Deep.QuietTactic
import Derived.BigQuiet
import Derived.WalkLawsBesides
import Derived.WalkSpells
import Derived.RangeFuncBox
namespace Go.Proofs.Ytpnkkdpggofanaa
open Go.RowKit

theorem hid {p : Prop} (h : p) : Hid p := h

/-- 'v' is a slice of n elements; the cells of its elements, one behind the other, are xs. -/
def Reads (w : World) (v : Value) (n : Nat) (xs : List Value) : Prop :=
  ∃ ao c, v = .slice ao n c ∧ (ao = none → n = 0 ∧ c = 0) ∧ (xs ≠ [] → ∃ b o, ao = some ⟨b, o, none⟩ ∧ ∀ j u, xs[j]? = some u → w.cell? ⟨b, o + j, none⟩ = some u)

theorem flatMap_getElem? {α : Type} (enc : α → List Value) (sz : Nat) (hsz : ∀ x, (enc x).length = sz) :
    ∀ (l : List α) (i : Nat) (x : α) (r : Nat) (u : Value), l[i]? = some x → (enc x)[r]? = some u → (l.flatMap enc)[i * sz + r]? = some u
  | [], i, x, r, u, h, _ => by simp at h
  | a :: l, 0, x, r, u, h, hu => by
    simp at h; subst h
    rw [List.flatMap_cons, Nat.zero_mul, Nat.zero_add, List.getElem?_append_left (List.getElem?_eq_some_iff.1 hu).1]
    exact hu
  | a :: l, i + 1, x, r, u, h, hu => by
    simp only [List.getElem?_cons_succ] at h
    have ih := flatMap_getElem? enc sz hsz l i x r u h hu
    rw [List.flatMap_cons, List.getElem?_append_right (by rw [hsz, Nat.add_mul]; omega), hsz, Nat.add_mul, Nat.one_mul]
    rw [show i * sz + sz + r - sz = i * sz + r by omega]
    exact ih

theorem flatMap_length {α : Type} (enc : α → List Value) (sz : Nat) (hsz : ∀ x, (enc x).length = sz) (l : List α) : (l.flatMap enc).length = l.length * sz := by
  induction l with
  | nil => simp
  | cons a l ih => rw [List.flatMap_cons, List.length_append, hsz, ih, List.length_cons, Nat.add_mul]; omega

theorem Reads.below {w w' : World} {v : Value} {n : Nat} {xs : List Value} {B : Nat} (h : Reads w v n xs) (hb : Below B w w') (hB : w.heap.size ≤ B) : Reads w' v n xs := by
  obtain ⟨ao, c, hv, hn, hx⟩ := h
  refine ⟨ao, c, hv, hn, fun hne => ?_⟩
  obtain ⟨b, o, hao, hc⟩ := hx hne
  refine ⟨b, o, hao, fun j u hu => ?_⟩
  have h1 := hc j u hu
  have hlt := World.block_lt_of_cell? w _ h1
  rw [hb.cell (by show b < B; simp at hlt; omega)]
  exact h1

/-- A slice that the call owns can be read. -/
theorem Reads.of_owns {w : World} {base : Nat} {e : TypeId} {size : Nat} {v : Value} {n : Nat} {xs : List Value} (h : w.ownsRow base e size v n xs) : Reads w v n xs := by
  obtain ⟨hl, h⟩ := h
  rcases h with ⟨rfl, rfl⟩ | ⟨g, cap, cur, rfl, hb, hg, hn, hc, hs, ht⟩
  · exact ⟨none, 0, rfl, fun _ => ⟨rfl, rfl⟩, fun hne => absurd (List.eq_nil_of_length_eq_zero (by simpa using hl)) hne⟩
  · refine ⟨_, cap, rfl, (fun e => by cases e), fun _ => ⟨g, 0, rfl, fun j u hu => ?_⟩⟩
    rw [← ht, List.getElem?_take] at hu
    split at hu
    · simpa [World.cell?, hg] using hu
    · simp at hu

/-- The cells of a block that has just been made. -/
theorem cells_new (w : World) (xs : List Value) (e : TypeId) : ∀ j u, xs[j]? = some u → (w.alloc (.cells xs.toArray e)).cell? ((⟨w.heap.size, 0, none⟩ : Addr).add j) = some u := by
  intro j u hu
  have hadd : (⟨w.heap.size, 0, none⟩ : Addr).add j = ⟨w.heap.size, j, none⟩ := by unfold Addr.add; split <;> simp_all
  rw [hadd]
  have hb := heap_alloc_new w (.cells xs.toArray e)
  rw [cell_of_row _ w.heap.size j _ e (0, 0) hb]
  simpa using hu
theorem filter_snoc {α : Type} (p : α → Bool) (l : List α) (k : Nat) (h : k < l.length) : (l.take (k + 1)).filter p = (l.take k).filter p ++ if p l[k] then [l[k]] else [] := by
  rw [List.take_succ_eq_append_getElem h, List.filter_append]
  by_cases hp : p l[k] <;> simp [hp]
theorem filter_take_le {α : Type} (p : α → Bool) (l : List α) (k : Nat) : ((l.take k).filter p).length ≤ k :=
  Nat.le_trans (List.length_filter_le _ _) (List.length_take_le _ _)
theorem flatMap_snoc {α : Type} (enc : α → List Value) (l : List α) (x : α) : (l ++ [x]).flatMap enc = l.flatMap enc ++ enc x := by simp

/-- Behind an append onto a slice of the call's own nothing that was there at the start has turned. -/
theorem below_appended {w wr w1 : World} {B : Nat} {e : TypeId} {size : Nat} {v : Value} {n : Nat} {xs : List Value} {o : Obj} (hb : Below B w wr) (hB : B ≤ wr.heap.size) (hown : wr.ownsRow B e size v n xs)
    (hgrow : (wr.alloc o).grownBy w1 v.ownBlock) : Below B w w1 :=
  (hb.alloc hB o).grown hgrow (by simp; omega) (fun k hk => (hown.lt k hk).1)

theorem take_snoc_list {α : Type} (l : List α) (k : Nat) (h : k < l.length) : l.take (k + 1) = l.take k ++ [l[k]] := by
  rw [List.take_succ_eq_append_getElem h]

theorem drewN_drewN (w : World) (a b : Nat) : (w.drewN a).drewN b = w.drewN (a + b) := by
  simp [World.drewN, Nat.add_assoc]


/-- What the call has laid since is not turned by an append onto an elder row. -/
theorem grow_new_cell {wr W w1 : World} {base : Nat} {e : TypeId} {size : Nat} {v : Value} {n : Nat} {xs : List Value} {p : Addr} {u : Value} (hown : wr.ownsRow base e size v n xs) (hgrow : W.grownBy w1 v.ownBlock) (hb : wr.heap.size ≤ p.block)
    (h : W.cell? p = some u) : w1.cell? p = some u :=
  hgrow.cell h (fun e => by have := (hown.lt _ e.symm).2; omega)
/-- Of what was there nothing but the blocks of S has turned. -/
structure Chg (S : Nat → Prop) (w w' : World) : Prop where
  os : w'.os = w.os
  tape : w'.tape = w.tape
  output : w'.output = w.output
  size : w.heap.size ≤ w'.heap.size
  block : ∀ k, k < w.heap.size → ¬ S k → w'.heap[k]? = w.heap[k]?
theorem Chg.refl (S : Nat → Prop) (w : World) : Chg S w w := ⟨rfl, rfl, rfl, Nat.le_refl _, fun _ _ _ => rfl⟩
theorem Chg.trans {S : Nat → Prop} {a b c : World} (h : Chg S a b) (k : Chg S b c) : Chg S a c :=
  ⟨k.os.trans h.os, k.tape.trans h.tape, k.output.trans h.output, Nat.le_trans h.size k.size, fun i hi hs => (k.block i (Nat.lt_of_lt_of_le hi h.size) hs).trans (h.block i hi hs)⟩
theorem Chg.mono {S S' : Nat → Prop} {a b : World} (h : Chg S a b) (hs : ∀ k, k < a.heap.size → S k → S' k) : Chg S' a b :=
  ⟨h.os, h.tape, h.output, h.size, fun k hk hn => h.block k hk (fun e => hn (hs k hk e))⟩
/-- A step that turns only what is new since a. -/
theorem Chg.then {S S' : Nat → Prop} {a b c : World} (h : Chg S a b) (k : Chg S' b c) (hs : ∀ j, j < a.heap.size → S' j → S j) : Chg S a c :=
  ⟨k.os.trans h.os, k.tape.trans h.tape, k.output.trans h.output, Nat.le_trans h.size k.size, fun i hi hn => (k.block i (Nat.lt_of_lt_of_le hi h.size) (fun e => hn (hs i hi e))).trans (h.block i hi hn)⟩
theorem Chg.alloc (S : Nat → Prop) (w : World) (o : Obj) : Chg S w (w.alloc o) := ⟨rfl, rfl, rfl, by simp, fun k hk _ => Below.heap_alloc w o k hk⟩
theorem Chg.set {S : Nat → Prop} (w : World) (p : Addr) (u : Value) (h : S p.block) : Chg S w (w.setCell p u) :=
  ⟨rfl, rfl, rfl, by simp [World.setCell], fun k _ hn => Below.heap_setCell _ _ _ _ (fun e => hn (e ▸ h))⟩
theorem Chg.of_grown {S : Nat → Prop} {w w' : World} {row : Option Nat} (h : w.grownBy w' row) (hr : ∀ k, row = some k → S k) : Chg S w w' :=
  ⟨h.os, h.tape, h.output, h.size, fun k hk hn => h.block k hk (fun e => hn (hr k e.symm))⟩
theorem Chg.of_below {S : Nat → Prop} {w w' : World} {B : Nat} (h : Below B w w') (hs : ∀ k, k < w.heap.size → B ≤ k → S k) : Chg S w w' :=
  ⟨h.os, h.tape, h.output, h.size, fun k hk hn => h.block k (by rcases Nat.lt_or_ge k B with h | h; exact h; exact absurd (hs k hk h) hn)⟩
theorem Chg.below {S : Nat → Prop} {w w' : World} {B : Nat} (h : Chg S w w') (hB : B ≤ w.heap.size) (hs : ∀ k, S k → B ≤ k) : Below B w w' :=
  ⟨h.os, h.tape, h.output, h.size, fun k hk => h.block k (by omega) (fun e => by have := hs k e; omega)⟩
theorem Chg.grown {S : Nat → Prop} {w w' : World} {row : Option Nat} (h : Chg S w w') (hs : ∀ k, S k → row = some k) : w.grownBy w' row :=
  ⟨h.os, h.tape, h.output, h.size, fun k hk hn => h.block k hk (fun e => hn (hs k e).symm)⟩
theorem Chg.cell {S : Nat → Prop} {w w' : World} (h : Chg S w w') {p : Addr} {u : Value} (hn : ¬ S p.block) (hc : w.cell? p = some u) : w'.cell? p = some u :=
  (World.cell?_of_block (w := w) (h.block p.block (World.block_lt_of_cell? w p hc) hn)).trans hc
theorem Chg.boxed {S : Nat → Prop} {w w' : World} (h : Chg S w w') {b : Nat} {t : TypeId} {u : Value} (hn : ¬ S b) (hc : Boxed w b t u) : Boxed w' b t u := (h.block b hc.lt hn).trans hc
theorem Chg.owns {S : Nat → Prop} {w w' : World} (h : Chg S w w') {base : Nat} {e : TypeId} {size : Nat} {v : Value} {n : Nat} {xs : List Value} (ho : w.ownsRow base e size v n xs) (hn : ∀ k, v.ownBlock = some k → ¬ S k) : w'.ownsRow base e size v n xs := by
  refine ⟨ho.1, ?_⟩
  rcases ho.2 with hv | ⟨g, cap, cur, rfl, hb, hg, r⟩
  · exact .inl hv
  · exact .inr ⟨g, cap, cur, rfl, hb, (h.block g (Array.getElem?_eq_some_iff.1 hg).1 (hn g rfl)).trans hg, r⟩
theorem Chg.reads {S : Nat → Prop} {w w' : World} (h : Chg S w w') {v : Value} {n : Nat} {xs : List Value} (hr : Reads w v n xs) (hn : ∀ b o c, v = .slice (some ⟨b, o, none⟩) n c → ¬ S b) : Reads w' v n xs := by
  obtain ⟨ao, c, hv, h0, hx⟩ := hr
  refine ⟨ao, c, hv, h0, fun hne => ?_⟩
  obtain ⟨b, o, hao, hc⟩ := hx hne
  exact ⟨b, o, hao, fun j u hu => h.cell (hn b o c (by rw [hv, hao])) (hc j u hu)⟩
/-- A slice of a block that has just been made. -/
theorem Reads.built (w : World) (xs : List Value) (e : TypeId) (n : Nat) : Reads (w.alloc (.cells xs.toArray e)) (.slice (some ⟨w.heap.size, 0, none⟩) n n) n xs := by
  refine ⟨_, n, rfl, (fun e => by cases e), fun _ => ⟨w.heap.size, 0, rfl, fun j u hu => ?_⟩⟩
  have := cells_new w xs e j u hu
  rwa [Addr.add_lit] at this

theorem cell_alloc_keep {w : World} {p : Addr} {u : Value} (o : Obj) (h : w.cell? p = some u) : (w.alloc o).cell? p = some u :=
  (Chg.alloc (fun _ => False) w o).cell (fun h => h) h

theorem Reads.built_at (w : World) (xs : List Value) (e : TypeId) (n b : Nat) (hb : b = w.heap.size) : Reads (w.alloc (.cells xs.toArray e)) (.slice (some ⟨b, 0, none⟩) n n) n xs := by
  subst hb; exact Reads.built w xs e n
theorem below_drewN {B : Nat} {a w : World} (h : Below B a w) (n : Nat) : Below B a (w.drewN n) := ⟨h.os, h.tape, h.output, h.size, h.block⟩

theorem owns_base {w : World} {base base' : Nat} {e : TypeId} {size : Nat} {v : Value} {n : Nat} {xs : List Value} (h : w.ownsRow base e size v n xs) (hb : base' ≤ base) : w.ownsRow base' e size v n xs := by
  refine ⟨h.1, ?_⟩
  rcases h.2 with h | ⟨g, cap, cur, hv, hg, r⟩
  · exact .inl h
  · exact .inr ⟨g, cap, cur, hv, by omega, r⟩

theorem owns_shape {w : World} {base : Nat} {e : TypeId} {size : Nat} {v : Value} {n : Nat} {xs : List Value} (h : w.ownsRow base e size v n xs) : ∃ ao cap, v = .slice ao n cap := by
  rcases h.2 with ⟨rfl, rfl⟩ | ⟨g, cap, cur, rfl, _⟩
  · exact ⟨none, 0, rfl⟩
  · exact ⟨_, cap, rfl⟩

/-- append onto a slice of the call's own, whatever is appended: a nil slice, too. -/
theorem wpList_append_any {P : Program} (w : World) {ops : Array Oper} {rest : List Oper} {o : Oper} {a : Act} {Q : Exit → Act → World → Prop} (hgd : o.guard = none) (s x : Operand) (t : TypeId)
    (ho : o.op = .call { callee := .builtin .append, args := #[s, x], argTypes := #[t, t] })
    (base : Nat) (e : TypeId) (i : TypeInfo) (z : Value) (size bytes : Nat) (ht : P.underlying t = some (.slice e)) (hi : P.info? e = some i) (hz : i.zero = some z)
    (hsize : i.size = size) (hby : i.bytes = bytes) (hzs : z.cells.size = size) (hsz : 0 < size)
    (v : Value) (n : Nat) (xs : List Value) (hs : a.eval s = v) (hown : w.ownsRow base e size v n xs)
    (v2 : Value) (m : Nat) (news : List Value) (hx : a.eval x = v2) (hr : Reads w v2 m news) (hl : news.length = m * size) (h1 : ∀ u ∈ news, u.oneCell' = true)
    (h63 : n + m ≤ maxLen) (hbytes : (n + m) * bytes ≤ 140737488355328) (hbase : base ≤ w.heap.size)
    (h' : ∀ bo cap w', w'.ownsRow base e size (.slice bo (n + m) cap) (n + m) (xs ++ news) → w.grownBy w' v.ownBlock → wpList P ops Q rest (a.put o.dst (.slice bo (n + m) cap)) w') : wpList P ops Q (o :: rest) a w := by
  have h : ∀ v' w', w'.ownsRow base e size v' (n + m) (xs ++ news) → w.grownBy w' v.ownBlock → wpList P ops Q rest (a.put o.dst v') w' := by
    intro v' w' h1 h2
    obtain ⟨bo, cap, rfl⟩ := owns_shape h1
    exact h' bo cap w' h1 h2
  obtain ⟨ao, c, rfl, hn, hc⟩ := hr
  cases ao with
  | some ad =>
    refine wpList_append_own w hgd s x t ho base e i z size bytes ht hi hz hsize hby hzs hsz v n xs hs hown ad m c news hx hl ?_ h1 h63 hbytes hbase (fun v' w' a b _ => h v' w' a b)
    intro j u hu
    obtain ⟨b, o', hao, hcc⟩ := hc (by intro e; subst e; simp at hu)
    cases hao
    rw [Addr.add_lit]
    exact hcc j u hu
  | none =>
    obtain ⟨rfl, rfl⟩ := hn rfl
    have hnews : news = [] := List.eq_nil_of_length_eq_zero (by simpa using hl)
    subst hnews
    refine wpList_plain hgd fun K hK' => ?_
    have hrun := run_append_owned_none (P := P) w base t o.type e i size ht hi v n xs hown
    unfold Oper.wp
    simp [execOp, ho, resolve, invoke, builtin, hs, hx, hrun, Result.andThen]
    exact hK' _ _ (by simpa using h v w (by simpa using hown) (World.grownBy.refl _ _))

end Go.Proofs.Ytpnkkdpggofanaa
