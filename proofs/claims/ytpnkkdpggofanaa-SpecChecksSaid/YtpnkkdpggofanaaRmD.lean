/- The document's machine: the boxes of a call's row and a timer's, while a function of it runs. -/
import Derived.Test.YtpnkkdpggofanaaRmA
import Derived.Deep.RegionHeld3
namespace Go.Proofs.Ytpnkkdpggofanaa
open Go.RowKit

def mcC (R : Rm) (vc vt : Value) : List Value := [.int .i64 R.room, .int .u64 R.now, .bool R.closed, .bool R.ended, .int .i64 R.closer, vc, vt]
def EndsR (w : World) (bm : Nat) (vc vt : Value) (r : Rm × Cl × RT × Bool) (x : Ending) (w' : World) : Prop :=
  x = .returned (.tuple #[clV r.2.1, rtV r.2.2.1, .bool r.2.2.2]) ∧ Blk w' bm 91 (mcC r.1 vc vt) ∧ Chg (· = bm) w w'
theorem Blk.drewN {w : World} {b : Nat} {t : TypeId} {cs : List Value} (h : Blk w b t cs) (n : Nat) : Blk (w.drewN n) b t cs := h
theorem drewN_alloc (w : World) (o : Obj) (n : Nat) : (w.alloc o).drewN n = (w.drewN n).alloc o := rfl
theorem drew_alloc (w : World) (o : Obj) : (w.alloc o).drew = (w.drew).alloc o := rfl
theorem namedC {P : Program} {f : FuncId} {xs : Array Value} {Q : Ending → World → Prop} (V0 : World) (h : ∀ V, V = V0 → Calls P f xs V Q) : Calls P f xs V0 Q := h V0 rfl
theorem named {P : Program} {code : Code} {Q : Exit → Act → World → Prop} {a : Act} (V0 : World) (h : ∀ V, V = V0 → code.wp P Q a V) : code.wp P Q a V0 := h V0 rfl
theorem chg_row {S : Nat → Prop} {a w : World} {b : Nat} {cs : Array Value} (h : Chg S a w) (hb : a.heap.size ≤ b) : Chg S a (w.setRow b cs) :=
  h.then (S' := (· = b)) ⟨rfl, rfl, rfl, by simp, fun k _ hk => setRow_other w b k cs hk⟩ (fun j hj e => by omega)
theorem Blk.row {w : World} {b b' : Nat} {t : TypeId} {cs : List Value} {xs : Array Value} (h : Blk w b t cs) (hne : b ≠ b') : Blk (w.setRow b' xs) b t cs := h.kept (setRow_other w b' b xs hne)
theorem Blk.rowNew {w : World} {b : Nat} {t : TypeId} {cs xs : List Value} (h : Blk w b t cs) : Blk (w.setRow b xs.toArray) b t xs := setRow_heap w b _ _ _ _ h
theorem Blk.range {w : World} {b : Nat} {t : TypeId} {cs : List Value} (h : Blk w b t cs) : w.rangeAt b 0 cs := fun j v hv => by rw [Nat.zero_add]; exact h.cell j hv

/-! Short names for what stands in each step of a region that draws its order. -/
theorem nG (a : Act) (d : Option Nat) (v : Value) : a.put d v = match d with | some t => { a with tmps := a.tmps.setIfInBounds t v } | none => a := by cases d <;> rfl
theorem nA {α : Type} {xs : List α} {i : Nat} (h : i < xs.toArray.size) : xs.toArray[i] = xs[i]'(by simpa using h) := rfl
theorem nB {α : Type} {a : α} {xs : List α} {i : Nat} (h : i + 1 < (a :: xs).length) : (a :: xs)[i + 1] = xs[i]'(by simpa using h) := rfl
theorem nC {α : Type} {a : α} {xs : List α} (h : 0 < (a :: xs).length) : (a :: xs)[0] = a := rfl
theorem nD {α : Type} {l : List α} {i : Nat} {a : α} : l.toArray.setIfInBounds i a = (l.set i a).toArray := List.setIfInBounds_toArray _ _ _
theorem nE {α : Type} {x a : α} {xs : List α} : (x :: xs).set 0 a = a :: xs := rfl
theorem nF {α : Type} {x a : α} {xs : List α} {n : Nat} : (x :: xs).set (n + 1) a = x :: xs.set n a := rfl
section
variable {P : Program} {ops : Array Oper} {Q : Exit → Act → World → Prop} {md : Region.Mode} {S : World → Prop} {fuel : Nat} {listed : Array Bool} {a : Act} {w : World} {o : Oper}
/-- Number i may be taken, and is wanted. -/
theorem tk (i : Nat) {v : Value} (hi : ops[i]? = some o) (hb : (Region.noSelect ops && Region.free md ops listed i && (Region.ready md ops listed).contains i && Region.wanted o (yielded ops a.tmps)) = true) (hS : S w)
    (hy : ∀ w, S w → (execOp a.eval o).run P w = .ok (.value v) w) (h : wpAnyH P md ops Q S fuel (listed.setIfInBounds i true) (a.put o.dst v) w) (hQ : ∀ c a w, Q (.panic c) (a.put o.dst v) w → Q (.panic c) a w := by exact fun _ _ _ h => h) : wpAnyH P md ops Q S (fuel + 1) listed a w := by
  simp only [Bool.and_eq_true] at hb
  exact wpAnyH_take hi hb.1.1.1 hb.1.1.2 hb.1.2 hQ (.inl ⟨hb.2, hy⟩) hS h
/-- Number i may be taken, and is not wanted. -/
theorem sk (i : Nat) (hi : ops[i]? = some o) (hb : (Region.noSelect ops && Region.free md ops listed i && (Region.ready md ops listed).contains i && !Region.wanted o (yielded ops a.tmps)) = true) (hS : S w)
    (h : wpAnyH P md ops Q S fuel (listed.setIfInBounds i true) (a.put o.dst undef) w) (hQ : ∀ c a w, Q (.panic c) (a.put o.dst undef) w → Q (.panic c) a w := by exact fun _ _ _ h => h) : wpAnyH P md ops Q S (fuel + 1) listed a w := by
  simp only [Bool.and_eq_true, Bool.not_eq_true'] at hb
  exact wpAnyH_take hi hb.1.1.1 hb.1.1.2 hb.1.2 hQ (.inr ⟨hb.2, rfl⟩) hS h
/-- Number i may be taken, and is wanted; what stands behind it, told plainly. -/
theorem tp (i : Nat) {v : Value} {l' : Array Bool} {a' : Act} (hS : S w) (h : wpAnyH P md ops Q S fuel l' a' w) (hi : ops[i]? = some o := by rfl) (hb : (Region.noSelect ops && Region.free md ops listed i && (Region.ready md ops listed).contains i && Region.wanted o (yielded ops a.tmps)) = true := by kernel_rfl)
    (hy : ∀ w, S w → (execOp a.eval o).run P w = .ok (.value v) w := by intro W hW; go_simp; try rfl) (hl : listed.setIfInBounds i true = l' := by first | (simp only [nA,nB,nC,Act.put,nD,nE,nF]; done) | (simp only [nA,nB,nC,Act.put,nD,nE,nF]; rfl)) (ha : a.put o.dst v = a' := by first | (simp only [nA,nB,nC,Act.put,nD,nE,nF]; done) | (simp only [nA,nB,nC,Act.put,nD,nE,nF]; rfl)) (hQ : ∀ c a w, Q (.panic c) (a.put o.dst v) w → Q (.panic c) a w := by exact fun _ _ _ h => h) : wpAnyH P md ops Q S (fuel + 1) listed a w :=
  tk i hi hb hS hy (by rw [hl, ha]; exact h) hQ
/-- The same; its value is told by what S says. -/
theorem tq (i : Nat) {v : Value} {l' : Array Bool} {a' : Act} {R : World → Prop} (hS : S w) (hR : ∀ W, S W → R W) (h : wpAnyH P md ops Q S fuel l' a' w) (hi : ops[i]? = some o := by rfl) (hb : (Region.noSelect ops && Region.free md ops listed i && (Region.ready md ops listed).contains i && Region.wanted o (yielded ops a.tmps)) = true := by kernel_rfl)
    (hy : ∀ w, R w → (execOp a.eval o).run P w = .ok (.value v) w := by intro W q; go_simp; try rfl) (hl : listed.setIfInBounds i true = l' := by first | (simp only [nA,nB,nC,Act.put,nD,nE,nF]; done) | (simp only [nA,nB,nC,Act.put,nD,nE,nF]; rfl)) (ha : a.put o.dst v = a' := by first | (simp only [nA,nB,nC,Act.put,nD,nE,nF]; done) | (simp only [nA,nB,nC,Act.put,nD,nE,nF]; rfl)) (hQ : ∀ c a w, Q (.panic c) (a.put o.dst v) w → Q (.panic c) a w := by exact fun _ _ _ h => h) : wpAnyH P md ops Q S (fuel + 1) listed a w :=
  tk i hi hb hS (fun w hw => hy w (hR w hw)) (by rw [hl, ha]; exact h) hQ
/-- Number i may be taken, and is not wanted. -/
theorem sp (i : Nat) {l' : Array Bool} {a' : Act} (hS : S w) (h : wpAnyH P md ops Q S fuel l' a' w) (hi : ops[i]? = some o := by rfl) (hb : (Region.noSelect ops && Region.free md ops listed i && (Region.ready md ops listed).contains i && !Region.wanted o (yielded ops a.tmps)) = true := by kernel_rfl)
    (hl : listed.setIfInBounds i true = l' := by first | (simp only [nA,nB,nC,Act.put,nD,nE,nF]; done) | (simp only [nA,nB,nC,Act.put,nD,nE,nF]; rfl)) (ha : a.put o.dst undef = a' := by first | (simp only [nA,nB,nC,Act.put,nD,nE,nF]; done) | (simp only [nA,nB,nC,Act.put,nD,nE,nF]; rfl)) (hQ : ∀ c a w, Q (.panic c) (a.put o.dst undef) w → Q (.panic c) a w := by exact fun _ _ _ h => h) : wpAnyH P md ops Q S (fuel + 1) listed a w :=
  sk i hi hb hS (by rw [hl, ha]; exact h) hQ
end

def five (w : World) (cs ts es rs us : List Value) : World := ((((w.alloc (.cells cs.toArray 115)).alloc (.cells ts.toArray 105)).alloc (.cells es.toArray 31)).alloc (.cells rs.toArray 115)).alloc (.cells us.toArray 105)
def clZ : List Value := [.int .i64 0, .int .i64 0, .int .i64 0, .int .i64 0, .int .u64 0, .int .u64 0, .int .u64 0, .int .u64 0, .int .u64 0, .int .i64 0, .bool false, .bool false, .int .u64 0, .int .u64 0, .int .i64 0]
def rtZ : List Value := [.int .u64 0, .bool false, .int .u64 0, .int .u64 0, .int .u64 0, .bool false, .bool false, .bool false]

def clC' (c : Cl) : List Value := [.int .i64 c.bg.kind, .int .i64 c.bg.thr, .int .i64 c.bg.call, .int .i64 c.bg.what, .int .u64 c.bg.id, .int .u64 c.bg.gen, .int .u64 c.bg.dl, .int .u64 c.bg.per, .int .u64 c.bg.tk, .int .i64 c.bg.err, .bool c.opn, .bool c.done, .int .u64 c.id, .int .u64 c.gen, .int .i64 c.err]
theorem clC_eq (c : Cl) : clC c = clC' c := rfl

/-- While a function of the machine runs: its boxes of the call's row, the timer's, the event, and of what it answers; the machine; what has changed. -/
structure Loc (w : World) (bm : Nat) (ms : List Value) (bc : Nat) (cs ts es : List Value) (bs : Option (List Value)) (W : World) : Prop where
  size : w.heap.size = bc
  c : Blk W bc 115 cs
  t : Blk W (bc + 1) 105 ts
  e : Blk W (bc + 1 + 1) 31 es
  rc : ∃ xs : List Value, xs.length = 15 ∧ Blk W (bc + 1 + 1 + 1) 115 xs
  rt : ∃ xs : List Value, xs.length = 8 ∧ Blk W (bc + 1 + 1 + 1 + 1) 105 xs
  m : Blk W bm 91 ms
  lt : bm < bc
  chg : Chg (· = bm) w W
  b : ∀ xs, bs = some xs → Blk W (bc + 1 + 1 + 1 + 1 + 1) 31 xs

theorem Blk.newAt (w : World) (t : TypeId) (cs : List Value) {b : Nat} (h : w.heap.size = b) : Blk (w.alloc (.cells cs.toArray t)) b t cs := h ▸ Blk.new w t cs
theorem loc_five {w w0 : World} {bm : Nat} {ms : List Value} (hm : Blk w0 bm 91 ms) (hc : Chg (· = bm) w w0) (hs : w.heap.size = w0.heap.size) (cs ts es : List Value) : Loc w bm ms w0.heap.size cs ts es none (five w0 cs ts es clZ rtZ) where
  size := hs
  c := ((((Blk.newAt _ _ _ rfl).alloc _).alloc _).alloc _).alloc _
  t := (((Blk.newAt _ _ _ (by simp)).alloc _).alloc _).alloc _
  e := ((Blk.newAt _ _ _ (by simp)).alloc _).alloc _
  rc := ⟨clZ, rfl, (Blk.newAt _ _ _ (by simp)).alloc _⟩
  rt := ⟨rtZ, rfl, Blk.newAt _ _ _ (by simp)⟩
  m := ((((hm.alloc _).alloc _).alloc _).alloc _).alloc _
  lt := hm.lt
  chg := ((((hc.trans (Chg.alloc _ _ _)).trans (Chg.alloc _ _ _)).trans (Chg.alloc _ _ _)).trans (Chg.alloc _ _ _)).trans (Chg.alloc _ _ _)
  b := fun _ h => nomatch h

theorem five_size (w : World) (cs ts es rs us : List Value) : (five w cs ts es rs us).heap.size = w.heap.size + 1 + 1 + 1 + 1 + 1 := by simp [five]
section
variable {w W : World} {bm bc : Nat} {ms cs ts es : List Value} {bs : Option (List Value)}
theorem Loc.setC (h : Loc w bm ms bc cs ts es bs W) {xs : List Value} (hx : xs.length = 15) : Loc w bm ms bc cs ts es bs (W.setRow (bc + 1 + 1 + 1) xs.toArray) := by
  obtain ⟨r, _, hr⟩ := h.rc
  obtain ⟨u, hu, hru⟩ := h.rt
  exact ⟨h.size, h.c.row (by omega), h.t.row (by omega), h.e.row (by omega), ⟨xs, hx, hr.rowNew⟩, ⟨u, hu, hru.row (by omega)⟩, h.m.row (by have := h.lt; omega), h.lt, chg_row h.chg (by have := h.size; omega), fun _ e => (h.b _ e).row (by omega)⟩
theorem Loc.setT (h : Loc w bm ms bc cs ts es bs W) {xs : List Value} (hx : xs.length = 8) : Loc w bm ms bc cs ts es bs (W.setRow (bc + 1 + 1 + 1 + 1) xs.toArray) := by
  obtain ⟨r, hr, hrr⟩ := h.rc
  obtain ⟨u, hu, hru⟩ := h.rt
  exact ⟨h.size, h.c.row (by omega), h.t.row (by omega), h.e.row (by omega), ⟨r, hr, hrr.row (by omega)⟩, ⟨xs, hx, hru.rowNew⟩, h.m.row (by have := h.lt; omega), h.lt, chg_row h.chg (by have := h.size; omega), fun _ e => (h.b _ e).row (by omega)⟩
theorem Blk.setFar {b b' i : Nat} {v : Value} {t : TypeId} {cs : List Value} (h : Blk W b t cs) (hne : b ≠ b') : Blk (W.setCell ⟨b', i, none⟩ v) b t cs := h.chg (Chg.set (S := (· = b')) W ⟨b', i, none⟩ v rfl) hne
theorem Loc.below (h : Loc w bm ms bc cs ts es bs W) {W' : World} (hb : Below W.heap.size W W') : Loc w bm ms bc cs ts es bs W' := by
  have k : ∀ {b t xs}, Blk W b t xs → Blk W' b t xs := fun h => h.kept (hb.block _ h.lt)
  exact ⟨h.size, k h.c, k h.t, k h.e, h.rc.imp fun _ h => ⟨h.1, k h.2⟩, h.rt.imp fun _ h => ⟨h.1, k h.2⟩, k h.m, h.lt, h.chg.then (S' := fun _ => False) ⟨hb.os, hb.tape, hb.output, hb.size, fun i hi _ => hb.block i hi⟩ (fun _ _ h => h.elim), fun _ e => k (h.b _ e)⟩
/-- A cell of the machine is stored. -/
theorem Loc.setM (h : Loc w bm ms bc cs ts es bs W) (i : Nat) (v : Value) : Loc w bm (ms.set i v) bc cs ts es bs (W.setCell ⟨bm, i, none⟩ v) := by
  have := h.lt
  exact ⟨h.size, h.c.setFar (by omega), h.t.setFar (by omega), h.e.setFar (by omega), h.rc.imp fun _ h => ⟨h.1, h.2.setFar (by omega)⟩, h.rt.imp fun _ h => ⟨h.1, h.2.setFar (by omega)⟩, h.m.set i v, h.lt, h.chg.then (S' := (· = bm)) (Chg.set (S := (· = bm)) W ⟨bm, i, none⟩ v rfl) (fun _ _ e => e), fun _ e => (h.b _ e).setFar (by omega)⟩
/-- A cell of the call's box is stored. -/
theorem Loc.setB (h : Loc w bm ms bc cs ts es bs W) (i : Nat) (v : Value) : Loc w bm ms bc (cs.set i v) ts es bs (W.setCell ⟨bc, i, none⟩ v) := by
  have := h.lt
  exact ⟨h.size, h.c.set i v, h.t.setFar (by omega), h.e.setFar (by omega), h.rc.imp fun _ h => ⟨h.1, h.2.setFar (by omega)⟩, h.rt.imp fun _ h => ⟨h.1, h.2.setFar (by omega)⟩, h.m.setFar (by omega), h.lt, h.chg.then (S' := (· = bc)) (Chg.set (S := (· = bc)) W ⟨bc, i, none⟩ v rfl) (fun j hj e => by have := h.size; omega), fun _ e => (h.b _ e).setFar (by omega)⟩
/-- A cell of the timer's box is stored. -/
theorem Loc.setU (h : Loc w bm ms bc cs ts es bs W) (i : Nat) (v : Value) : Loc w bm ms bc cs (ts.set i v) es bs (W.setCell ⟨bc + 1, i, none⟩ v) := by
  have := h.lt
  exact ⟨h.size, h.c.setFar (by omega), h.t.set i v, h.e.setFar (by omega), h.rc.imp fun _ h => ⟨h.1, h.2.setFar (by omega)⟩, h.rt.imp fun _ h => ⟨h.1, h.2.setFar (by omega)⟩, h.m.setFar (by omega), h.lt, h.chg.then (S' := (· = bc + 1)) (Chg.set (S := (· = bc + 1)) W ⟨bc + 1, i, none⟩ v rfl) (fun j hj e => by have := h.size; omega), fun _ e => (h.b _ e).setFar (by omega)⟩
/-- A box more: what the call began with. -/
theorem Loc.six (h : Loc w bm ms bc cs ts es none W) (xs : List Value) (hs : W.heap.size = bc + 1 + 1 + 1 + 1 + 1) : Loc w bm ms bc cs ts es (some xs) (W.alloc (.cells xs.toArray 31)) :=
  have k := h.below ((Below.refl _ W).alloc (Nat.le_refl _) (.cells xs.toArray 31))
  ⟨k.size, k.c, k.t, k.e, k.rc, k.rt, k.m, k.lt, k.chg, fun _ e => by cases e; exact Blk.newAt _ _ _ hs⟩
/-- What a call of another function of the machine may have changed. -/
theorem Loc.after (h : Loc w bm ms bc cs ts es bs W) {W' : World} {ms' : List Value} (hm : Blk W' bm 91 ms') (hc : Chg (· = bm) W W') : Loc w bm ms' bc cs ts es bs W' := by
  have := h.lt
  exact ⟨h.size, h.c.chg hc (by omega), h.t.chg hc (by omega), h.e.chg hc (by omega), h.rc.imp fun _ h => ⟨h.1, h.2.chg hc (by omega)⟩, h.rt.imp fun _ h => ⟨h.1, h.2.chg hc (by omega)⟩, hm, h.lt, h.chg.trans hc, fun _ e => (h.b _ e).chg hc (by omega)⟩
theorem Loc.drew (h : Loc w bm ms bc cs ts es bs W) : Loc w bm ms bc cs ts es bs W.drew :=
  ⟨h.size, h.c.drew, h.t.drew, h.e.drew, h.rc.imp fun _ h => ⟨h.1, h.2.drew⟩, h.rt.imp fun _ h => ⟨h.1, h.2.drew⟩, h.m.drew, h.lt, h.chg.drew, fun _ e => (h.b _ e).drew⟩
theorem Loc.drewN (h : Loc w bm ms bc cs ts es bs W) (n : Nat) : Loc w bm ms bc cs ts es bs (W.drewN n) :=
  ⟨h.size, h.c.drewN n, h.t.drewN n, h.e.drewN n, h.rc.imp fun _ h => ⟨h.1, h.2.drewN n⟩, h.rt.imp fun _ h => ⟨h.1, h.2.drewN n⟩, h.m.drewN n, h.lt, h.chg.undrewN n, fun _ e => (h.b _ e).drewN n⟩
theorem Loc.loadC {c : Cl} (h : Loc w bm ms bc (clC' c) ts es bs W) : (Instr.loadAt 115 (.pointer (some ⟨bc, 0, none⟩))).run Try.prog W = .ok (clV c) W :=
  run_loadAt_mid W bc 0 115 (clC' c) _ h.c.range Try.underlying115 rfl (by kernel_rfl)
theorem Loc.loadT {t : RT} (h : Loc w bm ms bc cs (rtC t) es bs W) : (Instr.loadAt 105 (.pointer (some ⟨bc + 1, 0, none⟩))).run Try.prog W = .ok (rtV t) W :=
  run_loadAt_mid W (bc + 1) 0 105 (rtC t) _ h.t.range Try.underlying105 rfl (by kernel_rfl)
theorem Loc.loadE {e : Ev} (h : Loc w bm ms bc cs ts (evC e) bs W) : (Instr.loadAt 31 (.pointer (some ⟨bc + 1 + 1, 0, none⟩))).run Try.prog W = .ok (evV e) W :=
  run_loadAt_mid W (bc + 1 + 1) 0 31 (evC e) _ h.e.range Try.underlying31 rfl (by kernel_rfl)
theorem storeAt_row {P : Program} {W : World} {g : Nat} {t ty : TypeId} {old cells : Array Value} (hg : W.heap[g]? = some (.cells old t (0, 0))) (hi : (P.info? ty).map (·.size) = some cells.size)
    (ho : old.size = cells.size) (h1 : cells.all (·.oneCell') = true) : (Instr.storeAt ty (.pointer (some ⟨g, 0, none⟩)) (.agg cells)).run P W = .ok () (W.setRow g cells) := by
  simp only [Instr.storeAt, Instr.sureAddr, Sem.run_bind, Sem.run_pure, Result.andThen_ok, run_storeVar_row W g t ty old cells hg hi ho h1]
theorem Loc.storeC (h : Loc w bm ms bc cs ts es bs W) (c : Cl) : (Instr.storeAt 115 (.pointer (some ⟨bc + 1 + 1 + 1, 0, none⟩)) (clV c)).run Try.prog W = .ok () (W.setRow (bc + 1 + 1 + 1) (clC' c).toArray) := by
  obtain ⟨r, hr, hrr⟩ := h.rc
  exact storeAt_row (cells := (clC' c).toArray) hrr (by kernel_rfl) (by simp [hr, clC']) (all_oneCell_toArray (by simp [clC', Value.oneCell']))
theorem Loc.storeT (h : Loc w bm ms bc cs ts es bs W) (t : RT) : (Instr.storeAt 105 (.pointer (some ⟨bc + 1 + 1 + 1 + 1, 0, none⟩)) (rtV t)).run Try.prog W = .ok () (W.setRow (bc + 1 + 1 + 1 + 1) (rtC t).toArray) := by
  obtain ⟨r, hr, hrr⟩ := h.rt
  exact storeAt_row (cells := (rtC t).toArray) hrr (by kernel_rfl) (by simp [hr, rtC]) (all_oneCell_toArray (by simp [rtC, Value.oneCell']))
section
variable {Q : Exit → Act → World → Prop} {md : Region.Mode} {ops : Array Oper} {fuel : Nat} {listed : Array Bool} {a : Act}
theorem Loc.takeC {c : Cl} (i : Nat) {o : Oper} {x : Operand} (hi : ops[i]? = some o) (hs : Region.noSelect ops = true) (hf : Region.free md ops listed i = true) (hr : (Region.ready md ops listed).contains i = true)
    (hw : Region.wanted o (yielded ops a.tmps) = true) (ho : o.op = .load 115 x) (hx : a.eval x = .pointer (some ⟨bc, 0, none⟩))
    (hQ : ∀ e a w, Q (.panic e) (a.put o.dst (clV c)) w → Q (.panic e) a w) (hS : Loc w bm ms bc (clC' c) ts es bs W)
    (h : wpAnyH Try.prog md ops Q (Loc w bm ms bc (clC' c) ts es bs) fuel (listed.setIfInBounds i true) (a.put o.dst (clV c)) W) : wpAnyH Try.prog md ops Q (Loc w bm ms bc (clC' c) ts es bs) (fuel + 1) listed a W :=
  wpAnyH_take hi hs hf hr hQ (yieldsIf_load_mid hw 115 x ho bc 0 hx (clC' c) _ (fun _ h => h.c.range) Try.underlying115 rfl (by kernel_rfl)) hS h
theorem Loc.takeT {t : RT} (i : Nat) {o : Oper} {x : Operand} (hi : ops[i]? = some o) (hs : Region.noSelect ops = true) (hf : Region.free md ops listed i = true) (hr : (Region.ready md ops listed).contains i = true)
    (hw : Region.wanted o (yielded ops a.tmps) = true) (ho : o.op = .load 105 x) (hx : a.eval x = .pointer (some ⟨bc + 1, 0, none⟩))
    (hQ : ∀ e a w, Q (.panic e) (a.put o.dst (rtV t)) w → Q (.panic e) a w) (hS : Loc w bm ms bc cs (rtC t) es bs W)
    (h : wpAnyH Try.prog md ops Q (Loc w bm ms bc cs (rtC t) es bs) fuel (listed.setIfInBounds i true) (a.put o.dst (rtV t)) W) : wpAnyH Try.prog md ops Q (Loc w bm ms bc cs (rtC t) es bs) (fuel + 1) listed a W :=
  wpAnyH_take hi hs hf hr hQ (yieldsIf_load_mid hw 105 x ho (bc + 1) 0 hx (rtC t) _ (fun _ h => h.t.range) Try.underlying105 rfl (by kernel_rfl)) hS h
theorem Loc.takeE {e : Ev} (i : Nat) {o : Oper} {x : Operand} (hi : ops[i]? = some o) (hs : Region.noSelect ops = true) (hf : Region.free md ops listed i = true) (hr : (Region.ready md ops listed).contains i = true)
    (hw : Region.wanted o (yielded ops a.tmps) = true) (ho : o.op = .load 31 x) (hx : a.eval x = .pointer (some ⟨bc + 1 + 1, 0, none⟩))
    (hQ : ∀ k a w, Q (.panic k) (a.put o.dst (evV e)) w → Q (.panic k) a w) (hS : Loc w bm ms bc cs ts (evC e) bs W)
    (h : wpAnyH Try.prog md ops Q (Loc w bm ms bc cs ts (evC e) bs) fuel (listed.setIfInBounds i true) (a.put o.dst (evV e)) W) : wpAnyH Try.prog md ops Q (Loc w bm ms bc cs ts (evC e) bs) (fuel + 1) listed a W :=
  wpAnyH_take hi hs hf hr hQ (yieldsIf_load_mid hw 31 x ho (bc + 1 + 1) 0 hx (evC e) _ (fun _ h => h.e.range) Try.underlying31 rfl (by kernel_rfl)) hS h
theorem Loc.takeB {x0 : Ev} (i : Nat) {o : Oper} {x : Operand} (hi : ops[i]? = some o) (hs : Region.noSelect ops = true) (hf : Region.free md ops listed i = true) (hr : (Region.ready md ops listed).contains i = true)
    (hw : Region.wanted o (yielded ops a.tmps) = true) (ho : o.op = .load 31 x) (hx : a.eval x = .pointer (some ⟨bc + 1 + 1 + 1 + 1 + 1, 0, none⟩))
    (hQ : ∀ k a w, Q (.panic k) (a.put o.dst (evV x0)) w → Q (.panic k) a w) (hS : Loc w bm ms bc cs ts es (some (evC x0)) W)
    (h : wpAnyH Try.prog md ops Q (Loc w bm ms bc cs ts es (some (evC x0))) fuel (listed.setIfInBounds i true) (a.put o.dst (evV x0)) W) : wpAnyH Try.prog md ops Q (Loc w bm ms bc cs ts es (some (evC x0))) (fuel + 1) listed a W :=
  wpAnyH_take hi hs hf hr hQ (yieldsIf_load_mid hw 31 x ho (bc + 1 + 1 + 1 + 1 + 1) 0 hx (evC x0) _ (fun _ h => (h.b _ rfl).range) Try.underlying31 rfl (by kernel_rfl)) hS h
theorem tkC {c : Cl} (i : Nat) {o : Oper} {x : Operand} {l' : Array Bool} {a' : Act} (hS : Loc w bm ms bc (clC' c) ts es bs W) (h : wpAnyH Try.prog md ops Q (Loc w bm ms bc (clC' c) ts es bs) fuel l' a' W) (hi : ops[i]? = some o := by rfl) (hs : Region.noSelect ops = true := by kernel_rfl) (hf : Region.free md ops listed i = true := by kernel_rfl)
    (hr : (Region.ready md ops listed).contains i = true := by kernel_rfl) (hw : Region.wanted o (yielded ops a.tmps) = true := by kernel_rfl) (ho : o.op = .load 115 x := by rfl) (hx : a.eval x = .pointer (some ⟨bc, 0, none⟩) := by kernel_rfl)
    (hl : listed.setIfInBounds i true = l' := by first | (simp only [nA,nB,nC,Act.put,nD,nE,nF]; done) | (simp only [nA,nB,nC,Act.put,nD,nE,nF]; rfl)) (ha : a.put o.dst (clV c) = a' := by first | (simp only [nA,nB,nC,Act.put,nD,nE,nF]; done) | (simp only [nA,nB,nC,Act.put,nD,nE,nF]; rfl)) (hQ : ∀ k a w, Q (.panic k) (a.put o.dst (clV c)) w → Q (.panic k) a w := by exact fun _ _ _ h => h) : wpAnyH Try.prog md ops Q (Loc w bm ms bc (clC' c) ts es bs) (fuel + 1) listed a W :=
  Loc.takeC i hi hs hf hr hw ho hx hQ hS (by rw [hl, ha]; exact h)
theorem tkT {t : RT} (i : Nat) {o : Oper} {x : Operand} {l' : Array Bool} {a' : Act} (hS : Loc w bm ms bc cs (rtC t) es bs W) (h : wpAnyH Try.prog md ops Q (Loc w bm ms bc cs (rtC t) es bs) fuel l' a' W) (hi : ops[i]? = some o := by rfl) (hs : Region.noSelect ops = true := by kernel_rfl) (hf : Region.free md ops listed i = true := by kernel_rfl)
    (hr : (Region.ready md ops listed).contains i = true := by kernel_rfl) (hw : Region.wanted o (yielded ops a.tmps) = true := by kernel_rfl) (ho : o.op = .load 105 x := by rfl) (hx : a.eval x = .pointer (some ⟨bc + 1, 0, none⟩) := by kernel_rfl)
    (hl : listed.setIfInBounds i true = l' := by first | (simp only [nA,nB,nC,Act.put,nD,nE,nF]; done) | (simp only [nA,nB,nC,Act.put,nD,nE,nF]; rfl)) (ha : a.put o.dst (rtV t) = a' := by first | (simp only [nA,nB,nC,Act.put,nD,nE,nF]; done) | (simp only [nA,nB,nC,Act.put,nD,nE,nF]; rfl)) (hQ : ∀ k a w, Q (.panic k) (a.put o.dst (rtV t)) w → Q (.panic k) a w := by exact fun _ _ _ h => h) : wpAnyH Try.prog md ops Q (Loc w bm ms bc cs (rtC t) es bs) (fuel + 1) listed a W :=
  Loc.takeT i hi hs hf hr hw ho hx hQ hS (by rw [hl, ha]; exact h)
theorem tkE {e : Ev} (i : Nat) {o : Oper} {x : Operand} {l' : Array Bool} {a' : Act} (hS : Loc w bm ms bc cs ts (evC e) bs W) (h : wpAnyH Try.prog md ops Q (Loc w bm ms bc cs ts (evC e) bs) fuel l' a' W) (hi : ops[i]? = some o := by rfl) (hs : Region.noSelect ops = true := by kernel_rfl) (hf : Region.free md ops listed i = true := by kernel_rfl)
    (hr : (Region.ready md ops listed).contains i = true := by kernel_rfl) (hw : Region.wanted o (yielded ops a.tmps) = true := by kernel_rfl) (ho : o.op = .load 31 x := by rfl) (hx : a.eval x = .pointer (some ⟨bc + 1 + 1, 0, none⟩) := by kernel_rfl)
    (hl : listed.setIfInBounds i true = l' := by first | (simp only [nA,nB,nC,Act.put,nD,nE,nF]; done) | (simp only [nA,nB,nC,Act.put,nD,nE,nF]; rfl)) (ha : a.put o.dst (evV e) = a' := by first | (simp only [nA,nB,nC,Act.put,nD,nE,nF]; done) | (simp only [nA,nB,nC,Act.put,nD,nE,nF]; rfl)) (hQ : ∀ k a w, Q (.panic k) (a.put o.dst (evV e)) w → Q (.panic k) a w := by exact fun _ _ _ h => h) : wpAnyH Try.prog md ops Q (Loc w bm ms bc cs ts (evC e) bs) (fuel + 1) listed a W :=
  Loc.takeE i hi hs hf hr hw ho hx hQ hS (by rw [hl, ha]; exact h)
theorem tkB {x0 : Ev} (i : Nat) {o : Oper} {x : Operand} {l' : Array Bool} {a' : Act} (hS : Loc w bm ms bc cs ts es (some (evC x0)) W) (h : wpAnyH Try.prog md ops Q (Loc w bm ms bc cs ts es (some (evC x0))) fuel l' a' W) (hi : ops[i]? = some o := by rfl) (hs : Region.noSelect ops = true := by kernel_rfl) (hf : Region.free md ops listed i = true := by kernel_rfl)
    (hr : (Region.ready md ops listed).contains i = true := by kernel_rfl) (hw : Region.wanted o (yielded ops a.tmps) = true := by kernel_rfl) (ho : o.op = .load 31 x := by rfl) (hx : a.eval x = .pointer (some ⟨bc + 1 + 1 + 1 + 1 + 1, 0, none⟩) := by kernel_rfl)
    (hl : listed.setIfInBounds i true = l' := by first | (simp only [nA,nB,nC,Act.put,nD,nE,nF]; done) | (simp only [nA,nB,nC,Act.put,nD,nE,nF]; rfl)) (ha : a.put o.dst (evV x0) = a' := by first | (simp only [nA,nB,nC,Act.put,nD,nE,nF]; done) | (simp only [nA,nB,nC,Act.put,nD,nE,nF]; rfl)) (hQ : ∀ k a w, Q (.panic k) (a.put o.dst (evV x0)) w → Q (.panic k) a w := by exact fun _ _ _ h => h) : wpAnyH Try.prog md ops Q (Loc w bm ms bc cs ts es (some (evC x0))) (fuel + 1) listed a W :=
  Loc.takeB i hi hs hf hr hw ho hx hQ hS (by rw [hl, ha]; exact h)
theorem list_take {P : Program} {ops : Array Oper} {Q : Exit → Act → World → Prop} {rest : List Oper} {o : Oper} {a : Act} {w : World} (v : Value) (hw : Region.wanted o (yielded ops a.tmps) = true) (hx : (execOp a.eval o).run P w = .ok (.value v) w)
    (h : wpList P ops Q rest (a.put o.dst v) w) : wpList P ops Q (o :: rest) a w := by
  unfold wpList
  rw [if_pos hw]
  refine .inl ?_
  unfold Oper.wp
  rw [hx]
  exact h
theorem Loc.listC {Q : Exit → Act → World → Prop} {ops : Array Oper} {rest : List Oper} {o : Oper} {x y : Operand} {a : Act} (hS : Loc w bm ms bc cs ts es bs W) (c : Cl) (hg : o.guard = none) (ho : o.op = .store 115 x y) (hx : a.eval x = .pointer (some ⟨bc + 1 + 1 + 1, 0, none⟩)) (hy : a.eval y = clV c)
    (h : wpList Try.prog ops Q rest (a.put o.dst undef) (W.setRow (bc + 1 + 1 + 1) (clC' c).toArray)) : wpList Try.prog ops Q (o :: rest) a W := by
  obtain ⟨r, hr1, hr2⟩ := hS.rc
  exact wpList_store_row hg _ x y ho (bc + 1 + 1 + 1) (clC' c).toArray hx hy _ _ hr2 (by kernel_rfl) (by simp [hr1, clC']) (all_oneCell_toArray (by simp [clC', Value.oneCell'])) h
theorem Loc.listT {Q : Exit → Act → World → Prop} {ops : Array Oper} {rest : List Oper} {o : Oper} {x y : Operand} {a : Act} (hS : Loc w bm ms bc cs ts es bs W) (t : RT) (hg : o.guard = none) (ho : o.op = .store 105 x y) (hx : a.eval x = .pointer (some ⟨bc + 1 + 1 + 1 + 1, 0, none⟩)) (hy : a.eval y = rtV t)
    (h : wpList Try.prog ops Q rest (a.put o.dst undef) (W.setRow (bc + 1 + 1 + 1 + 1) (rtC t).toArray)) : wpList Try.prog ops Q (o :: rest) a W := by
  obtain ⟨r, hr1, hr2⟩ := hS.rt
  exact wpList_store_row hg _ x y ho (bc + 1 + 1 + 1 + 1) (rtC t).toArray hx hy _ _ hr2 (by kernel_rfl) (by simp [hr1, rtC]) (all_oneCell_toArray (by simp [rtC, Value.oneCell'])) h
theorem Loc.putC (k : Nat) (c : Cl) {o : Oper} {x y : Operand} (hr : Region.ready md ops listed = [k]) (ho : ops[k]? = some o) (hw : Region.wanted o (yielded ops a.tmps) = true) (hop : o.op = .store 115 x y)
    (hx : a.eval x = .pointer (some ⟨bc + 1 + 1 + 1, 0, none⟩)) (hy : a.eval y = clV c) (hS : Loc w bm ms bc cs ts es bs W)
    (h : wpAnyH Try.prog md ops Q (Loc w bm ms bc cs ts es bs) fuel (listed.setIfInBounds k true) (a.put o.dst undef) (W.setRow (bc + 1 + 1 + 1) (clC' c).toArray)) : wpAnyH Try.prog md ops Q (Loc w bm ms bc cs ts es bs) (fuel + 1) listed a W := by
  refine wpAnyH_ready hr (by simp) (AllReadyH.cons ho (fun K hK => ?_) AllReadyH.nil)
  rw [if_pos hw]
  obtain ⟨r, hr1, hr2⟩ := hS.rc
  exact wp_store_row _ x y hop (bc + 1 + 1 + 1) (clC' c).toArray hx hy _ _ hr2 (by kernel_rfl) (by simp [hr1, clC']) (all_oneCell_toArray (by simp [clC', Value.oneCell'])) (hK.out _ _ (hS.setC rfl) (fun _ => h))
theorem Loc.putT (k : Nat) (t : RT) {o : Oper} {x y : Operand} (hr : Region.ready md ops listed = [k]) (ho : ops[k]? = some o) (hw : Region.wanted o (yielded ops a.tmps) = true) (hop : o.op = .store 105 x y)
    (hx : a.eval x = .pointer (some ⟨bc + 1 + 1 + 1 + 1, 0, none⟩)) (hy : a.eval y = rtV t) (hS : Loc w bm ms bc cs ts es bs W)
    (h : wpAnyH Try.prog md ops Q (Loc w bm ms bc cs ts es bs) fuel (listed.setIfInBounds k true) (a.put o.dst undef) (W.setRow (bc + 1 + 1 + 1 + 1) (rtC t).toArray)) : wpAnyH Try.prog md ops Q (Loc w bm ms bc cs ts es bs) (fuel + 1) listed a W := by
  refine wpAnyH_ready hr (by simp) (AllReadyH.cons ho (fun K hK => ?_) AllReadyH.nil)
  rw [if_pos hw]
  obtain ⟨r, hr1, hr2⟩ := hS.rt
  exact wp_store_row _ x y hop (bc + 1 + 1 + 1 + 1) (rtC t).toArray hx hy _ _ hr2 (by kernel_rfl) (by simp [hr1, rtC]) (all_oneCell_toArray (by simp [rtC, Value.oneCell'])) (hK.out _ _ (hS.setT rfl) (fun _ => h))
/-- One of two stores may come up: never so here, but the assignment of the answer's truth may stand anywhere. -/
theorem held_put {S : World → Prop} (k : Nat) {o : Oper} {v : Value} (hr : Region.ready md ops listed = [k]) (ho : ops[k]? = some o) (hw : Region.wanted o (yielded ops a.tmps) = true)
    (hx : ∀ W, (execOp a.eval o).run Try.prog W = .ok (.value v) W) (hS : S W)
    (h : wpAnyH Try.prog md ops Q S fuel (listed.setIfInBounds k true) (a.put o.dst v) W) : wpAnyH Try.prog md ops Q S (fuel + 1) listed a W := by
  refine wpAnyH_ready hr (by simp) (AllReadyH.cons ho (fun K hK => ?_) AllReadyH.nil)
  rw [if_pos hw]
  unfold Oper.wp
  rw [hx]
  exact hK.out _ _ hS (fun _ => h)
end
/-- What lies in the boxes of the answer behind the two stores. -/
theorem Loc.gotC (h : Loc w bm ms bc cs ts es bs W) (c : Cl) (xs : Array Value) : (loadVar 115 ⟨bc + 1 + 1 + 1, 0, none⟩).run Try.prog ((W.setRow (bc + 1 + 1 + 1) (clC' c).toArray).setRow (bc + 1 + 1 + 1 + 1) xs) = .ok (clV c) ((W.setRow (bc + 1 + 1 + 1) (clC' c).toArray).setRow (bc + 1 + 1 + 1 + 1) xs) := by
  obtain ⟨r, hr, hrr⟩ := h.rc
  have hb : Blk ((W.setRow (bc + 1 + 1 + 1) (clC' c).toArray).setRow (bc + 1 + 1 + 1 + 1) xs) (bc + 1 + 1 + 1) 115 (clC' c) := hrr.rowNew.row (by omega)
  exact run_loadVar_mid _ (bc + 1 + 1 + 1) 0 115 (clC' c) _ hb.range Try.underlying115 rfl (by kernel_rfl)
theorem Loc.gotT (h : Loc w bm ms bc cs ts es bs W) (t : RT) (xs : List Value) : (loadVar 105 ⟨bc + 1 + 1 + 1 + 1, 0, none⟩).run Try.prog ((W.setRow (bc + 1 + 1 + 1) xs.toArray).setRow (bc + 1 + 1 + 1 + 1) (rtC t).toArray) = .ok (rtV t) ((W.setRow (bc + 1 + 1 + 1) xs.toArray).setRow (bc + 1 + 1 + 1 + 1) (rtC t).toArray) := by
  obtain ⟨r, hr, hrr⟩ := h.rt
  have hb : Blk ((W.setRow (bc + 1 + 1 + 1) xs.toArray).setRow (bc + 1 + 1 + 1 + 1) (rtC t).toArray) (bc + 1 + 1 + 1 + 1) 105 (rtC t) := (hrr.row (by omega)).rowNew
  exact run_loadVar_mid _ (bc + 1 + 1 + 1 + 1) 0 105 (rtC t) _ hb.range Try.underlying105 rfl (by kernel_rfl)
theorem results_loc {fn : Func} (h : fn.results = #[.cell 8 115, .cell 9 105, .tmp 10]) (tmps : Array Value) (V : World) (c : Cl) (t : RT) (ok : Bool) (p8 p9 : Addr) (a8 : tmps.getD 8 undef = .pointer (some p8)) (a9 : tmps.getD 9 undef = .pointer (some p9)) (a10 : tmps.getD 10 undef = .bool ok)
    (h1 : (loadVar 115 p8).run Try.prog V = .ok (clV c) V) (h2 : (loadVar 105 p9).run Try.prog V = .ok (rtV t) V) : (results fn tmps).run Try.prog V = .ok (.tuple #[clV c, rtV t, .bool ok]) V := by
  have b8 : tmps[8]?.getD undef = .pointer (some p8) := by simpa using a8
  have b9 : tmps[9]?.getD undef = .pointer (some p9) := by simpa using a9
  have b10 : tmps[10]?.getD undef = .bool ok := by simpa using a10
  simp only [clV, rtV] at h1 h2 ⊢
  simp [results, h, b8, b9, b10, asAddr, h1, h2]
theorem Loc.ends {R : Rm} {vc vt : Value} (h : Loc w bm (mcC R vc vt) bc cs ts es bs W) (c : Cl) (t : RT) : Blk ((W.setRow (bc + 1 + 1 + 1) (clC' c).toArray).setRow (bc + 1 + 1 + 1 + 1) (rtC t).toArray) bm 91 (mcC R vc vt) ∧ Chg (· = bm) w ((W.setRow (bc + 1 + 1 + 1) (clC' c).toArray).setRow (bc + 1 + 1 + 1 + 1) (rtC t).toArray) :=
  have h2 := (h.setC (xs := clC' c) rfl).setT (xs := rtC t) rfl
  ⟨h2.m, h2.chg⟩
end
end Go.Proofs.Ytpnkkdpggofanaa
