/- How spec's machine lies in memory, and what a change of one block does to it. -/
import Derived.Test.YtpnkkdpggofanaaChecked
import Derived.Test.YtpnkkdpggofanaaMach
namespace Go.Proofs.Ytpnkkdpggofanaa
open Go.RowKit

/-- Block b holds just the cells cs, of type t. -/
def Blk (w : World) (b : Nat) (t : TypeId) (cs : List Value) : Prop := w.heap[b]? = some (.cells cs.toArray t (0, 0))
abbrev ptrV (b : Nat) : Value := .pointer (some ⟨b, 0, none⟩)

theorem Blk.lt {w : World} {b : Nat} {t : TypeId} {cs : List Value} (h : Blk w b t cs) : b < w.heap.size := (Array.getElem?_eq_some_iff.1 h).1
theorem Blk.cell {w : World} {b : Nat} {t : TypeId} {cs : List Value} (h : Blk w b t cs) (i : Nat) {u : Value} (hu : cs[i]? = some u) : w.cell? ⟨b, i, none⟩ = some u := by
  rw [cell_of_row _ b i _ t (0, 0) h]; simpa using hu
theorem Blk.frozen {w : World} {b : Nat} {t : TypeId} {cs : List Value} (h : Blk w b t cs) (i : Nat) : w.frozen? ⟨b, i, none⟩ = false := by
  simp [World.frozen?, show w.heap[b]? = _ from h]
theorem Blk.set {w : World} {b : Nat} {t : TypeId} {cs : List Value} (h : Blk w b t cs) (i : Nat) (v : Value) : Blk (w.setCell ⟨b, i, none⟩ v) b t (cs.set i v) := by
  unfold Blk at *
  have hlt := (Array.getElem?_eq_some_iff.1 h).1
  have hget : w.heap[b]'hlt = .cells cs.toArray t (0, 0) := (Array.getElem?_eq_some_iff.1 h).2
  simp only [World.setCell]
  rw [Array.getElem?_modify]
  simp [hlt, hget]
theorem Blk.kept {w w' : World} {b : Nat} {t : TypeId} {cs : List Value} (h : Blk w b t cs) (hb : w'.heap[b]? = w.heap[b]?) : Blk w' b t cs := hb.trans h
theorem Blk.chg {S : Nat → Prop} {w w' : World} {b : Nat} {t : TypeId} {cs : List Value} (h : Blk w b t cs) (hc : Chg S w w') (hn : ¬ S b) : Blk w' b t cs := h.kept (hc.block b h.lt hn)
theorem Blk.new (w : World) (t : TypeId) (cs : List Value) : Blk (w.alloc (.cells cs.toArray t)) w.heap.size t cs := heap_alloc_new w _
theorem Blk.ne {w : World} {b b' : Nat} {t t' : TypeId} {cs cs' : List Value} (h : Blk w b t cs) (h' : Blk w b' t' cs') (ht : t ≠ t') : b ≠ b' := by
  rintro rfl
  have := h.symm.trans h'
  simp at this
  exact ht this.2
theorem Blk.ne_map {κ ν : Type} {enc : κ → Value} {encV : ν → Value} {w : World} {b b' : Nat} {t : TypeId} {cs : List Value} {m : List (κ × ν)} (h : Blk w b t cs) (h' : MapIs enc encV w b' m) : b ≠ b' := by
  rintro rfl
  obtain ⟨es, c, hb, _⟩ := h'
  have := h.symm.trans hb
  simp at this
theorem Blk.ne_row {w : World} {b : Nat} {t e : TypeId} {cs xs : List Value} {base size n : Nat} {v : Value} (h : Blk w b t cs) (h' : w.ownsRow base e size v n xs) (ht : t ≠ e) : v.ownBlock ≠ some b := by
  intro hv
  rcases h'.2 with ⟨rfl, _⟩ | ⟨g, cap, cur, rfl, _, hg, _⟩
  · simp [Value.ownBlock] at hv
  · simp [Value.ownBlock] at hv
    subst hv
    have := h.symm.trans hg
    simp at this
    exact ht this.2
theorem map_ne_row {κ ν : Type} {enc : κ → Value} {encV : ν → Value} {w : World} {b : Nat} {e : TypeId} {xs : List Value} {base size n : Nat} {v : Value} {m : List (κ × ν)} (h : MapIs enc encV w b m) (h' : w.ownsRow base e size v n xs) : v.ownBlock ≠ some b := by
  intro hv
  obtain ⟨es, c, hb, _⟩ := h
  rcases h'.2 with ⟨rfl, _⟩ | ⟨g, cap, cur, rfl, _, hg, _⟩
  · simp [Value.ownBlock] at hv
  · simp [Value.ownBlock] at hv
    subst hv
    have := hb.symm.trans hg
    simp at this

def evC (e : Ev) : List Value := [.int .i64 e.kind, .int .i64 e.thr, .int .i64 e.call, .int .i64 e.what, .int .u64 e.id, .int .u64 e.gen, .int .u64 e.dl, .int .u64 e.per, .int .u64 e.tk, .int .i64 e.err]
abbrev evV (e : Ev) : Value := .agg #[.int .i64 e.kind, .int .i64 e.thr, .int .i64 e.call, .int .i64 e.what, .int .u64 e.id, .int .u64 e.gen, .int .u64 e.dl, .int .u64 e.per, .int .u64 e.tk, .int .i64 e.err]
def clC (c : Cl) : List Value := evC c.bg ++ [.bool c.opn, .bool c.done, .int .u64 c.id, .int .u64 c.gen, .int .i64 c.err]
def tmC (t : Tm) : List Value := [.int .u64 t.gen, .int .u64 t.dl, .int .u64 t.per, .bool t.last, .bool t.armed, .bool t.btw]

/-- The machine, and where its parts lie. -/
structure Gm where
  room : Int
  now : Int
  closed : Bool
  ended : Bool
  closer : Int
  vc : Value
  cs : List (Nat × Cl)
  bo : Nat
  ba : Nat
  bl : Nat
  opn : List (Int × Bool)
  added : List (Int × Bool)
  lv : List (Int × Nat × Tm)
  cp : Value

def mC (G : Gm) : List Value := [.int .i64 G.room, .int .u64 G.now, .bool G.closed, .bool G.ended, .int .i64 G.closer, G.vc, .map (some G.bo), .map (some G.ba), .map (some G.bl), G.cp]
def Gm.ma (G : Gm) : Ma := ⟨G.room, G.now, G.closed, G.ended, G.closer, G.cs.map (·.2), G.opn, G.added, G.lv.map fun p => (p.1, p.2.2)⟩

structure Tm.wf (t : Tm) : Prop where
  gen : U64 t.gen
  dl : U64 t.dl
  per : U64 t.per
structure Cl.wf (c : Cl) : Prop where
  bg : c.bg.wf

abbrev liveV (p : Nat × Tm) : Value := ptrV p.1

structure Rep (B : Nat) (w : World) (bm : Nat) (G : Gm) : Prop where
  base : B ≤ bm ∧ B ≤ G.bo ∧ B ≤ G.ba ∧ B ≤ G.bl
  mach : Blk w bm 103 (mC G)
  calls : w.ownsRow B 101 1 G.vc G.cs.length (G.cs.map fun p => ptrV p.1)
  cl : ∀ p ∈ G.cs, Blk w p.1 126 (clC p.2) ∧ B ≤ p.1 ∧ p.2.wf
  clN : (G.cs.map (·.1)).Nodup
  opn : MapIs (Value.int .i64) Value.bool w G.bo G.opn
  added : MapIs (Value.int .u64) Value.bool w G.ba G.added
  live : MapIs (Value.int .u64) liveV w G.bl G.lv
  tm : ∀ p ∈ G.lv, Blk w p.2.1 151 (tmC p.2.2) ∧ B ≤ p.2.1 ∧ p.2.2.wf
  tmN : (G.lv.map (·.2.1)).Nodup
  oa : G.bo ≠ G.ba ∧ G.bo ≠ G.bl ∧ G.ba ≠ G.bl
  now : U64 G.now

theorem Chg.map {κ ν : Type} {enc : κ → Value} {encV : ν → Value} {S : Nat → Prop} {w w' : World} {b : Nat} {m : List (κ × ν)} (hc : Chg S w w') (h : MapIs enc encV w b m) (hn : ¬ S b) : MapIs enc encV w' b m := h.kept (hc.block b h.lt hn)

/-- What turned is none of the machine's. -/
theorem Rep.chg {B : Nat} {w w' : World} {bm : Nat} {G : Gm} {S : Nat → Prop} (h : Rep B w bm G) (hc : Chg S w w') (hS : ∀ k, k < w.heap.size → ¬ S k) : Rep B w' bm G :=
  ⟨h.base, h.mach.chg hc (hS _ h.mach.lt), hc.owns h.calls (fun k hk => hS _ (h.calls.lt k hk).2), fun p hp => ⟨(h.cl p hp).1.chg hc (hS _ (h.cl p hp).1.lt), (h.cl p hp).2⟩, h.clN, hc.map h.opn (hS _ h.opn.lt),
    hc.map h.added (hS _ h.added.lt), hc.map h.live (hS _ h.live.lt), fun p hp => ⟨(h.tm p hp).1.chg hc (hS _ (h.tm p hp).1.lt), (h.tm p hp).2⟩, h.tmN, h.oa, h.now⟩
theorem Rep.below {B : Nat} {w w' : World} {bm : Nat} {G : Gm} (h : Rep B w bm G) (hc : Below w.heap.size w w') : Rep B w' bm G :=
  h.chg (S := fun k => w.heap.size ≤ k) (Chg.of_below hc (fun k _ h => h)) (fun k hk h => by omega)
theorem Rep.alloc {B : Nat} {w : World} {bm : Nat} {G : Gm} (h : Rep B w bm G) (o : Obj) : Rep B (w.alloc o) bm G :=
  h.chg (Chg.alloc (fun _ => False) w o) (fun _ _ h => h)
theorem Rep.drewN {B : Nat} {w : World} {bm : Nat} {G : Gm} (h : Rep B w bm G) (n : Nat) : Rep B (w.drewN n) bm G :=
  h.below (below_drewN (Below.refl _ _) n)

theorem Rep.drew {B : Nat} {w : World} {bm : Nat} {G : Gm} (h : Rep B w bm G) : Rep B w.drew bm G := h.below ((Below.refl _ _).drew)
theorem Blk.drew {w : World} {b : Nat} {t : TypeId} {cs : List Value} (h : Blk w b t cs) : Blk w.drew b t cs := h
theorem Blk.alloc {w : World} {b : Nat} {t : TypeId} {cs : List Value} (h : Blk w b t cs) (o : Obj) : Blk (w.alloc o) b t cs := h.kept (Below.heap_alloc w o b h.lt)

/-- A field of the machine's own turned. -/
theorem Rep.mset {B : Nat} {w w' : World} {bm : Nat} {G : Gm} (h : Rep B w bm G) (hc : Chg (· = bm) w w') {room now : Int} {closed ended : Bool} {closer : Int} {cp : Value} (hn : U64 now)
    (hb : Blk w' bm 103 (mC { G with room := room, now := now, closed := closed, ended := ended, closer := closer, cp := cp })) : Rep B w' bm { G with room := room, now := now, closed := closed, ended := ended, closer := closer, cp := cp } :=
  ⟨h.base, hb, hc.owns h.calls (fun _ hk e => h.mach.ne_row h.calls (by decide) (e ▸ hk)), fun p hp => ⟨(h.cl p hp).1.chg hc (fun e => (h.cl p hp).1.ne h.mach (by decide) e), (h.cl p hp).2⟩, h.clN,
    hc.map h.opn (fun e => h.mach.ne_map h.opn e.symm), hc.map h.added (fun e => h.mach.ne_map h.added e.symm), hc.map h.live (fun e => h.mach.ne_map h.live e.symm),
    fun p hp => ⟨(h.tm p hp).1.chg hc (fun e => (h.tm p hp).1.ne h.mach (by decide) e), (h.tm p hp).2⟩, h.tmN, h.oa, hn⟩

theorem nodup_fst_unique {α β : Type} : ∀ {l : List (α × β)}, (l.map (·.1)).Nodup → ∀ {p q : α × β}, p ∈ l → q ∈ l → p.1 = q.1 → p = q
  | [], _, p, q, hp, _, _ => by simp at hp
  | a :: l, h, p, q, hp, hq, he => by
    simp only [List.map_cons, List.nodup_cons] at h
    simp only [List.mem_cons] at hp hq
    rcases hp with rfl | hp <;> rcases hq with rfl | hq
    · rfl
    · exact absurd (List.mem_map.2 ⟨q, hq, he.symm⟩) h.1
    · exact absurd (List.mem_map.2 ⟨p, hp, he⟩) h.1
    · exact nodup_fst_unique h.2 hp hq he
theorem nodup_blk_unique {l : List (Int × Nat × Tm)} (h : (l.map (·.2.1)).Nodup) {p q : Int × Nat × Tm} (hp : p ∈ l) (hq : q ∈ l) (he : p.2.1 = q.2.1) : p = q := by
  have h2 : ((l.map fun p => (p.2.1, p)).map (·.1)).Nodup := by simpa [List.map_map, Function.comp_def] using h
  have := nodup_fst_unique h2 (List.mem_map.2 ⟨p, hp, rfl⟩) (List.mem_map.2 ⟨q, hq, rfl⟩) he
  exact congrArg Prod.snd this

/-- A call's block turned. -/
theorem Rep.cset {B : Nat} {w w' : World} {bm : Nat} {G : Gm} (h : Rep B w bm G) {i b : Nat} {c c' : Cl} (hi : G.cs[i]? = some (b, c)) (hc : Chg (· = b) w w') (hb : Blk w' b 126 (clC c')) (hw : c'.wf) :
    Rep B w' bm { G with cs := G.cs.set i (b, c') } := by
  have hm : (b, c) ∈ G.cs := List.mem_of_getElem? hi
  have hB := h.cl _ hm
  have hlt := (List.getElem?_eq_some_iff.1 hi).1
  have hblk : (G.cs.set i (b, c')).map (·.1) = G.cs.map (·.1) := by
    apply List.ext_getElem?
    intro j
    simp only [List.getElem?_map, List.getElem?_set]
    by_cases hj : i = j
    · subst hj; have := (List.getElem?_eq_some_iff.1 hi).2; simp [hlt, this]
    · simp [hj]
  have hcs : (G.cs.set i (b, c')).map (fun p => ptrV p.1) = G.cs.map (fun p => ptrV p.1) := by
    have := congrArg (List.map ptrV) hblk
    simpa [List.map_map, Function.comp_def] using this
  refine ⟨h.base, h.mach.chg hc (fun e => hB.1.ne h.mach (by decide) e.symm), ?_, fun p hp => ?_, by rw [show ({ G with cs := G.cs.set i (b, c') } : Gm).cs = G.cs.set i (b, c') from rfl, hblk]; exact h.clN, hc.map h.opn (fun e => hB.1.ne_map h.opn e.symm),
    hc.map h.added (fun e => hB.1.ne_map h.added e.symm), hc.map h.live (fun e => hB.1.ne_map h.live e.symm), fun p hp => ⟨(h.tm p hp).1.chg hc (fun e => (h.tm p hp).1.ne hB.1 (by decide) e), (h.tm p hp).2⟩, h.tmN, h.oa, h.now⟩
  · show w'.ownsRow B _ 1 G.vc (G.cs.set i (b, c')).length ((G.cs.set i (b, c')).map (fun p => ptrV p.1))
    rw [hcs, List.length_set]
    exact hc.owns h.calls (fun _ hk e => hB.1.ne_row h.calls (by decide) (e ▸ hk))
  · obtain ⟨j, hj, hp'⟩ := List.mem_iff_getElem.1 (show p ∈ G.cs.set i (b, c') from hp)
    rw [List.getElem_set] at hp'
    by_cases hij : i = j
    · rw [if_pos hij] at hp'; subst hp'; exact ⟨hb, hB.2.1, hw⟩
    · rw [if_neg hij] at hp'
      have hp2 : p ∈ G.cs := by rw [← hp']; exact List.getElem_mem _
      refine ⟨(h.cl p hp2).1.chg hc ?_, (h.cl p hp2).2⟩
      intro e
      have hne : G.cs[j]'(by simpa using hj) = p := hp'
      have h2 : p = (b, c) := nodup_fst_unique h.clN hp2 hm e
      have hgi : G.cs[i]'hlt = (b, c) := (List.getElem?_eq_some_iff.1 hi).2
      have hnd := List.pairwise_iff_getElem.1 h.clN
      rcases Nat.lt_or_gt_of_ne hij with hl | hl
      · have := hnd i j (by simpa using hlt) (by simpa using hj) hl
        simp only [List.getElem_map, hne, hgi, h2] at this
        exact this rfl
      · have := hnd j i (by simpa using hj) (by simpa using hlt) hl
        simp only [List.getElem_map, hne, hgi, h2] at this
        exact this rfl

section
variable {κ ν : Type} [DecidableEq κ]
theorem aput_mem {m : List (κ × ν)} (hn : (m.map (·.1)).Nodup) {k : κ} {v : ν} {p : κ × ν} (hp : p ∈ aput m k v) : p = (k, v) ∨ (p ∈ m ∧ p.1 ≠ k) := by
  have h1 := (aget_mem (aput_nodup hn k v)).2 (show (p.1, p.2) ∈ aput m k v from hp)
  rw [aget_put] at h1
  by_cases h : p.1 = k
  · rw [if_pos h] at h1; left; obtain ⟨a, b⟩ := p; simp at h h1; simp [h, h1]
  · rw [if_neg h] at h1; exact .inr ⟨(aget_mem hn).1 h1, h⟩
theorem adel_mem {m : List (κ × ν)} (hn : (m.map (·.1)).Nodup) {k : κ} {p : κ × ν} (hp : p ∈ adel m k) : p ∈ m ∧ p.1 ≠ k := by
  have h1 := (aget_mem (adel_nodup hn k)).2 (show (p.1, p.2) ∈ adel m k from hp)
  rw [aget_del hn] at h1
  by_cases h : p.1 = k
  · rw [if_pos h] at h1; cases h1
  · rw [if_neg h] at h1; exact ⟨(aget_mem hn).1 h1, h⟩
theorem aput_map {ν' : Type} (f : ν → ν') (m : List (κ × ν)) (k : κ) (v : ν) : (aput m k v).map (fun p => (p.1, f p.2)) = aput (m.map fun p => (p.1, f p.2)) k (f v) := by
  induction m with
  | nil => rfl
  | cons p m ih =>
    simp only [aput, List.map_cons]
    by_cases h : k = p.1
    · simp [h]
    · simp only [h, if_false, List.map_cons, ih]
theorem adel_map {ν' : Type} (f : ν → ν') (m : List (κ × ν)) (k : κ) : (adel m k).map (fun p => (p.1, f p.2)) = adel (m.map fun p => (p.1, f p.2)) k := by
  induction m with
  | nil => rfl
  | cons p m ih =>
    simp only [adel, List.map_cons]
    by_cases h : k = p.1
    · simp [h]
    · simp only [h, if_false, List.map_cons, ih]
theorem aget_map {ν' : Type} (f : ν → ν') (m : List (κ × ν)) (k : κ) : aget (m.map fun p => (p.1, f p.2)) k = (aget m k).map f := by
  induction m with
  | nil => rfl
  | cons p m ih =>
    simp only [aget, List.map_cons]
    by_cases h : k = p.1
    · simp [h]
    · simp only [h, if_false, ih]
/-- What stands for an element may stay the same while the element turns. -/
theorem aput_same {γ : Type} (f : ν → γ) {m : List (κ × ν)} {k : κ} {v v' : ν} (hg : aget m k = some v) (hf : f v' = f v) : (aput m k v').map (fun p => (p.1, f p.2)) = m.map (fun p => (p.1, f p.2)) := by
  induction m with
  | nil => simp [aget] at hg
  | cons p m ih =>
    simp only [aget] at hg
    simp only [aput]
    by_cases h : k = p.1
    · rw [if_pos h] at hg ⊢; cases hg; simp [h, hf]
    · rw [if_neg h] at hg ⊢; simp [ih hg]
theorem adel_sub' (m : List (κ × ν)) (k : κ) : (adel m k).Sublist m := by
  induction m with
  | nil => exact List.Sublist.refl _
  | cons p m ih =>
    simp only [adel]
    by_cases h : k = p.1
    · rw [if_pos h]; exact List.sublist_cons_self _ _
    · rw [if_neg h]; exact ih.cons_cons _
end

/-- A timer's block turned. -/
theorem Rep.tset {B : Nat} {w w' : World} {bm : Nat} {G : Gm} (h : Rep B w bm G) {k : Int} {b : Nat} {t t' : Tm} (hi : aget G.lv k = some (b, t)) (hc : Chg (· = b) w w') (hb : Blk w' b 151 (tmC t')) (hw : t'.wf) :
    Rep B w' bm { G with lv := aput G.lv k (b, t') } := by
  have hm : (k, b, t) ∈ G.lv := (aget_mem h.live.nodup).1 hi
  have hB := h.tm _ hm
  have hsame := aput_same (fun p : Nat × Tm => p.1) (v' := (b, t')) hi rfl
  refine ⟨h.base, h.mach.chg hc (fun e => hB.1.ne h.mach (by decide) e.symm), hc.owns h.calls (fun _ hk e => hB.1.ne_row h.calls (by decide) (e ▸ hk)), fun p hp => ⟨(h.cl p hp).1.chg hc (fun e => hB.1.ne (h.cl p hp).1 (by decide) e.symm), (h.cl p hp).2⟩, h.clN,
    hc.map h.opn (fun e => hB.1.ne_map h.opn e.symm), hc.map h.added (fun e => hB.1.ne_map h.added e.symm), ?_, fun p hp => ?_, ?_, h.oa, h.now⟩
  · obtain ⟨es, cl, h1, h2, h3, h4, h5⟩ := hc.map h.live (fun e => hB.1.ne_map h.live e.symm)
    refine ⟨es, cl, h1, h2.trans ?_, aput_nodup h3 _ _, h4, h5⟩
    have := congrArg (List.map fun p : Int × Nat => (Value.int .u64 p.1, ptrV p.2)) hsame
    simpa [List.map_map, Function.comp_def] using this.symm
  · rcases aput_mem h.live.nodup hp with rfl | ⟨hp, hne⟩
    · exact ⟨hb, hB.2.1, hw⟩
    · refine ⟨(h.tm p hp).1.chg hc ?_, (h.tm p hp).2⟩
      intro e
      exact hne (congrArg Prod.fst (nodup_blk_unique h.tmN hp hm e))
  · have := congrArg (List.map Prod.snd) hsame
    have h2 : (aput G.lv k (b, t')).map (·.2.1) = G.lv.map (·.2.1) := by simpa [List.map_map, Function.comp_def] using this
    show ((aput G.lv k (b, t')).map (·.2.1)).Nodup
    rw [h2]; exact h.tmN

/-- The map of the live ones lost a key. -/
theorem Rep.ldel {B : Nat} {w w' : World} {bm : Nat} {G : Gm} (h : Rep B w bm G) {k : Int} (hc : Chg (· = G.bl) w w') (hl : MapIs (Value.int .u64) liveV w' G.bl (adel G.lv k)) :
    Rep B w' bm { G with lv := adel G.lv k } :=
  ⟨h.base, h.mach.chg hc (h.mach.ne_map h.live), hc.owns h.calls (fun _ hk e => map_ne_row h.live h.calls (e ▸ hk)), fun p hp => ⟨(h.cl p hp).1.chg hc ((h.cl p hp).1.ne_map h.live), (h.cl p hp).2⟩, h.clN,
    hc.map h.opn h.oa.2.1, hc.map h.added h.oa.2.2, hl, fun p hp => ⟨(h.tm p (adel_mem h.live.nodup hp).1).1.chg hc ((h.tm p (adel_mem h.live.nodup hp).1).1.ne_map h.live), (h.tm p (adel_mem h.live.nodup hp).1).2⟩,
    h.tmN.sublist ((adel_sub' G.lv k).map _), h.oa, h.now⟩

theorem aput_blocks : ∀ (l : List (Int × Nat × Tm)) (k : Int) (b : Nat) (t : Tm), (l.map (·.2.1)).Nodup → (∀ p ∈ l, p.2.1 ≠ b) → ((aput l k (b, t)).map (·.2.1)).Nodup ∧ ∀ x ∈ (aput l k (b, t)).map (·.2.1), x = b ∨ x ∈ l.map (·.2.1)
  | [], k, b, t, _, _ => by simp [aput]
  | p :: l, k, b, t, h, hn => by
    simp only [List.map_cons, List.nodup_cons] at h
    by_cases hk : k = p.1
    · rw [show aput (p :: l) k (b, t) = (k, b, t) :: l by simp [aput, hk]]
      simp only [List.map_cons, List.nodup_cons, List.mem_cons]
      refine ⟨⟨fun hm => ?_, h.2⟩, fun x hx => hx.elim .inl (fun h => .inr (.inr h))⟩
      obtain ⟨q, hq, he⟩ := List.mem_map.1 hm
      exact hn q (List.mem_cons_of_mem _ hq) he
    · have ih := aput_blocks l k b t h.2 (fun q hq => hn q (List.mem_cons_of_mem _ hq))
      rw [show aput (p :: l) k (b, t) = p :: aput l k (b, t) by simp [aput, hk]]
      simp only [List.map_cons, List.nodup_cons, List.mem_cons]
      refine ⟨⟨fun hm => ?_, ih.1⟩, fun x hx => hx.elim (fun h => .inr (.inl h)) (fun h => (ih.2 x h).elim .inl (fun h => .inr (.inr h)))⟩
      rcases ih.2 _ hm with h1 | h1
      · exact hn p (List.mem_cons_self ..) h1
      · exact h.1 h1
/-- The map of the live ones got a new key, with a new timer. -/
theorem Rep.lput {B : Nat} {w w' : World} {bm : Nat} {G : Gm} (h : Rep B w bm G) {k : Int} {b : Nat} {t : Tm} (hnew : ∀ p ∈ G.lv, p.2.1 ≠ b) (hb : Blk w b 151 (tmC t)) (hB : B ≤ b) (hw : t.wf) (hc : Chg (· = G.bl) w w') (hl : MapIs (Value.int .u64) liveV w' G.bl (aput G.lv k (b, t))) :
    Rep B w' bm { G with lv := aput G.lv k (b, t) } :=
  ⟨h.base, h.mach.chg hc (h.mach.ne_map h.live), hc.owns h.calls (fun _ hk e => map_ne_row h.live h.calls (e ▸ hk)), fun p hp => ⟨(h.cl p hp).1.chg hc ((h.cl p hp).1.ne_map h.live), (h.cl p hp).2⟩, h.clN,
    hc.map h.opn h.oa.2.1, hc.map h.added h.oa.2.2, hl, fun p hp => by
      rcases aput_mem h.live.nodup hp with rfl | ⟨hp, _⟩
      · exact ⟨hb.chg hc (hb.ne_map h.live), hB, hw⟩
      · exact ⟨(h.tm p hp).1.chg hc ((h.tm p hp).1.ne_map h.live), (h.tm p hp).2⟩, (aput_blocks G.lv k b t h.tmN hnew).1, h.oa, h.now⟩

/-- The map of those that are open turned. -/
theorem Rep.oset {B : Nat} {w w' : World} {bm : Nat} {G : Gm} (h : Rep B w bm G) {o : List (Int × Bool)} (hc : Chg (· = G.bo) w w') (hl : MapIs (Value.int .i64) Value.bool w' G.bo o) : Rep B w' bm { G with opn := o } :=
  ⟨h.base, h.mach.chg hc (h.mach.ne_map h.opn), hc.owns h.calls (fun _ hk e => map_ne_row h.opn h.calls (e ▸ hk)), fun p hp => ⟨(h.cl p hp).1.chg hc ((h.cl p hp).1.ne_map h.opn), (h.cl p hp).2⟩, h.clN,
    hl, hc.map h.added h.oa.1.symm, hc.map h.live h.oa.2.1.symm, fun p hp => ⟨(h.tm p hp).1.chg hc ((h.tm p hp).1.ne_map h.opn), (h.tm p hp).2⟩, h.tmN, h.oa, h.now⟩
/-- The map of those that were added turned. -/
theorem Rep.aset {B : Nat} {w w' : World} {bm : Nat} {G : Gm} (h : Rep B w bm G) {o : List (Int × Bool)} (hc : Chg (· = G.ba) w w') (hl : MapIs (Value.int .u64) Value.bool w' G.ba o) : Rep B w' bm { G with added := o } :=
  ⟨h.base, h.mach.chg hc (h.mach.ne_map h.added), hc.owns h.calls (fun _ hk e => map_ne_row h.added h.calls (e ▸ hk)), fun p hp => ⟨(h.cl p hp).1.chg hc ((h.cl p hp).1.ne_map h.added), (h.cl p hp).2⟩, h.clN,
    hc.map h.opn h.oa.1, hl, hc.map h.live h.oa.2.2.symm, fun p hp => ⟨(h.tm p hp).1.chg hc ((h.tm p hp).1.ne_map h.added), (h.tm p hp).2⟩, h.tmN, h.oa, h.now⟩

/-- A call came: its block is new, the slice is written anew into the machine. -/
theorem Rep.cpush {B : Nat} {w w' : World} {bm : Nat} {G : Gm} (h : Rep B w bm G) {b : Nat} {c : Cl} {v : Value} {S : Nat → Prop} (hc : Chg S w w') (hS : ∀ k, k < w.heap.size → S k → k = bm ∨ G.vc.ownBlock = some k)
    (hm : Blk w' bm 103 (mC { G with vc := v })) (hv : w'.ownsRow B 101 1 v (G.cs.length + 1) ((G.cs.map fun p => ptrV p.1) ++ [ptrV b])) (hb : Blk w' b 126 (clC c)) (hBb : B ≤ b) (hw : c.wf) (hnew : w.heap.size ≤ b) :
    Rep B w' bm { G with vc := v, cs := G.cs ++ [(b, c)] } := by
  have hn : ∀ k, k < w.heap.size → k ≠ bm → G.vc.ownBlock ≠ some k → ¬ S k := fun k hk h1 h2 hs => (hS k hk hs).elim h1 h2
  refine ⟨h.base, hm, by simpa using hv, fun p hp => ?_, ?_, hc.map h.opn (hn _ h.opn.lt (fun e => h.mach.ne_map h.opn e.symm) (map_ne_row h.opn h.calls)), hc.map h.added (hn _ h.added.lt (fun e => h.mach.ne_map h.added e.symm) (map_ne_row h.added h.calls)),
    hc.map h.live (hn _ h.live.lt (fun e => h.mach.ne_map h.live e.symm) (map_ne_row h.live h.calls)), fun p hp => ⟨(h.tm p hp).1.chg hc (hn _ (h.tm p hp).1.lt ((h.tm p hp).1.ne h.mach (by decide)) ((h.tm p hp).1.ne_row h.calls (by decide))), (h.tm p hp).2⟩, h.tmN, h.oa, h.now⟩
  · rcases List.mem_append.1 hp with hp | hp
    · exact ⟨(h.cl p hp).1.chg hc (hn _ (h.cl p hp).1.lt ((h.cl p hp).1.ne h.mach (by decide)) ((h.cl p hp).1.ne_row h.calls (by decide))), (h.cl p hp).2⟩
    · simp at hp; subst hp; exact ⟨hb, hBb, hw⟩
  · show ((G.cs ++ [(b, c)]).map (·.1)).Nodup
    rw [List.map_append, List.nodup_append]
    refine ⟨h.clN, by simp, ?_⟩
    intro x hx y hy
    obtain ⟨p, hp, rfl⟩ := List.mem_map.1 hx
    simp at hy; subst hy
    have := (h.cl p hp).1.lt
    omega
end Go.Proofs.Ytpnkkdpggofanaa
