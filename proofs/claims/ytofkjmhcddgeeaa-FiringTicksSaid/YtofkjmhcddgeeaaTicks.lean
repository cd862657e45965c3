/- vergelaw12.FiringTicks: its walk: it returns true, and nothing that was there has turned. -/
import Derived.Test.YtofkjmhcddgeeaaAlive12
import Derived.Test.YtofkjmhcddgeeaaRefOf
namespace Go.Proofs.Ytofkjmhcddgeeaa
open Go.RowKit Go.Shelf

/-- What the map holds when k firings were met. -/
def TMet (a : List Fir) (k : Nat) (m : List (Int × Bool)) : Prop := ∀ q, aget m q = if (a.take k).any (fun g => decide (g.tk = q)) then some true else none
theorem TMet.step {a : List Fir} {k : Nat} {m : List (Int × Bool)} (h : TMet a k m) (hk : k < a.length) : TMet a (k + 1) (aput m a[k].tk true) := by
  intro q
  rw [aget_put, h q, take_snoc_list a k hk, List.any_append]
  by_cases hq : q = a[k].tk
  · simp [hq]
  · have : decide (a[k].tk = q) = false := decide_eq_false (fun e => hq e.symm)
    simp only [hq, if_false, List.any_cons, this, List.any_nil, Bool.or_false]
/-- How many firings are of the ticks of the first k. -/
def tickN (a : List Fir) (k : Nat) : Nat := (a.filter fun f => (a.take k).any fun g => decide (g.tk = f.tk)).length
theorem tickN_zero (a : List Fir) : tickN a 0 = 0 := by simp [tickN]
theorem tickN_le (a : List Fir) (k : Nat) : tickN a k ≤ a.length := List.length_filter_le _ _
theorem tickN_all (a : List Fir) : tickN a a.length = a.length := by
  unfold tickN
  rw [List.take_length]
  congr 1
  apply List.filter_eq_self.2
  intro f hf
  simp only [List.any_eq_true, decide_eq_true_eq]
  exact ⟨f, hf, rfl⟩
theorem filter_or {α : Type} (p q : α → Bool) (l : List α) (h : ∀ x, p x = true → q x = true → False) : (l.filter fun x => p x || q x).length = (l.filter p).length + (l.filter q).length := by
  induction l with
  | nil => simp
  | cons x l ih =>
    have := h x
    cases hp : p x <;> cases hq : q x <;> simp_all <;> omega
theorem tickN_old (a : List Fir) (k : Nat) (hk : k < a.length) (h : (a.take k).any (fun g => decide (g.tk = a[k].tk)) = true) : tickN a (k + 1) = tickN a k := by
  unfold tickN
  congr 1
  apply List.filter_congr
  intro f _
  rw [take_snoc_list a k hk, List.any_append]
  simp only [List.any_cons, List.any_nil, Bool.or_false]
  by_cases hf : a[k].tk = f.tk
  · rw [← hf, h]; simp
  · simp [hf]
theorem tickN_new (a : List Fir) (k : Nat) (hk : k < a.length) (h : (a.take k).any (fun g => decide (g.tk = a[k].tk)) = false) : tickN a (k + 1) = tickN a k + (a.filter fun f => f.tk == a[k].tk).length := by
  unfold tickN
  rw [← filter_or]
  · congr 1
    apply List.filter_congr
    intro f _
    rw [take_snoc_list a k hk, List.any_append]
    simp only [List.any_cons, List.any_nil, Bool.or_false]
    congr 1
    rw [Bool.eq_iff_iff]; simp; exact eq_comm
  · intro f h1 h2
    have : f.tk = a[k].tk := by simpa using h2
    rw [this] at h1
    rw [h1] at h; cases h

/-- What the loop leans on. -/
def TicksAt (w0 : World) (B bl bm : Nat) (a : List Fir) (k : Nat) (wr : World) : Prop :=
  LogIs B wr bl a ∧ (∃ m, MapIs (Value.int .u64) Value.bool wr bm m ∧ TMet a k m) ∧ Below w0.heap.size w0 wr
theorem TicksAt.later {w0 wr w' : World} {B bl bm k : Nat} {a : List Fir} (h : TicksAt w0 B bl bm a k wr) (hb : Below wr.heap.size wr w') : TicksAt w0 B bl bm a k w' := by
  obtain ⟨h1, ⟨m, hm, ht⟩, h3⟩ := h
  exact ⟨h1.later hb, ⟨m, hm.kept (hb.block bm hm.lt), ht⟩, h3.trans (hb.mono h3.size)⟩
theorem LogIs.putMap {B : Nat} {w w' : World} {bl bm : Nat} {l : List Fir} (h : LogIs B w bl l) (hm : ∃ es c, w.heap[bm]? = some (.map es c)) (hg : w.grownBy w' (some bm)) : LogIs B w' bl l := by
  obtain ⟨v, hbox, hown⟩ := h
  obtain ⟨es, c, hm⟩ := hm
  refine ⟨v, hbox.kept hg ?_, hown.kept hg (.inr ?_)⟩
  · intro e; cases e; rw [show w.heap[bl]? = _ from hbox] at hm; cases hm
  · intro e
    rcases hown.2 with ⟨rfl, _⟩ | ⟨g, cap, cur, rfl, _, hgg, _⟩
    · cases e
    · simp only [Value.ownBlock, Option.some.injEq] at e
      subst e; rw [hgg] at hm; cases hm
theorem TicksAt.lookup {w0 wr : World} {B bl bm k : Nat} {a : List Fir} (h : TicksAt w0 B bl bm a k wr) (q : Int) :
    (Instr.lookup 27 (.map (some bm)) (.int .u64 q) false).run Try.prog wr = .ok (.bool ((a.take k).any fun g => decide (g.tk = q))) wr := by
  obtain ⟨_, ⟨m, hm, ht⟩, _⟩ := h
  have := hm.run_lookup (keyLaw_int Try.underlying28) Try.underlying27 bool_zero q false
  rw [ht q] at this
  rw [this]
  cases (a.take k).any fun g => decide (g.tk = q) <;> rfl

theorem TicksAt.put {w0 wr w' : World} {B bl bm k : Nat} {a : List Fir} (hl : LogIs B wr bl a) {m : List (Int × Bool)} (hm : MapIs (Value.int .u64) Value.bool wr bm m) (ht : TMet a k m) (hb : Below w0.heap.size w0 wr) (hbm : w0.heap.size ≤ bm) (hk : k < a.length)
    (hm' : MapIs (Value.int .u64) Value.bool w' bm (aput m a[k].tk true)) (hg : wr.grownBy w' (some bm)) : TicksAt w0 B bl bm a (k + 1) w' := by
  refine ⟨hl.putMap ?_ hg, ⟨_, hm', ht.step hk⟩, hb.grown hg hb.size (fun j e => by cases e; exact hbm)⟩
  obtain ⟨es, c, h, _⟩ := hm
  exact ⟨es, c, h⟩
theorem filter_comm' (a : List Fir) (t i : Int) : decide (((a.filter fun f => f.tk == t).filter fun f => f.id == i) = ((a.filter fun f => f.id == i).filter fun f => f.tk == t)) = true := by
  rw [decide_eq_true_eq, List.filter_filter, List.filter_filter]
  apply List.filter_congr
  intro f _
  exact Bool.and_comm _ _

set_option maxHeartbeats 4000000 in
/-- It returns true. -/
theorem ticks_walk (a : List Fir) (v : Value) (w : World) (h1 : Reads w v a.length (a.flatMap firC)) (hn : a.length ≤ 9223372036854775807) :
    Calls Try.prog 3 #[v] w fun e w' => e = .returned (.bool true) ∧ Below w.heap.size w w' := by
  have hrd := hid h1
  obtain ⟨ao, c1, rfl, g1⟩ := h1.fir
  have H1 := hid g1
  clear g1 h1
  have hmm := @run_makeMap Try.prog
  by_cases hbig : 100 < a.length
  · go_enter Try.func3, Try.ntmps3
    go_wp2_with (go_at_call 8; refine (alive12_any _).mono ?_; rintro e w1 ⟨rfl, hb1⟩)
    go_ret
    exact ⟨rfl, hb1⟩
  · go_enter Try.func3, Try.ntmps3
    go_wp2_with (first | (go_at_call 8; refine (alive12_any _).mono ?_; rintro e w1 ⟨rfl, hb1⟩; have hz1 := hb1.size) | (go_at_call 9; refine (new_any _).mono ?_; rintro e w2 ⟨rfl, hbox2, hb2, hs2⟩))
    have hrd2 := (hrd.out.below hb1 (Nat.le_refl _)).below hb2 (Nat.le_refl _)
    refine (put_any w1.heap.size w1.heap.size [] a _ _ _ (by omega) hbox2 (World.ownsRow_nil _ _ _ _) hrd2 (by simp; omega)).mono ?_
    rintro e w3 ⟨rfl, hlog, hchg⟩
    have hz3 := hchg.size
    have hB3 : Below w.heap.size w w3 := (hb1.trans (hb2.mono (by omega))).trans ((hchg.below (B := w1.heap.size) (by omega) (fun k hk => by rcases hk with rfl | h; exact Nat.le_refl _; simp [Value.ownBlock] at h)).mono (by omega))
    have hlt3 : w1.heap.size < w3.heap.size := by omega
    have hTA : TicksAt w w1.heap.size w1.heap.size w3.heap.size a 0 (w3.alloc (.map #[] 0)) := by
      refine ⟨LogIs.later hlog ((Below.refl _ _).alloc (Nat.le_refl _) _), ⟨[], MapIs.made w3, fun q => by simp [aget]⟩, hB3.alloc (by omega) _⟩
    have HTA := hid hTA
    have hle3 : w.heap.size ≤ w3.heap.size := by omega
    clear hTA hB3 hlog hchg hrd2 hbox2 hb2 hb1
    go_wp2
    go_loopw [5, 6] (fun n i wr => ∃ k : Nat, k ≤ a.length ∧ i = .int .i64 k ∧ n = .int .i64 (tickN a k) ∧ TicksAt w w1.heap.size w1.heap.size w3.heap.size a k wr) (fun _ i _ => a.length - (intOf i).toNat)
    case atStart => exact ⟨0, by omega, rfl, by rw [tickN_zero]; rfl, HTA.out⟩
    case round =>
      obtain ⟨k, hk, rfl, rfl, hta⟩ := hrel
      have hnle := tickN_le a k
      by_cases hlt : k < a.length
      · obtain ⟨b, o, hao, g0, _⟩ := H1.out k _ (List.getElem?_eq_getElem hlt)
        have hb0 : b < w.heap.size := World.block_lt_of_cell? w _ g0
        clear g0
        obtain rfl := hao
        obtain ⟨ao', c', hv', hx'⟩ := (hrd.out.below hta.2.2 (Nat.le_refl _)).fir
        simp only [Value.slice.injEq] at hv'
        obtain ⟨rfl, _, rfl⟩ := hv'
        obtain ⟨b', o', hao, p0, p1, p2, p3⟩ := hx' k _ (List.getElem?_eq_getElem hlt)
        clear hx'
        simp only [Option.some.injEq, Addr.mk.injEq] at hao
        obtain ⟨rfl, rfl, _⟩ := hao
        have hlook := hta.lookup a[k].tk
        have hblt : b < wr.heap.size := World.block_lt_of_cell? wr _ p0
        have HT := hid hta
        have hbne : some b ≠ some w3.heap.size := by simp; omega
        clear hta p1 p2
        cases hmet : (a.take k).any (fun g => decide (g.tk = a[k].tk))
        · rw [hmet] at hlook
          have hnew := hid (tickN_new a k hlt hmet)
          have hnew2 := tickN_le a (k + 1)
          rw [hnew.out] at hnew2
          go_wp2_with (first | (go_at_call 11; refine (at_any w1.heap.size w1.heap.size a a[k].tk _ HT.out.1 (by omega)).mono ?_; rintro e w4 ⟨v4, rfl, hown4, hb4⟩; have hz4 := hb4.size; obtain ⟨bo4, cap4, rfl⟩ := owns_shape hown4; have q0 := (hb4.cell (p := ⟨b, o + k * 4, none⟩) hblt).trans p0; have q3 := (hb4.cell (p := ⟨b, o + k * 4 + 3, none⟩) hblt).trans p3) | (at_mapUpdate; obtain ⟨hl5, ⟨m5, hm5, ht5⟩, hbb5⟩ := (HT.out.later hb4); refine wpList_update _ rfl 27 _ _ _ rfl (keyLaw_int Try.underlying28) Try.underlying27 w3.heap.size m5 hm5 rfl a[k].tk rfl true rfl ?_; intro wx hmx hgx hsx; have hTX := hid (TicksAt.put hl5 hm5 ht5 hbb5 hle3 hlt hmx hgx); have r0 := hgx.cell (a := ⟨b, o + k * 4, none⟩) q0 hbne; have r3 := hgx.cell (a := ⟨b, o + k * 4 + 3, none⟩) q3 hbne; clear hl5 hm5 ht5 hbb5 hmx hgx))
          have HL := hid hTX.out.1
          have hxb : b < wx.heap.size := by omega
          have HK : Hid (∀ W, Below wx.heap.size wx W → W.cell? ⟨b, o + k * 4, none⟩ = some (.int .u64 a[k].id) ∧ W.cell? ⟨b, o + k * 4 + 3, none⟩ = some (.int .u64 a[k].tk) ∧ Below wx.heap.size wx W) := fun W hB => ⟨(hB.cell hxb).trans r0, (hB.cell hxb).trans r3, hB⟩
          have hcomm := hid (filter_comm' a a[k].tk a[k].id)
          clear r0 r3 q0 q3 p0 p3
          go_wp2
          go_region_held3 (fun W => W.cell? ⟨b, o + k * 4, none⟩ = some (.int .u64 a[k].id) ∧ W.cell? ⟨b, o + k * 4 + 3, none⟩ = some (.int .u64 a[k].tk) ∧ Below wx.heap.size wx W) ((exact HK.out _ (by (repeat' (first | (with_reducible exact Below.refl _ _) | (with_reducible assumption) | (with_reducible refine Below.alloc ?_ ?_ _) | (with_reducible refine Below.drew ?_) | (with_reducible refine below_drewN ?_ _) | (with_reducible refine Below.trans ?_ (Below.mono (by assumption) ?_)) | (with_reducible exact Nat.le_refl _) | omega | (simp at *; omega) | (simp; done))))))
            ((first | (go_at_call 11; refine (at_any w1.heap.size w1.heap.size a a[k].tk _ (HL.out.later (‹_ ∧ _ ∧ Below wx.heap.size wx _›.2.2)) (by omega)).mono ?_; rintro e W1 ⟨v1, rfl, hown1, hb1⟩; have hz1 := hb1.size) | (go_at_call 13; refine (refOf_any (a.filter fun f => f.tk == a[k].tk) v1 a[k].id _ ((Reads.of_owns hown1).below (by (repeat' (first | (with_reducible exact Below.refl _ _) | (with_reducible assumption) | (with_reducible refine Below.alloc ?_ ?_ _) | (with_reducible refine Below.drew ?_) | (with_reducible refine below_drewN ?_ _) | (with_reducible refine Below.trans ?_ (Below.mono (by assumption) ?_)) | (with_reducible exact Nat.le_refl _) | omega | (simp at *; omega) | (simp; done)))) (Nat.le_refl _)) (by have := List.length_filter_le (fun f : Fir => f.tk == a[k].tk) a; omega)).mono ?_; rintro e W2 ⟨v2, rfl, hown2, hb2⟩; have hz2 := hb2.size) | (go_at_call 15; refine (of_any w1.heap.size w1.heap.size a a[k].id _ (HL.out.later (‹_ ∧ _ ∧ Below wx.heap.size wx _›.2.2)) (by omega)).mono ?_; rintro e W3 ⟨v3, rfl, hown3, hb3⟩; have hz3 := hb3.size) | (go_at_call 14; refine (refAt_any (a.filter fun f => f.id == a[k].id) v3 a[k].tk _ ((Reads.of_owns hown3).below (by (repeat' (first | (with_reducible exact Below.refl _ _) | (with_reducible assumption) | (with_reducible refine Below.alloc ?_ ?_ _) | (with_reducible refine Below.drew ?_) | (with_reducible refine below_drewN ?_ _) | (with_reducible refine Below.trans ?_ (Below.mono (by assumption) ?_)) | (with_reducible exact Nat.le_refl _) | omega | (simp at *; omega) | (simp; done)))) (Nat.le_refl _)) (by have := List.length_filter_le (fun f : Fir => f.id == a[k].id) a; omega)).mono ?_; rintro e W4 ⟨v4, rfl, hown4, hb4⟩; have hz4 := hb4.size) | (go_at_call 12; refine (same_t ((a.filter fun f => f.tk == a[k].tk).filter fun f => f.id == a[k].id) ((a.filter fun f => f.id == a[k].id).filter fun f => f.tk == a[k].tk) _ _ _ ((Reads.of_owns hown2).below (by (repeat' (first | (with_reducible exact Below.refl _ _) | (with_reducible assumption) | (with_reducible refine Below.alloc ?_ ?_ _) | (with_reducible refine Below.drew ?_) | (with_reducible refine below_drewN ?_ _) | (with_reducible refine Below.trans ?_ (Below.mono (by assumption) ?_)) | (with_reducible exact Nat.le_refl _) | omega | (simp at *; omega) | (simp; done)))) (Nat.le_refl _)) ((Reads.of_owns hown4).below (by (repeat' (first | (with_reducible exact Below.refl _ _) | (with_reducible assumption) | (with_reducible refine Below.alloc ?_ ?_ _) | (with_reducible refine Below.drew ?_) | (with_reducible refine below_drewN ?_ _) | (with_reducible refine Below.trans ?_ (Below.mono (by assumption) ?_)) | (with_reducible exact Nat.le_refl _) | omega | (simp at *; omega) | (simp; done)))) (Nat.le_refl _)) (by have := List.length_filter_le (fun f : Fir => f.tk == a[k].tk) a; have := List.length_filter_le (fun f : Fir => f.id == a[k].id) (a.filter fun f => f.tk == a[k].tk); omega) (of_decide_eq_true hcomm.out)).mono ?_; rintro e W5 ⟨rfl, hb5⟩; have hz5 := hb5.size)))
          all_goals
            go_wp2
            exact ⟨⟨k + 1, by omega, by go_num, by rw [hnew.out]; go_num, hTX.out.later ‹_ ∧ _ ∧ Below wx.heap.size wx _›.2.2⟩, by simp [intOf]; omega⟩
        · rw [hmet] at hlook
          have hold := hid (tickN_old a k hlt hmet)
          go_wp2_with (at_mapUpdate; obtain ⟨hl5, ⟨m5, hm5, ht5⟩, hbb5⟩ := HT.out; refine wpList_update _ rfl 27 _ _ _ rfl (keyLaw_int Try.underlying28) Try.underlying27 w3.heap.size m5 hm5 rfl a[k].tk rfl true rfl ?_; intro wx hmx hgx hsx; have hTX := hid (TicksAt.put hl5 hm5 ht5 hbb5 hle3 hlt hmx hgx); have r0 := hgx.cell (a := ⟨b, o + k * 4, none⟩) p0 hbne; have r3 := hgx.cell (a := ⟨b, o + k * 4 + 3, none⟩) p3 hbne; clear hl5 hm5 ht5 hbb5 hmx hgx)
          have HL := hid hTX.out.1
          have hxb : b < wx.heap.size := by omega
          have HK : Hid (∀ W, Below wx.heap.size wx W → W.cell? ⟨b, o + k * 4, none⟩ = some (.int .u64 a[k].id) ∧ W.cell? ⟨b, o + k * 4 + 3, none⟩ = some (.int .u64 a[k].tk) ∧ Below wx.heap.size wx W) := fun W hB => ⟨(hB.cell hxb).trans r0, (hB.cell hxb).trans r3, hB⟩
          have hcomm := hid (filter_comm' a a[k].tk a[k].id)
          clear r0 r3 p0 p3
          go_wp2
          go_region_held3 (fun W => W.cell? ⟨b, o + k * 4, none⟩ = some (.int .u64 a[k].id) ∧ W.cell? ⟨b, o + k * 4 + 3, none⟩ = some (.int .u64 a[k].tk) ∧ Below wx.heap.size wx W) ((exact HK.out _ (by (repeat' (first | (with_reducible exact Below.refl _ _) | (with_reducible assumption) | (with_reducible refine Below.alloc ?_ ?_ _) | (with_reducible refine Below.drew ?_) | (with_reducible refine below_drewN ?_ _) | (with_reducible refine Below.trans ?_ (Below.mono (by assumption) ?_)) | (with_reducible exact Nat.le_refl _) | omega | (simp at *; omega) | (simp; done))))))
            ((first | (go_at_call 11; refine (at_any w1.heap.size w1.heap.size a a[k].tk _ (HL.out.later (‹_ ∧ _ ∧ Below wx.heap.size wx _›.2.2)) (by omega)).mono ?_; rintro e W1 ⟨v1, rfl, hown1, hb1⟩; have hz1 := hb1.size) | (go_at_call 13; refine (refOf_any (a.filter fun f => f.tk == a[k].tk) v1 a[k].id _ ((Reads.of_owns hown1).below (by (repeat' (first | (with_reducible exact Below.refl _ _) | (with_reducible assumption) | (with_reducible refine Below.alloc ?_ ?_ _) | (with_reducible refine Below.drew ?_) | (with_reducible refine below_drewN ?_ _) | (with_reducible refine Below.trans ?_ (Below.mono (by assumption) ?_)) | (with_reducible exact Nat.le_refl _) | omega | (simp at *; omega) | (simp; done)))) (Nat.le_refl _)) (by have := List.length_filter_le (fun f : Fir => f.tk == a[k].tk) a; omega)).mono ?_; rintro e W2 ⟨v2, rfl, hown2, hb2⟩; have hz2 := hb2.size) | (go_at_call 15; refine (of_any w1.heap.size w1.heap.size a a[k].id _ (HL.out.later (‹_ ∧ _ ∧ Below wx.heap.size wx _›.2.2)) (by omega)).mono ?_; rintro e W3 ⟨v3, rfl, hown3, hb3⟩; have hz3 := hb3.size) | (go_at_call 14; refine (refAt_any (a.filter fun f => f.id == a[k].id) v3 a[k].tk _ ((Reads.of_owns hown3).below (by (repeat' (first | (with_reducible exact Below.refl _ _) | (with_reducible assumption) | (with_reducible refine Below.alloc ?_ ?_ _) | (with_reducible refine Below.drew ?_) | (with_reducible refine below_drewN ?_ _) | (with_reducible refine Below.trans ?_ (Below.mono (by assumption) ?_)) | (with_reducible exact Nat.le_refl _) | omega | (simp at *; omega) | (simp; done)))) (Nat.le_refl _)) (by have := List.length_filter_le (fun f : Fir => f.id == a[k].id) a; omega)).mono ?_; rintro e W4 ⟨v4, rfl, hown4, hb4⟩; have hz4 := hb4.size) | (go_at_call 12; refine (same_t ((a.filter fun f => f.tk == a[k].tk).filter fun f => f.id == a[k].id) ((a.filter fun f => f.id == a[k].id).filter fun f => f.tk == a[k].tk) _ _ _ ((Reads.of_owns hown2).below (by (repeat' (first | (with_reducible exact Below.refl _ _) | (with_reducible assumption) | (with_reducible refine Below.alloc ?_ ?_ _) | (with_reducible refine Below.drew ?_) | (with_reducible refine below_drewN ?_ _) | (with_reducible refine Below.trans ?_ (Below.mono (by assumption) ?_)) | (with_reducible exact Nat.le_refl _) | omega | (simp at *; omega) | (simp; done)))) (Nat.le_refl _)) ((Reads.of_owns hown4).below (by (repeat' (first | (with_reducible exact Below.refl _ _) | (with_reducible assumption) | (with_reducible refine Below.alloc ?_ ?_ _) | (with_reducible refine Below.drew ?_) | (with_reducible refine below_drewN ?_ _) | (with_reducible refine Below.trans ?_ (Below.mono (by assumption) ?_)) | (with_reducible exact Nat.le_refl _) | omega | (simp at *; omega) | (simp; done)))) (Nat.le_refl _)) (by have := List.length_filter_le (fun f : Fir => f.tk == a[k].tk) a; have := List.length_filter_le (fun f : Fir => f.id == a[k].id) (a.filter fun f => f.tk == a[k].tk); omega) (of_decide_eq_true hcomm.out)).mono ?_; rintro e W5 ⟨rfl, hb5⟩; have hz5 := hb5.size)))
          all_goals
            go_wp2
            exact ⟨⟨k + 1, by omega, by go_num, by rw [hold.out], hTX.out.later ‹_ ∧ _ ∧ Below wx.heap.size wx _›.2.2⟩, by simp [intOf]; omega⟩
      · obtain rfl : k = a.length := by omega
        go_wp2
        go_ret
        exact ⟨by congr 2; rw [tickN_all]; simp, hta.2.2⟩
end Go.Proofs.Ytofkjmhcddgeeaa
