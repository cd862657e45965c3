/- firing.Log.Len: by its walk. -/
import Derived.Test.YtofkjmhcddgeeaaIds
namespace Go.Proofs.Ytofkjmhcddgeeaa
open Go.RowKit Go.Shelf Go.Sort
attribute [local go_sem] Oper.semAt_some

set_option maxRecDepth 100000 in
set_option maxHeartbeats 2000000 in
/-- those's closure, for every loop body that turns but the blocks of S. -/
theorem those1_chg (S : Nat → Prop) (n : Nat) (hn : 1 ≤ n) (l bL bA bl fa : Nat) (caps : Array Value) (p : Fir → Bool) (v : Value) (fs : List Fir) (hfs : fs.length ≤ 1000000) (J Jx : List Fir → World → Prop) (W : World)
    (hfa : ∀ args w, (callFunc fa args).run Try.prog w = .ok (.enter fa args) w)
    (hJ : AbidesFrom W.heap.size J) 
    (hY : ∀ pre x W, J pre W → pre.length < (fs.filter p).length → YieldAt Fence.wide (n - 1) Try.prog l #[firV x] W fun e W' =>
      (e = .returned (.bool true) ∧ J (pre ++ [x]) W' ∧ Chg S W W') ∨ (e = .returned (.bool false) ∧ Jx (pre ++ [x]) W'))
    (hst : ∀ W', Chg S W W' → W'.cell? ⟨bL, 0, none⟩ = some (.pointer (some ⟨bl, 0, none⟩)) ∧ W'.cell? ⟨bA, 0, none⟩ = some (.func (.func fa) #[] caps) ∧ W'.cell? ⟨bl, 0, none⟩ = some v ∧ Reads W' v fs.length (fs.flatMap firC) ∧
      ∀ f : Fir, Calls Try.prog fa (#[firV f] ++ caps) W' fun e w' => e = .returned (.bool (p f)) ∧ Below W'.heap.size W' w')
    (h0 : J [] W) :
    CallsIn Fence.wide n Try.prog 36 #[.func (.yield l) #[] #[], .pointer (some ⟨bL, 0, none⟩), .pointer (some ⟨bA, 0, none⟩)] W fun e W' => (∃ v, e = .returned v) ∧
      ((∃ ys, ys = fs.filter p ∧ J ys W') ∨ (∃ pre, pre <+: fs.filter p ∧ Jx pre W')) := by
  obtain ⟨hcL, hcA, hcl, hrd, _⟩ := hst W (Chg.refl _ _)
  obtain ⟨ao, c, rfl, hx⟩ := hrd.fir
  have HX := hid hx
  have HST := hid hst
  clear hx hst hrd
  refine callsIn_of_wp Try.func36 rfl trivial ?_ rfl
  simp only [Try.ntmps36, List.size_toArray, List.length_cons, List.length_nil, Nat.reduceAdd, Nat.reduceSub, Array.replicate_succ, Array.replicate_zero, List.push_toArray, List.append_toArray, List.nil_append, List.cons_append]
  gi_wp2
  gi_loopw [13] (fun i wr => ∃ k : Nat, k ≤ fs.length ∧ i = .int .i64 k ∧ J ((fs.take k).filter p) wr ∧ Chg S W wr)
    (fun i _ => fs.length - (intOf i).toNat)
  case atStart => exact ⟨0, Nat.zero_le _, rfl, h0, Chg.refl _ _⟩
  case round =>
    obtain ⟨k, hk, rfl, hJs, hnx⟩ := hrel
    by_cases hlt : k < fs.length
    · obtain ⟨qL, qA, ql, qr, qask⟩ := HST.out wr hnx
      obtain ⟨ao', c', hv', hx'⟩ := qr.fir
      simp only [Value.slice.injEq] at hv'
      obtain ⟨rfl, _, rfl⟩ := hv'
      obtain ⟨b, o, rfl, p0, p1, p2, p3⟩ := hx' k _ (List.getElem?_eq_getElem hlt)
      have HX' := hid hx'
      have HQ := hid qask
      have HJ := hid hJs
      have HN := hid hnx
      clear hx' qask qr hJs hnx
      have hbA : bA < wr.heap.size := World.block_lt_of_cell? wr _ qA
      have hst := hid (filter_snoc p fs k hlt)
      have hlen := hid (filter_lt p fs k hlt)
      have hsz := HN.out.size
      gi_wp2
      obtain ⟨w0, hw0⟩ : ∃ w0, w0 = wr.alloc (.cells (firC fs[k]).toArray 30) := ⟨_, rfl⟩
      have hw0' : w0 = wr.alloc (.cells #[.int .u64 fs[k].id, .int .u64 fs[k].gen, .int .u64 fs[k].dl, .int .u64 fs[k].tk] 30) := hw0
      have hB0 : Below wr.heap.size wr w0 := by rw [hw0]; exact (Below.refl _ _).alloc (Nat.le_refl _) _
      have hsz0 : w0.heap.size = wr.heap.size + 1 := by rw [hw0]; simp
      have hcn := cells_new wr (firC fs[k]) 30
      rw [← hw0] at hcn
      rw [← hw0']
      have hN0 : Chg S W w0 := HN.out.trans (Chg.of_below hB0 (fun k hk h => absurd h (by omega)))
      have hJ0 : J ((fs.take k).filter p) w0 := hJ _ _ _ none HJ.out (grownBy_of_below hB0 _) (fun r e => by cases e)
      refine ⟨trivial, (callsIn_wide.2 ((HST.out w0 hN0).2.2.2.2 fs[k])).mono ?_⟩
      rintro e w1 ⟨rfl, hB1⟩
      have hN1 : Chg S W w1 := hN0.trans (Chg.of_below hB1 (fun k hk h => absurd h (by omega)))
      have hJ1 : J ((fs.take k).filter p) w1 := hJ _ _ _ none hJ0 (grownBy_of_below hB1 _) (fun r e => by cases e)
      have hcc : ∀ j u, (firC fs[k])[j]? = some u → w1.cell? ⟨wr.heap.size, j, none⟩ = some u := by
        intro j u hu
        rw [hB1.cell (by simp; omega)]
        have := hcn j u hu
        rwa [Addr.add_lit, Nat.zero_add] at this
      have k0 := hcc 0 _ rfl
      have k1 := hcc 1 _ rfl
      have k2 := hcc 2 _ rfl
      have k3 := hcc 3 _ rfl
      have HJ1 := hid hJ1
      have HN1 := hid hN1
      clear hcc hcn hw0 hw0' hB0 hN0 hJ0 hB1 hJ1 hN1
      by_cases hp : p fs[k] = true
      · obtain ⟨fn, tmps, assign, body, hy, hR⟩ := hY _ fs[k] w1 HJ1.out (hlen.out hp)
        simp only [firV] at hy
        have hst' := hst.out
        rw [if_pos hp] at hst'
        have hst2 := hid hst'
        have hpre := hid (filter_prefix p fs (k + 1))
        clear hst'
        gi_wp2
        refine hR.mono ?_
        rintro e W3 (⟨rfl, hJ3, hk3⟩ | ⟨rfl, hJx3⟩)
        · gi_wp2
          go_roundw
          case rel => exact ⟨k + 1, by omega, by go_num, by rw [hst2.out]; exact hJ3, HN1.out.trans hk3⟩
          case measure => simp [intOf]; omega
        · gi_wp2
          refine bodyPost_ret (results_none rfl _ _ _) rfl ?_
          exact ⟨⟨_, rfl⟩, .inr ⟨_, by rw [← hst2.out]; exact hpre.out, hJx3⟩⟩
      · have hst' := hst.out
        rw [if_neg hp, List.append_nil] at hst'
        have hst2 := hid hst'
        clear hst'
        gi_wp2
        refine ⟨fun _ h => (by cases h), ?_⟩
        gi_wp2
        go_roundw
        case rel => exact ⟨k + 1, by omega, by go_num, by rw [hst2.out]; exact HJ1.out, HN1.out⟩
        case measure => simp [intOf]; omega
    · obtain rfl : k = fs.length := by omega
      gi_wp2
      go_end0
      exact ⟨⟨_, rfl⟩, .inl ⟨_, rfl, by rw [List.take_length] at hJs; exact hJs⟩⟩


theorem ownFrom_box {β : Type} (B Bx : Nat) (t : TypeId) (f : β → Value) : OwnFrom B (fun s W => Boxed W Bx t (f s)) := by
  intro s W W' row hs hg hr
  refine (hg.block Bx (Array.getElem?_eq_some_iff.1 hs).1 ?_).trans hs
  intro e
  obtain ⟨_, o, ho, hc⟩ := hr Bx e.symm
  rw [show W.heap[Bx]? = _ from hs] at ho; cases ho; simp [Obj.isCells] at hc

theorem chgK_t {S : Nat → Prop} {A B C : World} (h : Chg S A B) (k : Chg S B C) : Chg S A C := h.trans k
theorem chgK_b {S : Nat → Prop} {w : World} (hS : ∀ k, w.heap.size ≤ k → S k) (W : World) (l : Nat) (o o' : Obj) (hl : w.heap.size ≤ l) (h : W.heap[l]? = some o) (_ : o.isCells = false) (_ : o.isWalk = false) : Chg S W (W.putObj l o') :=
  Chg.of_grown (grownBy_putObj' W l o') (fun k e => by cases e; exact hS _ hl)

/-- Len, over whatever gives xs. -/
def LenSeq (w2 : World) (c : Nat) (lb : Array Value) (xs : List Fir) : Prop :=
  ∃ Sp, ∀ n, 1 ≤ n → SeqStopsK Fence.wide n Try.prog 36 lb (fun x => #[firV x]) (Chg (fun k => k = c ∨ w2.heap.size ≤ k)) (fun ys => ys = xs) Sp xs.length w2

set_option maxRecDepth 100000 in
set_option maxHeartbeats 2000000 in
theorem lenSeq_any (lp : Value) (hlp : lp.oneCell' = true) (xs : List Fir) (w : World) (hn : xs.length ≤ 1000000)
    (h : LenSeq (((w.alloc (.cells #[.int .i64 0] 3)).alloc (.cells #[lp] 24)).alloc (.cells #[.func (.func 34) #[] #[]] 46)) w.heap.size #[.pointer (some ⟨w.heap.size + 1, 0, none⟩), .pointer (some ⟨w.heap.size + 2, 0, none⟩)] xs) :
    Calls Try.prog 25 #[lp] w fun e w' => e = .returned (.int .i64 xs.length) ∧ Below w.heap.size w w' := by
  refine (callsIn_wide (n := 9)).1 ?_
  obtain ⟨w2, hw2⟩ : ∃ w2, w2 = ((w.alloc (.cells #[.int .i64 0] 3)).alloc (.cells #[lp] 24)).alloc (.cells #[.func (.func 34) #[] #[]] 46) := ⟨_, rfl⟩
  have hs2 : w2.heap.size = w.heap.size + 3 := by rw [hw2]; simp
  have hb2 : Below w.heap.size w w2 := by rw [hw2]; exact (((Below.refl _ _).alloc (Nat.le_refl _) _).alloc (by simp) _).alloc (by simp; omega) _
  have bN : Boxed w2 w.heap.size 3 (.int .i64 0) := by rw [hw2]; exact ((Boxed.new w _ _).alloc _).alloc _
  rw [← hw2] at h
  obtain ⟨Sp, hseq⟩ := h
  have HW := hid hw2
  have HN := hid bN
  have HB2 := hid hb2
  have HS2 := hid hs2
  have HSEQ := hid hseq
  clear hw2 bN hb2 hs2 hseq
  refine callsIn_of_wp_marks Try.func25 rfl trivial ?_ rfl
  simp only [Try.ntmps25, List.size_toArray, List.length_cons, List.length_nil, Nat.reduceAdd, Nat.reduceSub, Array.replicate_succ, Array.replicate_zero, List.push_toArray, List.append_toArray, List.nil_append, List.cons_append]
  gi_wp2
  refine ⟨trivial, (callsIn_wide.2 (those_any _ _ hlp rfl _)).mono ?_⟩
  rintro e w' ⟨rfl, rfl⟩
  gi_wp2
  simp only [World.size_alloc, Nat.add_assoc, Nat.reduceAdd]
  rw [← HW.out]
  refine wpIn_rangeFunc_ownH rfl (by omega) (gf := 36) (lb := #[.pointer (some ⟨w.heap.size + 1, 0, none⟩), .pointer (some ⟨w.heap.size + 2, 0, none⟩)]) rfl trivial (enters_of Try.func36 (by kernel_rfl) rfl) (HSEQ.out 8 (by omega)) chgK_t (chgK_b (fun k hk => .inr hk)) (Below.refl _ _) (fun _ => rfl)
    (fun pre W => Boxed W w.heap.size 3 (.int .i64 pre.length) ∧ Below w.heap.size w W)
    (fun _ _ _ => False)
    (OwnFrom.and (ownFrom_box _ _ _ (fun pre : List Fir => .int .i64 pre.length)) (ownFrom_below (Nat.le_refl _) (by rw [HS2.out]; omega)))
    (fun _ _ _ _ _ h _ _ => h)
    ⟨by simpa using HN.out, HB2.out⟩
    (fun x a' W => a' = { tmps := #[lp, undef, .int .i64 0, .pointer (some ⟨w.heap.size, 0, none⟩), lp, .func (.func 36) #[] #[.pointer (some ⟨w.heap.size + 1, 0, none⟩), .pointer (some ⟨w.heap.size + 2, 0, none⟩)], firV x, undef, undef, undef], defers := [] })
    (fun x a' => ?hax) ?assign ?body ?done ?stop
  case hax =>
    intro _ W W' row h hg hr
    exact h
  case assign =>
    rintro l pre x W K ⟨hI, hB⟩ hK
    gi_wp2
    exact hK _ _ (KeepsFrom.refl _ _) (Chg.refl _ _) ⟨hI, hB⟩ (by simp)
  case body =>
    rintro l pre x a' W hl ⟨r, hr⟩ ⟨hv, hB⟩ rfl hlt
    have hvc := hv.cell
    have hvf := hv.frozen
    have HB := hid hB
    clear hB hr
    gi_wp2
    have hset := hv.set (.int .i64 ((pre.length : Int) + 1))
    refine ⟨(KeepsOthers.setCell _ _ _).from _, Chg.set _ _ _ (.inl rfl), ?_, HB.out.setCell (Nat.le_refl _) _⟩
    simpa using hset
  case done =>
    rintro D ys W hD hS ⟨hv, hB⟩ hK
    obtain rfl := hS
    have hvc := hv.cell
    gi_wp2
    refine ⟨by simp, .inl ⟨_, _, rfl, run_takeDeferred hK, ?_⟩⟩
    exact ⟨_, results_tmp rfl _ _ _, rfl, hB.trans (belowK_b (w := w2) (by rw [HS2.out]; omega) W D _ _ hD hK rfl rfl)⟩
  case stop =>
    intro D c pre W _ _ h _
    exact h.elim

theorem lenOr_any (lp : Value) (l : List Fir) (w : World) (hl : LogOr w lp l) (hn : l.length ≤ 1000000) :
    Calls Try.prog 25 #[lp] w fun e w' => e = .returned (.int .i64 l.length) ∧ Below w.heap.size w w' := by
  obtain ⟨w2, hw2⟩ : ∃ w2, w2 = ((w.alloc (.cells #[.int .i64 0] 3)).alloc (.cells #[lp] 24)).alloc (.cells #[.func (.func 34) #[] #[]] 46) := ⟨_, rfl⟩
  have hs2 : w2.heap.size = w.heap.size + 3 := by rw [hw2]; simp
  have hb2 : Below w.heap.size w w2 := by rw [hw2]; exact (((Below.refl _ _).alloc (Nat.le_refl _) _).alloc (by simp) _).alloc (by simp; omega) _
  have bL : Boxed w2 (w.heap.size + 1) 24 lp := by
    have := (Boxed.new (w.alloc (.cells #[.int .i64 0] 3)) 24 lp).alloc (.cells #[.func (.func 34) #[] #[]] 46)
    rw [World.size_alloc] at this; rw [hw2]; exact this
  have bA : Boxed w2 (w.heap.size + 2) 46 (.func (.func 34) #[] #[]) := by
    have := Boxed.new ((w.alloc (.cells #[.int .i64 0] 3)).alloc (.cells #[lp] 24)) 46 (.func (.func 34) #[] #[])
    rw [World.size_alloc, World.size_alloc] at this; rw [hw2]; exact this
  refine lenSeq_any lp ?_ l w hn ?_
  · rcases hl with ⟨B, bl, rfl, _⟩ | ⟨rfl, _⟩ <;> rfl
  rw [← hw2]
  rcases hl with ⟨B, bl, rfl, v, hbox, hown⟩ | ⟨rfl, rfl⟩
  · refine ⟨fun pre => pre <+: l.filter fun _ => true, fun n hn1 lk J Jx W hW hJ _ hY h0 => ?_⟩
    have hblt := hbox.lt
    have key := those1_chg (fun k => k = w.heap.size ∨ w2.heap.size ≤ k) n hn1 lk (w.heap.size + 1) (w.heap.size + 2) bl 34 #[] (fun _ => true) v l hn J Jx W (enters_of Try.func34 (by kernel_rfl) rfl) hJ (by rw [filter_all]; exact hY) ?_ h0
    · rw [filter_all] at key
      exact key.mono fun e W' ⟨he, h⟩ => ⟨he, by rw [filter_all]; exact h⟩
    · intro W' hC
      have hC2 : Chg (fun k => k = w.heap.size ∨ w2.heap.size ≤ k) w2 W' := (Chg.of_below hW (fun k hk h => .inr h)).trans hC
      have hne : ∀ k, v.ownBlock = some k → ¬ (k = w.heap.size ∨ w2.heap.size ≤ k) := fun k e => by have := (hown.lt k e).2; omega
      have hC3 : Chg (fun k => k = w.heap.size ∨ w2.heap.size ≤ k) w W' := (Chg.of_below hb2 (fun k hk h => by omega)).trans hC2
      exact ⟨(hC2.boxed (by omega) bL).cell, (hC2.boxed (by omega) bA).cell, (hC3.boxed (by omega) hbox).cell, Reads.of_owns (hC3.owns hown hne), fun f => lenAsk_any f W'⟩
  · exact ⟨fun _ => False, fun n _ lk J Jx W hW hJ _ hY h0 => (thoseNil_in n lk _ _ W ((hW.cell bL.lt).trans bL.cell)).mono fun e W' ⟨he, hw⟩ => ⟨he, .inl ⟨[], rfl, by subst hw; exact h0⟩⟩⟩
end Go.Proofs.Ytofkjmhcddgeeaa
