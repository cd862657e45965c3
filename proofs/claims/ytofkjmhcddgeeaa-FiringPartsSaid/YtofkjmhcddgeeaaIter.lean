/- firing.Log: New, Put, those, and the functions that ask; slices.Collect, slices.AppendSeq over it. -/
import Derived.Test.YtofkjmhcddgeeaaFir
import Derived.RangeFuncNested
import Derived.RangeFuncBound
import Derived.RangeFuncCalls
import Derived.RangeFuncLeaves
import Derived.Shelf.Abstract
import Derived.Shelf.RegionOpen
import Derived.OwnWalkIn
import Derived.TacticsInMore
import Derived.LoopNIn
import Derived.LoopIn
namespace Go.Proofs.Ytofkjmhcddgeeaa
open Go.RowKit Go.Shelf
attribute [local go_sem] Oper.semAt_some

abbrev firV (f : Fir) : Value := .agg #[.int .u64 f.id, .int .u64 f.gen, .int .u64 f.dl, .int .u64 f.tk]
theorem firC_one (f : Fir) : ∀ u ∈ firC f, u.oneCell' = true := by
  intro u hu; simp [firC] at hu; rcases hu with rfl | rfl | rfl | rfl <;> rfl
theorem firs_one (l : List Fir) : ∀ u ∈ l.flatMap firC, u.oneCell' = true := by
  intro u hu; obtain ⟨f, _, h⟩ := List.mem_flatMap.1 hu; exact firC_one f u h

/-- Block bl is a log that holds the firings l. -/
def LogIs (B : Nat) (w : World) (bl : Nat) (l : List Fir) : Prop :=
  ∃ v, Boxed w bl 48 v ∧ w.ownsRow B 30 4 v l.length (l.flatMap firC)

theorem grownBy_of_below {w w' : World} (h : Below w.heap.size w w') (row : Option Nat) : w.grownBy w' row := ⟨h.os, h.tape, h.output, h.size, fun k hk _ => h.block k hk⟩

theorem new_any (w : World) : Calls Try.prog 9 #[] w fun e w' => e = .returned (.pointer (some ⟨w.heap.size, 0, none⟩)) ∧ Boxed w' w.heap.size 48 (.slice none 0 0) ∧ Below w.heap.size w w' ∧ w'.heap.size = w.heap.size + 1 := by
  go_enter Try.func9, Try.ntmps9
  go_wp2
  go_ret
  exact ⟨rfl, Boxed.new _ _ _, (Below.refl _ _).alloc (Nat.le_refl _) _, by simp⟩

set_option maxHeartbeats 400000 in
theorem put_any (B bl : Nat) (l l2 : List Fir) (v v2 : Value) (w : World) (hBw : B ≤ w.heap.size) (hbox : Boxed w bl 48 v) (hown : w.ownsRow B 30 4 v l.length (l.flatMap firC)) (h2 : Reads w v2 l2.length (l2.flatMap firC)) (hn : l.length + l2.length ≤ 1000000) :
    Calls Try.prog 10 #[.pointer (some ⟨bl, 0, none⟩), v2] w fun e w' => e = .returned (.tuple #[]) ∧ LogIs B w' bl (l ++ l2) ∧ Chg (fun k => k = bl ∨ v.ownBlock = some k) w w' := by
  obtain ⟨i0, hi, hz0, hz1, hz2⟩ := info_parts fir_info
  have hc := hbox.cell
  have hf := hbox.frozen
  have hne : some bl ≠ v.ownBlock := hbox.not_row (by decide) hown
  have hlen := flatMap_length firC 4 firC_len l2
  have H2 := hid h2
  clear h2
  go_enter Try.func10, Try.ntmps10
  go_wp2_with (at_builtin; refine wpList_append_any _ rfl _ _ 22 rfl B 30 i0 _ 4 32 Try.underlying22 hi hz0 hz1 hz2 rfl (by decide) v _ _ rfl hown _ _ _ rfl H2.out hlen (firs_one l2) (by unfold maxLen; omega) (by omega) hBw ?_; intro bo cap w1 hown' hgrow; have hbox1 := hbox.kept hgrow hne; have hc1 := hbox1.cell; have hf1 := hbox1.frozen)
  go_end0
  have hne' : (Value.slice bo (l.length + l2.length) cap).ownBlock ≠ some bl := fun e => hbox1.not_row (by decide) hown' e.symm
  have hown2 := ownsRow_setCell_other (a := ⟨bl, 0, none⟩) hown' hne' (.slice bo (l.length + l2.length) cap)
  refine ⟨rfl, ⟨_, hbox1.set _, ?_⟩, ?_⟩
  · rw [List.length_append, List.flatMap_append]; exact hown2
  · exact (Chg.of_grown hgrow (fun k hk => .inr hk)).trans (Chg.set _ _ _ (.inl rfl))

theorem those_any (lp ask : Value) (h1 : lp.oneCell' = true) (h2 : ask.oneCell' = true) (w : World) : Calls Try.prog 27 #[lp, ask] w fun e w' =>
    e = .returned (.func (.func 36) #[] #[.pointer (some ⟨w.heap.size, 0, none⟩), .pointer (some ⟨w.heap.size + 1, 0, none⟩)]) ∧ w' = (w.alloc (.cells #[lp] 24)).alloc (.cells #[ask] 46) := by
  go_enter Try.func27, Try.ntmps27
  go_wp2
  all_goals first | (exfalso; simp [Value.oneCell'] at h1; done) | (exfalso; simp [Value.oneCell'] at h2; done) | (go_ret; exact ⟨rfl, rfl⟩)

theorem filter_prefix {α : Type} (p : α → Bool) (l : List α) (k : Nat) : (l.take k).filter p <+: l.filter p := by
  have h := List.take_prefix k l
  exact h.filter p

theorem filter_lt {α : Type} (p : α → Bool) (l : List α) (k : Nat) (h : k < l.length) (hp : p l[k] = true) : ((l.take k).filter p).length < (l.filter p).length := by
  have h1 := filter_snoc p l k h
  rw [if_pos hp] at h1
  have h2 := (filter_prefix p l (k + 1)).length_le
  rw [h1, List.length_append] at h2
  simp at h2; omega

set_option maxRecDepth 100000 in
set_option maxHeartbeats 2000000 in
/-- those's closure, for every loop body that keeps what lay below n₀. -/
theorem those1_in (n : Nat) (hn : 1 ≤ n) (l bL bA n₀ bl fa : Nat) (caps : Array Value) (p : Fir → Bool) (v : Value) (fs : List Fir) (hfs : fs.length ≤ 1000000) (J Jx : List Fir → World → Prop) (W : World)
    (hfa : ∀ args w, (callFunc fa args).run Try.prog w = .ok (.enter fa args) w)
    (hJ : AbidesFrom W.heap.size J) (hn0 : n₀ ≤ W.heap.size)
    (hY : ∀ pre x W, J pre W → pre.length < (fs.filter p).length → YieldAt Fence.wide (n - 1) Try.prog l #[firV x] W fun e W' =>
      (e = .returned (.bool true) ∧ J (pre ++ [x]) W' ∧ Below n₀ W W') ∨ (e = .returned (.bool false) ∧ Jx (pre ++ [x]) W'))
    (hst : ∀ W', Below n₀ W W' → W'.cell? ⟨bL, 0, none⟩ = some (.pointer (some ⟨bl, 0, none⟩)) ∧ W'.cell? ⟨bA, 0, none⟩ = some (.func (.func fa) #[] caps) ∧ W'.cell? ⟨bl, 0, none⟩ = some v ∧ Reads W' v fs.length (fs.flatMap firC) ∧
      ∀ f : Fir, Calls Try.prog fa (#[firV f] ++ caps) W' fun e w' => e = .returned (.bool (p f)) ∧ Below W'.heap.size W' w')
    (h0 : J [] W) :
    CallsIn Fence.wide n Try.prog 36 #[.func (.yield l) #[] #[], .pointer (some ⟨bL, 0, none⟩), .pointer (some ⟨bA, 0, none⟩)] W fun e W' => (∃ v, e = .returned v) ∧
      ((∃ ys, ys = fs.filter p ∧ J ys W') ∨ (∃ pre, pre <+: fs.filter p ∧ Jx pre W')) := by
  obtain ⟨hcL, hcA, hcl, hrd, _⟩ := hst W (Below.refl _ _)
  obtain ⟨ao, c, rfl, hx⟩ := hrd.fir
  have HX := hid hx
  have HST := hid hst
  clear hx hst hrd
  refine callsIn_of_wp Try.func36 rfl trivial ?_ rfl
  simp only [Try.ntmps36, List.size_toArray, List.length_cons, List.length_nil, Nat.reduceAdd, Nat.reduceSub, Array.replicate_succ, Array.replicate_zero, List.push_toArray, List.append_toArray, List.nil_append, List.cons_append]
  gi_wp2
  gi_loopw [13] (fun i wr => ∃ k : Nat, k ≤ fs.length ∧ i = .int .i64 k ∧ J ((fs.take k).filter p) wr ∧ Below n₀ W wr)
    (fun i _ => fs.length - (intOf i).toNat)
  case atStart => exact ⟨0, Nat.zero_le _, rfl, h0, Below.refl _ _⟩
  case round =>
    obtain ⟨k, hk, rfl, hJs, hnx⟩ := hrel
    by_cases hlt : k < fs.length
    · obtain ⟨qL, qA, ql, qr, qask⟩ := HST.out wr hnx
      obtain ⟨ao', c', hv', hx'⟩ := qr.fir
      simp only [Value.slice.injEq] at hv'
      obtain ⟨rfl, _, rfl⟩ := hv'
      obtain ⟨b, o, rfl, p0, p1, p2, p3⟩ := hx' k _ (List.getElem?_eq_getElem hlt)
      have HX' := hid hx'
      have HQ := hid qask
      have HJ := hid hJs
      have HN := hid hnx
      clear hx' qask qr hJs hnx
      have hbA : bA < wr.heap.size := World.block_lt_of_cell? wr _ qA
      have hst := hid (filter_snoc p fs k hlt)
      have hlen := hid (filter_lt p fs k hlt)
      have hsz := HN.out.size
      gi_wp2
      obtain ⟨w0, hw0⟩ : ∃ w0, w0 = wr.alloc (.cells (firC fs[k]).toArray 30) := ⟨_, rfl⟩
      have hw0' : w0 = wr.alloc (.cells #[.int .u64 fs[k].id, .int .u64 fs[k].gen, .int .u64 fs[k].dl, .int .u64 fs[k].tk] 30) := hw0
      have hB0 : Below wr.heap.size wr w0 := by rw [hw0]; exact (Below.refl _ _).alloc (Nat.le_refl _) _
      have hsz0 : w0.heap.size = wr.heap.size + 1 := by rw [hw0]; simp
      have hcn := cells_new wr (firC fs[k]) 30
      rw [← hw0] at hcn
      rw [← hw0']
      have hN0 : Below n₀ W w0 := HN.out.trans (hB0.mono (by omega))
      have hJ0 : J ((fs.take k).filter p) w0 := hJ _ _ _ none HJ.out (grownBy_of_below hB0 _) (fun r e => by cases e)
      refine ⟨trivial, (callsIn_wide.2 ((HST.out w0 hN0).2.2.2.2 fs[k])).mono ?_⟩
      rintro e w1 ⟨rfl, hB1⟩
      have hN1 : Below n₀ W w1 := hN0.trans (hB1.mono (by omega))
      have hJ1 : J ((fs.take k).filter p) w1 := hJ _ _ _ none hJ0 (grownBy_of_below hB1 _) (fun r e => by cases e)
      have hcc : ∀ j u, (firC fs[k])[j]? = some u → w1.cell? ⟨wr.heap.size, j, none⟩ = some u := by
        intro j u hu
        rw [hB1.cell (by simp; omega)]
        have := hcn j u hu
        rwa [Addr.add_lit, Nat.zero_add] at this
      have k0 := hcc 0 _ rfl
      have k1 := hcc 1 _ rfl
      have k2 := hcc 2 _ rfl
      have k3 := hcc 3 _ rfl
      have HJ1 := hid hJ1
      have HN1 := hid hN1
      clear hcc hcn hw0 hw0' hB0 hN0 hJ0 hB1 hJ1 hN1
      by_cases hp : p fs[k] = true
      · obtain ⟨fn, tmps, assign, body, hy, hR⟩ := hY _ fs[k] w1 HJ1.out (hlen.out hp)
        simp only [firV] at hy
        have hst' := hst.out
        rw [if_pos hp] at hst'
        have hst2 := hid hst'
        have hpre := hid (filter_prefix p fs (k + 1))
        clear hst'
        gi_wp2
        refine hR.mono ?_
        rintro e W3 (⟨rfl, hJ3, hk3⟩ | ⟨rfl, hJx3⟩)
        · gi_wp2
          go_roundw
          case rel => exact ⟨k + 1, by omega, by go_num, by rw [hst2.out]; exact hJ3, HN1.out.trans hk3⟩
          case measure => simp [intOf]; omega
        · gi_wp2
          refine bodyPost_ret (results_none rfl _ _ _) rfl ?_
          exact ⟨⟨_, rfl⟩, .inr ⟨_, by rw [← hst2.out]; exact hpre.out, hJx3⟩⟩
      · have hst' := hst.out
        rw [if_neg hp, List.append_nil] at hst'
        have hst2 := hid hst'
        clear hst'
        gi_wp2
        refine ⟨fun _ h => (by cases h), ?_⟩
        gi_wp2
        go_roundw
        case rel => exact ⟨k + 1, by omega, by go_num, by rw [hst2.out]; exact HJ1.out, HN1.out⟩
        case measure => simp [intOf]; omega
    · obtain rfl : k = fs.length := by omega
      gi_wp2
      go_end0
      exact ⟨⟨_, rfl⟩, .inl ⟨_, rfl, by rw [List.take_length] at hJs; exact hJs⟩⟩

/-- What a log and its question need to be gone through, in w and in whatever world in which what lay in w lies on. -/
def ThoseAt (w : World) (bL bA bl fa : Nat) (caps : Array Value) (p : Fir → Bool) (v : Value) (fs : List Fir) : Prop :=
  ∀ W', Below w.heap.size w W' → W'.cell? ⟨bL, 0, none⟩ = some (.pointer (some ⟨bl, 0, none⟩)) ∧ W'.cell? ⟨bA, 0, none⟩ = some (.func (.func fa) #[] caps) ∧ W'.cell? ⟨bl, 0, none⟩ = some v ∧ Reads W' v fs.length (fs.flatMap firC) ∧
      ∀ f : Fir, Calls Try.prog fa (#[firV f] ++ caps) W' fun e w' => e = .returned (.bool (p f)) ∧ Below W'.heap.size W' w'

theorem those_stops (n : Nat) (hn : 1 ≤ n) (bL bA bl fa : Nat) (caps : Array Value) (p : Fir → Bool) (v : Value) (fs : List Fir) (hfs : fs.length ≤ 1000000) (w : World)
    (hfa : ∀ args w, (callFunc fa args).run Try.prog w = .ok (.enter fa args) w) (h : ThoseAt w bL bA bl fa caps p v fs) :
    SeqStopsK Fence.wide n Try.prog 36 #[.pointer (some ⟨bL, 0, none⟩), .pointer (some ⟨bA, 0, none⟩)] (fun x => #[firV x]) (Below w.heap.size) (fun ys => ys = fs.filter p) (fun pre => pre <+: fs.filter p) (fs.filter p).length w :=
  fun l J Jx W hW hJ _ hY h0 => those1_in n hn l bL bA w.heap.size bl fa caps p v fs hfs J Jx W hfa hJ hW.size hY (fun W' hb => h W' (hW.trans hb)) h0

theorem ownFrom_block {β : Type} (B Bx : Nat) (c : Array Value) (t : TypeId) (fr : Nat × Nat) : OwnFrom B (fun (_ : β) W => W.heap[Bx]? = some (.cells c t fr)) := by
  intro s W W' row hs hg hr
  refine (hg.block Bx (Array.getElem?_eq_some_iff.1 hs).1 ?_).trans hs
  intro e
  obtain ⟨_, o, ho, hc⟩ := hr Bx e.symm
  rw [hs] at ho; cases ho; simp [Obj.isCells] at hc

set_option maxRecDepth 100000 in
set_option maxHeartbeats 2000000 in
theorem appendSeq_any (w : World) (gf : Nat) (lb : Array Value) (xs : List Fir) (hxs : xs.length ≤ 1000000) (Sp : List Fir → Prop)
    (hseq : ∀ n, 1 ≤ n → SeqStopsK Fence.wide n Try.prog gf lb (fun x => #[firV x]) (Below w.heap.size) (fun ys => ys = xs) Sp xs.length w)
    (eg : ∀ args w, (callFunc gf args).run Try.prog w = .ok (.enter gf args) w) :
    Calls Try.prog 35 #[.slice none 0 0, .func (.func gf) #[] lb] w fun e w' => ∃ v', e = .returned v' ∧ w'.ownsRow w.heap.size 30 4 v' xs.length (xs.flatMap firC) ∧ Below w.heap.size w w' := by
  refine (callsIn_wide (n := 9)).1 ?_
  obtain ⟨i0, hi, hz0, hz1, hz2⟩ := info_parts fir_info
  refine callsIn_of_wp_marks Try.func35 rfl trivial ?_ rfl
  simp only [Try.ntmps35, List.size_toArray, List.length_cons, List.length_nil, Nat.reduceAdd, Nat.reduceSub, Array.replicate_succ, Array.replicate_zero, List.push_toArray, List.append_toArray, List.nil_append, List.cons_append]
  gi_wp2
  refine wpIn_rangeFunc_ownH rfl (by omega) (gf := gf) (lb := lb) rfl trivial eg (hseq 8 (by omega)) belowK_t (belowK_b (by simp)) ((Below.refl _ _).alloc (Nat.le_refl _) _) (fun _ => rfl)
    (fun pre W => (∃ v, Boxed W w.heap.size 22 v ∧ W.ownsRow w.heap.size 30 4 v pre.length (pre.flatMap firC) ∧ True) ∧ Below w.heap.size w W)
    (fun _ _ _ => False)
    (OwnFrom.and (Own.from (holdsRow_own w.heap.size w.heap.size 22 30 4 (fun pre : List Fir => pre.length) (fun pre => pre.flatMap firC) (fun _ _ => True)) _) (ownFrom_below (Nat.le_refl _) (by simp)))
    (fun _ _ _ _ _ h _ _ => h)
    ⟨⟨_, Boxed.new _ _ _, World.ownsRow_nil _ _ _ _, trivial⟩, (Below.refl _ _).alloc (Nat.le_refl _) _⟩
    (fun x a' W => ∃ Bx, w.heap.size < Bx ∧ W.heap[Bx]? = some (.cells (firC x).toArray 30 (0, 0)) ∧ a' = { tmps := #[.slice none 0 0, .func (.func gf) #[] lb, .pointer (some ⟨w.heap.size, 0, none⟩), undef, .slice none 0 0, .pointer (some ⟨Bx, 0, none⟩), .func (.func gf) #[] lb, firV x, undef, undef, undef, undef, undef], defers := [] })
    (fun x a' => ?hax) ?assign ?body ?done ?stop
  case hax =>
    intro _ W W' row ⟨Bx, h1, h2, h3⟩ hg hr
    exact ⟨Bx, h1, ownFrom_block _ Bx _ _ _ () W W' row h2 hg hr, h3⟩
  case assign =>
    rintro l pre x W K ⟨⟨v, hv, hrow, _⟩, hB⟩ hK
    have hsz := hB.size
    gi_wp2
    exact hK _ _ ((KeepsOthers.alloc _ _).from _) ((Below.refl _ _).alloc hsz _) ⟨⟨v, hv.alloc _, hrow.alloc _, trivial⟩, hB.alloc hsz _⟩ ⟨W.heap.size, hv.lt, heap_alloc_new W _, rfl⟩
  case body =>
    rintro l pre x a' W hl ⟨r, hr⟩ ⟨⟨v, hv, hrow, _⟩, hB⟩ ⟨Bx, hBx, hX, rfl⟩ hlt
    have hsz := hB.size
    have hvc := hv.cell
    have hvf := hv.frozen
    have hXlt : Bx < W.heap.size := (Array.getElem?_eq_some_iff.1 hX).1
    have x0 : W.cell? ⟨Bx, 0, none⟩ = some (.int .u64 x.id) := by simp [World.cell?, hX, firC]
    have x1 : W.cell? ⟨Bx, 1, none⟩ = some (.int .u64 x.gen) := by simp [World.cell?, hX, firC]
    have x2 : W.cell? ⟨Bx, 2, none⟩ = some (.int .u64 x.dl) := by simp [World.cell?, hX, firC]
    have x3 : W.cell? ⟨Bx, 3, none⟩ = some (.int .u64 x.tk) := by simp [World.cell?, hX, firC]
    have HB := hid hB
    clear hX hB hr
    gi_wp2_with (gi_at_builtin; refine wpListIn_append_own _ rfl _ _ 22 rfl w.heap.size 30 i0 _ 4 32 Try.underlying22 hi hz0 hz1 hz2 rfl (by decide) v _ _ rfl (hrow.alloc _) ⟨W.heap.size, 0, none⟩ 1 1 (firC x) rfl rfl (cells_new _ _ _) (firC_one x) (by unfold maxLen; omega) (by omega) (by simp; omega) ?_; intro v' w1 hown' hgrow _; obtain ⟨g', cap', rfl⟩ := ownsRow_succ hown'; obtain ⟨hv1, hv2, hr2, hk2, hb2⟩ := hv.appended (by decide) hrow hsz (Nat.le_refl _) hown' hgrow; have hc1 := hv1.cell; have hf1 := hv1.frozen)
    exact ⟨hk2.from _, hb2, ⟨_, hv2, by simpa using hr2, trivial⟩, HB.out.trans hb2⟩
  case done =>
    rintro D ys W hD rfl ⟨⟨v, hv, hrow, _⟩, hB⟩ hK
    have hvc := hv.cell
    gi_wp2
    refine ⟨by simp, .inl ⟨_, _, rfl, run_takeDeferred hK, ?_⟩⟩
    exact ⟨_, results_tmp rfl _ _ _, _, rfl, ownsRow_putObj hrow _ hK rfl, hB.trans (belowK_b (w := w) (Nat.le_refl _) W D _ _ (by simp at hD; omega) hK rfl rfl)⟩
  case stop =>
    intro D c pre W _ _ h _
    exact h.elim
end Go.Proofs.Ytofkjmhcddgeeaa
