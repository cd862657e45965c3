/- order.Most, by its walk. -/
import Derived.Test.YtpnkkdpggofanaaDone
namespace Go.Proofs.Ytpnkkdpggofanaa
open Go.RowKit Go.Shelf Go.Sort

abbrev mIB (w : World) (b : Nat) (m : List (Int × Bool)) : Prop := MapIs (Value.int .i64) Value.bool w b m
theorem mb_zero : ∀ w, (zeroValue 4).run Try.prog w = .ok (.bool false) w := Try.zeroValue4
theorem mIB_look {w : World} {b : Nat} {m : List (Int × Bool)} (h : mIB w b m) (c : Int) : (Instr.lookup 82 (.map (some b)) (.int .i64 c) false).run Try.prog w = .ok (((aget m c).map Value.bool).getD (.bool false)) w :=
  h.run_lookup (keyLaw_int Try.underlying3) Try.underlying82 mb_zero c false

/-- What the map says of the places of the first k ops. -/
def MarksB (os : List OpD) (k : Nat) (m : List (Int × Bool)) : Prop := ∀ c, aget m c = if (os.take k).any (fun o => o.beg == c) then some true else none
def MarksE (os : List OpD) (k : Nat) (m : List (Int × Bool)) : Prop := ∀ c, aget m c = if (os.take k).any (fun o => decide (0 ≤ o.fin) && o.fin == c) then some true else none
theorem MarksB.step {os : List OpD} {k : Nat} {m : List (Int × Bool)} (h : MarksB os k m) (hk : k < os.length) : MarksB os (k + 1) (aput m os[k].beg true) := by
  intro q
  rw [aget_put, h q, take_snoc_list os k hk, List.any_append]
  by_cases hq : q = os[k].beg
  · simp [hq]
  · have : (os[k].beg == q) = false := by simp; exact fun e => hq e.symm
    simp only [hq, if_false, List.any_cons, this, List.any_nil, Bool.or_false]
theorem MarksE.step {os : List OpD} {k : Nat} {m : List (Int × Bool)} (h : MarksE os k m) (hk : k < os.length) (hf : 0 ≤ os[k].fin) : MarksE os (k + 1) (aput m os[k].fin true) := by
  intro q
  rw [aget_put, h q, take_snoc_list os k hk, List.any_append]
  by_cases hq : q = os[k].fin
  · simp [hq, hf]
  · have : (os[k].fin == q) = false := by simp; exact fun e => hq e.symm
    simp only [hq, if_false, List.any_cons, this, List.any_nil, Bool.or_false, Bool.and_false]
theorem MarksE.skip {os : List OpD} {k : Nat} {m : List (Int × Bool)} (h : MarksE os k m) (hk : k < os.length) (hf : ¬ 0 ≤ os[k].fin) : MarksE os (k + 1) m := by
  intro q
  rw [h q, take_snoc_list os k hk, List.any_append]
  simp [hf]
def begsAt (os : List OpD) (i : Nat) : Bool := os.any (fun o => o.beg == (i : Int))
def endsAt (os : List OpD) (i : Nat) : Bool := os.any (fun o => decide (0 ≤ o.fin) && o.fin == (i : Int))
def mostStep (os : List OpD) (s : Int × Int) (i : Nat) : Int × Int :=
  ((if begsAt os i then s.1 + 1 else s.1) - (if endsAt os i then 1 else 0), max s.2 (if begsAt os i then s.1 + 1 else s.1))
def mostTo (os : List OpD) : Nat → Int × Int
  | 0 => (0, 0)
  | i + 1 => mostStep os (mostTo os i) i
theorem mostTo_bound (os : List OpD) (i : Nat) : -(i : Int) ≤ (mostTo os i).1 ∧ (mostTo os i).1 ≤ i ∧ 0 ≤ (mostTo os i).2 ∧ (mostTo os i).2 ≤ i := by
  induction i with
  | zero => simp [mostTo]
  | succ i ih =>
    rw [mostTo]
    unfold mostStep
    simp only
    obtain ⟨h1, h2, h3, h4⟩ := ih
    cases begsAt os i <;> cases endsAt os i <;> simp only [if_true, if_false, Bool.false_eq_true] <;> omega
theorem markB_look {os : List OpD} {m : List (Int × Bool)} (h : MarksB os os.length m) (i : Nat) : ((aget m (i : Int)).map Value.bool).getD (.bool false) = .bool (begsAt os i) := by
  rw [h, List.take_length]
  unfold begsAt
  cases os.any (fun o => o.beg == (i : Int)) <;> rfl
theorem markE_look {os : List OpD} {m : List (Int × Bool)} (h : MarksE os os.length m) (i : Nat) : ((aget m (i : Int)).map Value.bool).getD (.bool false) = .bool (endsAt os i) := by
  rw [h, List.take_length]
  unfold endsAt
  cases os.any (fun o => decide (0 ≤ o.fin) && o.fin == (i : Int)) <;> rfl

set_option maxRecDepth 1000000 in
set_option maxHeartbeats 8000000 in
theorem most_any (l : List Ev) (v : Value) (w : World) (h1 : Reads w v l.length (l.flatMap evC)) (hn : l.length ≤ 1000000) :
    Calls Try.prog 30 #[v] w fun x w' => x = .returned (.int .i64 (mostTo (opsOf l) l.length).2) ∧ Below w.heap.size w w' := by
  have HRD := hid h1
  obtain ⟨ao, c1, rfl, g1⟩ := h1.evs
  clear g1 h1
  have hmm := @run_makeMap Try.prog
  have hol : (opsOf l).length ≤ l.length := by rw [opsOf, opsB_len]; exact opsA_len l l.length
  have HOPS := hid (fun W (h : Reads W (.slice ao l.length c1) l.length (l.flatMap evC)) => ops_any l (.slice ao l.length c1) W h hn)
  generalize opsOf l = os at *
  obtain ⟨w0, hw0⟩ : ∃ w0, w0 = (w.alloc (.map #[] 0)).alloc (.map #[] 0) := ⟨_, rfl⟩
  have HW0 := hid hw0
  have hS0 : w0.heap.size = w.heap.size + 2 := by rw [hw0]; simp
  have HS0 := hid hS0
  have HBW := hid (show Below w.heap.size w w0 by rw [hw0]; exact ((Below.refl w.heap.size w).alloc (Nat.le_refl _) _).alloc (by simp) _)
  have HME := hid (show mIB w0 w.heap.size [] by rw [hw0]; exact (MapIs.made w).kept (Below.heap_alloc _ _ _ (by simp)))
  have HMB := hid (show mIB w0 (w.heap.size + 1) [] by rw [hw0]; have := MapIs.made (enc := Value.int .i64) (encV := Value.bool) (w.alloc (.map #[] 0)); rw [World.size_alloc] at this; exact this)
  clear hw0 hS0
  go_enter Try.func30, Try.ntmps30
  go_wp2_with fail
  go_at_call 18
  rw [← HW0.out]
  refine (HOPS.out w0 (HRD.out.below HBW.out (Nat.le_refl _))).mono ?_
  rintro x w1 ⟨v1, rfl, ho1, hb1⟩
  obtain ⟨ao1, c2, rfl⟩ := owns_shape ho1
  have HO1 := hid ho1
  have hs1 := hb1.size
  have HB1 := hid hb1
  have HS1 := hid hs1
  have hz1 : w.heap.size + 2 ≤ w1.heap.size := by rw [← HS0.out]; exact hs1
  have HME1 := hid (HME.out.kept (hb1.block _ (by rw [HS0.out]; omega)))
  have HMB1 := hid (HMB.out.kept (hb1.block _ (by rw [HS0.out]; omega)))
  have HBW1 := hid (HBW.out.trans (hb1.mono HBW.out.size))
  clear ho1 hb1 hs1
  -- what the ops' cells hold, behind whatever is done to the two maps and above
  have HC : Hid (∀ W, Chg (fun b => b = w.heap.size ∨ b = w.heap.size + 1) w1 W → ∀ j (hj : j < os.length), ∃ b o, ao1 = some ⟨b, o, none⟩ ∧ ∀ r u, (opC os[j])[r]? = some u → W.cell? ⟨b, o + j * 6 + r, none⟩ = some u) := by
    intro W hW j hj
    have hown := hW.owns HO1.out (fun k hk => by have := (HO1.out.lt k hk).1; rw [HS0.out] at this; omega)
    obtain ⟨ao', c', hv, hx⟩ := (Reads.of_owns hown).ops
    simp only [Value.slice.injEq] at hv
    obtain ⟨rfl, _, rfl⟩ := hv
    exact hx j _ (List.getElem?_eq_getElem hj)
  go_wp2_with fail
  go_loopw [15] (fun iv wr => ∃ k : Nat, k ≤ os.length ∧ iv = .int .i64 k ∧ Chg (fun b => b = w.heap.size ∨ b = w.heap.size + 1) w1 wr ∧ (∃ me, mIB wr w.heap.size me ∧ MarksE os k me) ∧ (∃ mb, mIB wr (w.heap.size + 1) mb ∧ MarksB os k mb)) (fun iv _ => os.length - (intOf iv).toNat)
  case atStart => exact ⟨0, by omega, rfl, Chg.refl _ _, ⟨[], HME1.out, fun c => by simp [aget]⟩, ⟨[], HMB1.out, fun c => by simp [aget]⟩⟩
  case round =>
    obtain ⟨k, hk, rfl, hc, ⟨me, hme, hmk⟩, mb, hmb, hbk⟩ := hrel
    have hsz := hc.size
    by_cases hlt : k < os.length
    · obtain ⟨b, o, hao, hcell⟩ := HC.out wr hc k hlt
      obtain rfl := hao
      have p0 := hcell 0 _ rfl
      have p1 := hcell 1 _ rfl
      have p2 := hcell 2 _ rfl
      have p3 := hcell 3 _ rfl
      have p4 := hcell 4 _ rfl
      have p5 := hcell 5 _ rfl
      simp only [Nat.add_zero] at p0
      have HCH := hid hc
      have HE := hid (fun o => hme.kept (Below.heap_alloc wr o _ hme.lt))
      have HG := hid (fun o => hmb.kept (Below.heap_alloc wr o _ hmb.lt))
      have HBK := hid (hbk.step hlt)
      have HEK := hid (fun h => hmk.step hlt h)
      have HES := hid (fun h => hmk.skip hlt h)
      clear hcell hc hme hmb hmk hbk
      generalize os[k].no = v0 at *
      generalize os[k].thr = v1 at *
      generalize os[k].what = v2 at *
      generalize os[k].beg = v3 at *
      generalize os[k].did = v4 at *
      generalize os[k].fin = v5 at *
      go_wp2_with (at_mapUpdate; refine Hid.out ?_)
      refine hid ?_
      refine wpList_update _ rfl 82 _ _ _ rfl (keyLaw_int Try.underlying3) Try.underlying82 (w.heap.size + 1) mb (HG.out _) rfl v3 rfl true rfl ?_
      intro w2 hm2 hg2 hs2
      have e5 : w2.cell? ⟨wr.heap.size, 5, none⟩ = some (.int .i64 v5) := grownBy_cell hg2 (by simp; omega) (by go_cell)
      have HM2 := hid hm2
      have HE2 := hid ((HE.out (.cells #[.int .i64 v0, .int .i64 v1, .int .i64 v2, .int .i64 v3, .int .i64 v4, .int .i64 v5] 40)).kept (hg2.block w.heap.size (by simp; omega) (by simp)))
      have HC2 := hid ((HCH.out.trans (Chg.alloc _ _ _)).trans (Chg.of_grown (S := fun b => b = w.heap.size ∨ b = w.heap.size + 1) hg2 (fun j e => by cases e; exact .inr rfl)))
      have hz2 : wr.heap.size + 1 = w2.heap.size := by simp at hs2; exact hs2.symm
      clear hm2 hg2 hs2
      by_cases hf : 0 ≤ v5
      · have hf' : decide (0 ≤ v5) = true := by simp [hf]
        have HEK2 := hid (HEK.out hf)
        clear hf
        go_wp2_with (at_mapUpdate; refine Hid.out ?_)
        refine hid ?_
        refine wpList_update _ rfl 82 _ _ _ rfl (keyLaw_int Try.underlying3) Try.underlying82 w.heap.size me HE2.out rfl v5 rfl true rfl ?_
        intro w3 hm3 hg3 hs3
        have HM3 := hid hm3
        have HG3 := hid (HM2.out.kept (hg3.block (w.heap.size + 1) (by omega) (by simp)))
        have HC3 := hid (HC2.out.trans (Chg.of_grown (S := fun b => b = w.heap.size ∨ b = w.heap.size + 1) hg3 (fun j e => by cases e; exact .inl rfl)))
        clear hm3 hg3 hs3
        go_wp2
        go_roundw
        case rel => exact ⟨k + 1, by omega, by go_num, HC3.out, ⟨_, HM3.out, HEK2.out⟩, _, HG3.out, HBK.out⟩
        case measure => simp [intOf]; omega
      · have hf' : decide (0 ≤ v5) = false := by simp [hf]
        have HES2 := hid (HES.out (by omega))
        clear hf
        go_wp2
        go_roundw
        case rel => exact ⟨k + 1, by omega, by go_num, HC2.out, ⟨_, HE2.out, HES2.out⟩, _, HM2.out, HBK.out⟩
        case measure => simp [intOf]; omega
    · obtain rfl : k = os.length := by omega
      have HCH := hid hc
      have HEL := hid (fun i => mIB_look hme i)
      have HGL := hid (fun i => mIB_look hmb i)
      have HE := hid hme
      have HG := hid hmb
      have HLE := hid (fun i => markE_look hmk i)
      have HLB := hid (fun i => markB_look hbk i)
      clear hc hme hmb hmk hbk
      have HBEH := hid (HBW1.out.trans (HCH.out.below (B := w.heap.size) (by omega) (fun k h => by rcases h with h | h <;> omega)))
      have HMS := hid (fun i => show mostTo os (i + 1) = ((if begsAt os i then (mostTo os i).1 + 1 else (mostTo os i).1) - (if endsAt os i then 1 else 0), max (mostTo os i).2 (if begsAt os i then (mostTo os i).1 + 1 else (mostTo os i).1)) from rfl)
      have HMT := hid (mostTo_bound os)
      go_wp2
      go_loopw [7, 8, 31] (fun nv mv iv wi => ∃ i : Nat, i ≤ l.length ∧ iv = .int .i64 i ∧ nv = .int .i64 (mostTo os i).1 ∧ mv = .int .i64 (mostTo os i).2 ∧ wi = wr) (fun _ _ iv _ => l.length - (intOf iv).toNat)
      case atStart => exact ⟨0, by omega, rfl, rfl, rfl, rfl⟩
      case round =>
        obtain ⟨i, hi, rfl, rfl, rfl, rfl⟩ := hrel
        by_cases hit : i < l.length
        · have hms := HMS.out i
          obtain ⟨m1, m2, m3, m4⟩ := HMT.out i
          have he := HEL.out (i : Int)
          have hg := HGL.out (i : Int)
          rw [HLE.out i] at he
          rw [HLB.out i] at hg
          generalize begsAt os i = bb at *
          generalize endsAt os i = eb at *
          generalize hst : mostTo os i = st at *
          obtain ⟨n, m⟩ := st
          simp only at hms m1 m2 m3 m4
          clear hst
          cases bb <;> cases eb
          all_goals
            simp only [if_true, if_false, Bool.false_eq_true, Int.sub_zero] at hms
            have HQ := hid hms
            clear hms
            go_wp2
            go_roundw
            case rel => exact ⟨i + 1, by omega, by go_num, by first | (rw [HQ.out]; done) | (rw [HQ.out]; go_num), by rw [HQ.out], by first | trivial | rfl⟩
            case measure => simp [intOf]; omega
        · obtain rfl : i = l.length := by omega
          go_wp2
          go_ret
          exact ⟨rfl, HBEH.out⟩
end Go.Proofs.Ytpnkkdpggofanaa
