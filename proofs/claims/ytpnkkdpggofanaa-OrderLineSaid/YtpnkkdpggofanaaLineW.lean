/- vergelaw24.OrderLine, by its walk. -/
import Derived.Test.YtpnkkdpggofanaaLineLaw
import Derived.Test.YtpnkkdpggofanaaAlive24
namespace Go.Proofs.Ytpnkkdpggofanaa
open Go.RowKit Go.Shelf Go.Sort

theorem idx_take (ds : List OpD) (hn : (ds.map (·.no)).Nodup) (k : Nat) (h : k < ds.length) : idx (ds.take (k + 1)) = aput (idx (ds.take k)) ds[k].no (k : Int) ∧ aget (idx (ds.take k)) ds[k].no = none := by
  have hm : ds[k].no ∉ (ds.take k).map (·.no) := by
    intro hm
    have h1 : (ds.map (·.no))[k]? = some ds[k].no := by simp [h]
    obtain ⟨j, hj, he⟩ := List.mem_iff_getElem.1 hm
    have hjk : j < k := by simp at hj; omega
    have h2 : (ds.map (·.no))[j]? = some ds[k].no := by rw [← he]; simp [show j < ds.length by omega]
    have := (List.getElem?_inj (by simp; omega) hn).1 (h2.trans h1.symm)
    omega
  refine ⟨?_, (idx_none _ _).2 hm⟩
  rw [take_snoc_list ds k h, idx_snoc, aput_absent _ _ _ (by rw [idx_keys]; exact hm), List.length_take, Nat.min_eq_left (by omega)]

/-- What the map says of an op. -/
def InLine (l : List Ev) (o : OpD) (r : Option Int) : Prop := (0 ≤ o.did → ∃ q : Nat, r = some (q : Int) ∧ ∃ h : q < (doneOf l).length, (doneOf l)[q] = o) ∧ (o.did < 0 → r = none)
theorem inLine (l : List Ev) (o : OpD) (ho : o ∈ opsOf l) : InLine l o (aget (idx (doneOf l)) o.no) := by
  refine ⟨fun h => ?_, fun h => ?_⟩
  · obtain ⟨q, hq, he⟩ := List.mem_iff_getElem.1 ((doneOf_mem l o).2 ⟨ho, h⟩)
    refine ⟨q, ?_, hq, he⟩
    have := idx_get (doneOf l) (doneOf_nodup l) q o (by rw [List.getElem?_eq_getElem hq, he])
    exact this
  · refine (idx_none _ _).2 fun hm => ?_
    obtain ⟨x, hx, he⟩ := List.mem_map.1 hm
    have hx' := (doneOf_mem l x).1 hx
    have := no_inj (opsOf_nodup l) hx'.1 ho he
    subst this
    omega

set_option maxRecDepth 1000000 in
set_option maxHeartbeats 8000000 in
theorem line_walk (l : List Ev) (ao : Option Addr) (c : Nat) (w : World) (h1 : Reads w (.slice ao l.length c) l.length (l.flatMap evC)) (hn : l.length ≤ 9223372036854775807) :
    Calls Try.prog 5 #[.slice ao l.length c] w fun x w' => x = .returned (.bool true) ∧ Below w.heap.size w w' := by
  by_cases h100 : 100 < l.length
  · have h100z : (100 : Int) < (l.length : Int) := by omega
    go_enter Try.func5, Try.ntmps5
    go_wp2_with (go_at_call 17; refine (alive24_any _).mono ?_; rintro e w1 ⟨rfl, hb1⟩; have HB1 := hid hb1; clear hb1)
    go_ret
    exact ⟨rfl, HB1.out⟩
  have h100z : ¬ (100 : Int) < (l.length : Int) := by omega
  have HRD := hid h1
  have HMEM := hid (inLine l)
  have HND := hid (doneOf_nodup l)
  have HLEN := hid (doneOf_len l)
  have HORD := hid (doneOf_order l)
  have HOL := hid (opsOf_len l)
  have hdl : (doneOf l).length ≤ 100 := by have := List.countP_le_length (p := fun o : OpD => decide (0 ≤ o.did)) (l := opsOf l); have := doneOf_len l; have := opsOf_len l; omega
  have hmm := @run_makeMap Try.prog
  clear h1
  go_enter Try.func5, Try.ntmps5
  go_wp2_with (first
    | (go_at_call 17; refine (alive24_any _).mono ?_; rintro e w1 ⟨rfl, hb1⟩; have HB1 := hid hb1; clear hb1)
    | (go_at_call 18; refine (ops_any l _ w1 (HRD.out.below HB1.out (Nat.le_refl _)) (by omega)).mono ?_; rintro e w2 ⟨v2, rfl, ho2, hb2⟩; obtain ⟨ao2, c2, rfl⟩ := owns_shape ho2; have HO2 := hid (Reads.of_owns ho2); have HB2 := hid (HB1.out.trans (hb2.mono HB1.out.size)); clear ho2 hb2)
    | (go_at_call 19; refine (line_any l _ w2 (HRD.out.below HB2.out (Nat.le_refl _)) (by omega)).mono ?_; rintro e w3 ⟨v3, rfl, ho3, hb3⟩; obtain ⟨ao3, c3, rfl⟩ := owns_shape ho3; have HL3 := hid (Reads.of_owns ho3); have HO3 := hid (HO2.out.below hb3 (Nat.le_refl _)); have HB3 := hid (HB2.out.trans (hb3.mono HB2.out.size)); clear ho3 hb3))
  obtain ⟨bm, hbm⟩ : ∃ bm, bm = w3.heap.size := ⟨_, rfl⟩
  obtain ⟨w4, hw4⟩ : ∃ w4, w4 = w3.alloc (.map #[] 0) := ⟨_, rfl⟩
  have hM4 := MapIs.made (enc := Value.int .i64) (encV := Value.int .i64) w3
  have hB4 := (Below.refl w3.heap.size w3).alloc (Nat.le_refl _) (.map #[] 0)
  rw [← hw4, ← hbm] at hM4 hB4
  rw [← hw4, ← hbm]
  have HM4 := hid hM4
  have HB4 := hid hB4
  have HBM := hid hbm
  clear hM4 hB4 hw4 hbm HO2 HB1 HB2
  go_loopw [7] (fun iv wr => ∃ k : Nat, k ≤ (doneOf l).length ∧ iv = .int .i64 k ∧ Below bm w3 wr ∧ mII wr bm (idx ((doneOf l).take k))) (fun iv _ => (doneOf l).length - (intOf iv).toNat)
  case atStart => exact ⟨0, by omega, rfl, HB4.out, by simpa [idx] using HM4.out⟩
  case round =>
    clear HM4 HB4
    obtain ⟨k, hk, rfl, hB, hM⟩ := hrel
    have HB := hid hB
    have HM := hid hM
    clear hB hM
    by_cases hlt : k < (doneOf l).length
    · obtain ⟨b, o, hao, hc⟩ : ∃ b o, ao3 = some ⟨b, o, none⟩ ∧ w3.cell? ⟨b, o + k, none⟩ = some (.int .i64 (doneOf l)[k].no) := by
        obtain ⟨ao', c', hv, _, hx⟩ := HL3.out
        simp only [Value.slice.injEq] at hv
        obtain ⟨rfl, _, rfl⟩ := hv
        obtain ⟨b, o, e, hc⟩ := hx (by intro h; simp at h; simp [h] at hlt)
        exact ⟨b, o, e, hc k _ (by simp [hlt])⟩
      obtain rfl := hao
      have HT := hid (idx_take (doneOf l) HND.out k hlt)
      have p0 : wr.cell? ⟨b, o + k, none⟩ = some (.int .i64 (doneOf l)[k].no) := (HB.out.cell (by rw [HBM.out]; exact World.block_lt_of_cell? _ _ hc)).trans hc
      have hlook := mII_look HM.out (doneOf l)[k].no
      rw [HT.out.2] at hlook
      simp only [Option.map_none, Option.getD_none, Option.isSome_none] at hlook
      clear hc
      generalize (doneOf l)[k].no = no at *
      go_wp2_with (at_mapUpdate; refine Hid.out ?_)
      refine hid ?_
      refine wpList_update _ rfl 37 _ _ _ rfl (keyLaw_int Try.underlying3) Try.underlying37 bm _ HM.out rfl no rfl (k : Int) rfl ?_
      intro w5 hm5 hg5 hs5
      have HM5 := hid (show mII w5 bm (idx ((doneOf l).take (k + 1))) by rw [HT.out.1]; exact hm5)
      have HB5 := hid (HB.out.grown hg5 (by have := HM.out.lt; omega) (fun j e => by cases e; exact Nat.le_refl _))
      clear hm5 hg5 hs5 p0 hlook
      go_wp2
      go_roundw
      case rel => exact ⟨k + 1, by omega, by go_num, HB5.out, HM5.out⟩
      case measure => simp [intOf]; omega
    · obtain rfl : k = (doneOf l).length := by omega
      have hM := HM.out
      rw [List.take_length] at hM
      have HM6 := hid hM
      clear hM HM hk hlt
      rename World => w0
      go_wp2
      go_loopw [5, 10] (fun nv iv wr => ∃ k : Nat, k ≤ (opsOf l).length ∧ iv = .int .i64 k ∧ nv = .int .i64 (((opsOf l).take k).countP (fun o => decide (0 ≤ o.did)) : Nat) ∧ Below bm w3 wr ∧ mII wr bm (idx (doneOf l))) (fun _ iv _ => (opsOf l).length - (intOf iv).toNat)
      case atStart => exact ⟨0, by omega, rfl, by simp, HB.out, HM6.out⟩
      case round =>
        clear HM6 HB
        obtain ⟨k, hk, rfl, rfl, hB, hM⟩ := hrel
        have hol := HOL.out
        rename World => w00
        by_cases hlt : k < (opsOf l).length
        · have HI := hid (HMEM.out (opsOf l)[k] (List.getElem_mem hlt))
          have HCN := hid (show ((opsOf l).take (k + 1)).countP (fun o => decide (0 ≤ o.did)) = ((opsOf l).take k).countP (fun o => decide (0 ≤ o.did)) + if 0 ≤ (opsOf l)[k].did then 1 else 0 by rw [take_snoc_list _ k hlt, List.countP_append]; simp [List.countP_cons])
          have hcl : ((opsOf l).take k).countP (fun o => decide (0 ≤ o.did)) ≤ 100 := by have := List.countP_le_length (p := fun o : OpD => decide (0 ≤ o.did)) (l := (opsOf l).take k); simp at this; omega
          have HOPS : Hid (∀ W, Below bm w3 W → ∀ j (hj : j < (opsOf l).length), ∃ b o, ao2 = some ⟨b, o, none⟩ ∧ W.cell? ⟨b, o + j * 6, none⟩ = some (.int .i64 (opsOf l)[j].no) ∧ W.cell? ⟨b, o + j * 6 + 4, none⟩ = some (.int .i64 (opsOf l)[j].did)) := by
            intro W hW j hj
            obtain ⟨ao', c', hv, hx⟩ := (HO3.out.below hW (Nat.le_of_eq HBM.out.symm)).ops
            simp only [Value.slice.injEq] at hv
            obtain ⟨rfl, _, rfl⟩ := hv
            obtain ⟨b, o, e, hc⟩ := hx j _ (List.getElem?_eq_getElem hj)
            exact ⟨b, o, e, by simpa using hc 0 _ rfl, hc 4 _ rfl⟩
          obtain ⟨b, o, hao, p0, p4⟩ := HOPS.out w00 hB k hlt
          obtain rfl := hao
          have hlook := mII_look hM (opsOf l)[k].no
          have HX := hid (show ∃ x, x = (opsOf l)[k] from ⟨_, rfl⟩)
          have HB0 := hid hB
          have HM0 := hid hM
          clear hB hM
          by_cases hd : 0 ≤ (opsOf l)[k].did
          · obtain ⟨q, hq, hql, hqe⟩ := HI.out.1 hd
            rw [hq] at hlook
            simp only [Option.map_some, Option.getD_some, Option.isSome_some] at hlook
            have HQ := hid hqe
            go_wp2
            go_loopw [13] (fun jv wr => ∃ j : Nat, j ≤ k ∧ jv = .int .i64 j ∧ Below bm w3 wr ∧ mII wr bm (idx (doneOf l))) (fun jv _ => k - (intOf jv).toNat)
            case atStart => exact ⟨0, by omega, rfl, HB0.out, HM0.out⟩
            case round =>
              clear HB0 HM0 hlook p0 p4
              obtain ⟨j, hj, rfl, hB, hM⟩ := hrel
              by_cases hjk : j < k
              · have hjl : j < (opsOf l).length := by omega
                have HJ := HMEM.out (opsOf l)[j] (List.getElem_mem hjl)
                obtain ⟨b2, o2, e2, s0, s4⟩ := HOPS.out wr hB j hjl
                cases e2
                obtain ⟨b3, o3, e3, t0, t4⟩ := HOPS.out wr hB k hlt
                cases e3
                have hlk := mII_look hM (opsOf l)[j].no
                have HB1 := hid hB
                have HM1 := hid hM
                clear hB hM
                by_cases hdj : 0 ≤ (opsOf l)[j].did
                · obtain ⟨m, hm, hml, hme⟩ := HJ.1 hdj
                  rw [hm] at hlk
                  simp only [Option.map_some, Option.getD_some, Option.isSome_some] at hlk
                  have hor := HORD.out m q hml hql
                  rw [hme, HQ.out] at hor
                  generalize (opsOf l)[j].did = dj at *
                  generalize (opsOf l)[k].did = dk at *
                  by_cases hmq : m < q
                  · have hz1 : (m : Int) < (q : Int) := by omega
                    have hz2 : dj < dk := hor.1 hmq
                    clear hor hme hmq hm HJ
                    go_wp2_with fail
                    go_quiet (fail)
                    go_wp2
                    go_roundw
                    case rel => exact ⟨j + 1, by omega, by go_num, below_drewN HB1.out _, HM1.out.kept rfl⟩
                    case measure => simp [intOf]; omega
                  · have HZ := hid (show (!decide (m < q) == decide (dj < dk)) = false by rw [decide_eq_false hmq, decide_eq_false (fun h => hmq (hor.2 h))]; rfl)
                    clear hor hme hmq hm HJ
                    go_wp2_with fail
                    go_quiet (fail)
                    have hz := HZ.out
                    go_wp2
                    · exfalso; have hx := ‹(!decide (m < q) == decide (dj < dk)) = true›; rw [hz] at hx; cases hx
                    go_roundw
                    case rel => exact ⟨j + 1, by omega, by go_num, below_drewN HB1.out _, HM1.out.kept rfl⟩
                    case measure => simp [intOf]; omega
                · have hm := HJ.2 (by omega)
                  rw [hm] at hlk
                  simp only [Option.map_none, Option.getD_none, Option.isSome_none] at hlk
                  clear hm HJ
                  go_wp2_with fail
                  go_quiet (fail)
                  go_wp2
                  go_roundw
                  case rel => exact ⟨j + 1, by omega, by go_num, below_drewN HB1.out _, HM1.out.kept rfl⟩
                  case measure => simp [intOf]; omega
              · obtain rfl : j = k := by omega
                have HB1 := hid hB
                have HM1 := hid hM
                clear hB hM
                go_wp2
                go_roundw
                case rel => exact ⟨j + 1, by omega, by go_num, by rw [HCN.out, if_pos hd]; rfl, HB1.out, HM1.out⟩
                case measure => simp [intOf]; omega
          · have hq := HI.out.2 (by omega)
            rw [hq] at hlook
            simp only [Option.map_none, Option.getD_none, Option.isSome_none] at hlook
            go_wp2
            go_loopw [13] (fun jv wr => ∃ j : Nat, j ≤ k ∧ jv = .int .i64 j ∧ Below bm w3 wr ∧ mII wr bm (idx (doneOf l))) (fun jv _ => k - (intOf jv).toNat)
            case atStart => exact ⟨0, by omega, rfl, HB0.out, HM0.out⟩
            case round =>
              clear HB0 HM0 hlook p0 p4
              obtain ⟨j, hj, rfl, hB, hM⟩ := hrel
              by_cases hjk : j < k
              · have hjl : j < (opsOf l).length := by omega
                have HJ := HMEM.out (opsOf l)[j] (List.getElem_mem hjl)
                obtain ⟨b2, o2, e2, s0, s4⟩ := HOPS.out wr hB j hjl
                cases e2
                obtain ⟨b3, o3, e3, t0, t4⟩ := HOPS.out wr hB k hlt
                cases e3
                have hlk := mII_look hM (opsOf l)[j].no
                have HB1 := hid hB
                have HM1 := hid hM
                clear hB hM
                by_cases hdj : 0 ≤ (opsOf l)[j].did
                · obtain ⟨m, hm, hml, hme⟩ := HJ.1 hdj
                  rw [hm] at hlk
                  simp only [Option.map_some, Option.getD_some, Option.isSome_some] at hlk
                  clear hme hm HJ
                  go_wp2_with fail
                  go_quiet (fail)
                  go_wp2
                  go_roundw
                  case rel => exact ⟨j + 1, by omega, by go_num, below_drewN HB1.out _, HM1.out.kept rfl⟩
                  case measure => simp [intOf]; omega
                · have hm := HJ.2 (by omega)
                  rw [hm] at hlk
                  simp only [Option.map_none, Option.getD_none, Option.isSome_none] at hlk
                  clear hm HJ
                  go_wp2_with fail
                  go_quiet (fail)
                  go_wp2
                  go_roundw
                  case rel => exact ⟨j + 1, by omega, by go_num, below_drewN HB1.out _, HM1.out.kept rfl⟩
                  case measure => simp [intOf]; omega
              · obtain rfl : j = k := by omega
                have HB1 := hid hB
                have HM1 := hid hM
                clear hB hM
                go_wp2
                go_roundw
                case rel => exact ⟨j + 1, by omega, by go_num, by rw [HCN.out, if_neg (by omega)]; rfl, HB1.out, HM1.out⟩
                case measure => simp [intOf]; omega
        · obtain rfl : k = (opsOf l).length := by omega
          have hfin : ((((opsOf l).take (opsOf l).length).countP (fun o => decide (0 ≤ o.did)) : Nat) : Int) = ((doneOf l).length : Int) := by rw [List.take_length, HLEN.out]
          rw [hfin]
          have HBF := hid (HB3.out.trans (hB.mono (by rw [HBM.out]; exact HB3.out.size)))
          clear hB hM
          go_wp2
          go_ret
          exact ⟨by simp, HBF.out⟩
end Go.Proofs.Ytpnkkdpggofanaa
