/- vergelaw12.FiringParts: its walk: it returns true, and nothing that was there has turned. -/
import Derived.Test.YtofkjmhcddgeeaaLen
import Derived.Test.YtofkjmhcddgeeaaPartsLaw
namespace Go.Proofs.Ytofkjmhcddgeeaa
open Go.RowKit Go.Shelf

/-- Between two rounds. -/
def PartsAt (w0 : World) (bl : Nat) (va vs : Value) (a : List Fir) (s : List Int) (W : World) : Prop :=
  (∃ B, LogIs B W bl a) ∧ Reads W va a.length (a.flatMap firC) ∧ Reads W vs s.length (s.map (Value.int .u64)) ∧ Below w0.heap.size w0 W
theorem PartsAt.later {w0 W W' : World} {bl : Nat} {va vs : Value} {a : List Fir} {s : List Int} (h : PartsAt w0 bl va vs a s W) (hb : Below W.heap.size W W') : PartsAt w0 bl va vs a s W' := by
  obtain ⟨⟨B, h1⟩, h2, h4, h3⟩ := h
  exact ⟨⟨B, h1.later hb⟩, h2.below hb (Nat.le_refl _), h4.below hb (Nat.le_refl _), h3.trans (hb.mono h3.size)⟩

theorem kept_none {w w' : World} {base : Nat} {e : TypeId} {size : Nat} {v : Value} {n : Nat} {xs : List Value} (h : w.ownsRow base e size v n xs) (hg : w.grownBy w' none) : w'.ownsRow base e size v n xs :=
  h.kept hg (by cases v.ownBlock with | none => exact .inl rfl | some g => exact .inr (by simp))
theorem owns_at {w : World} {base : Nat} {e : TypeId} {size : Nat} {ao : Option Addr} {n c : Nat} {xs : List Value} (h : w.ownsRow base e size (.slice ao n c) n xs) (h0 : 0 < n) : ∃ g, ao = some ⟨g, 0, none⟩ ∧ base ≤ g ∧ g < w.heap.size ∧ ∀ i, w.frozen? ⟨g, i, none⟩ = false := by
  rcases h.2 with ⟨_, hz⟩ | ⟨g, cap, cur, hv, hb, hg, _⟩
  · omega
  · simp only [Value.slice.injEq] at hv
    obtain ⟨rfl, _, rfl⟩ := hv
    exact ⟨g, rfl, hb, (Array.getElem?_eq_some_iff.1 hg).1, fun i => by simp [World.frozen?, hg]⟩

set_option maxHeartbeats 4000000 in
theorem parts_walk (a : List Fir) (va : Value) (w : World) (h1 : Reads w va a.length (a.flatMap firC)) (hn : a.length ≤ 9223372036854775807) (hwf : ∀ f ∈ a, f.wf) :
    Calls Try.prog 5 #[va] w fun e w' => e = .returned (.bool true) ∧ Below w.heap.size w w' := by
  have hra := hid h1
  have hw := hid (show ∀ f ∈ a, 0 ≤ f.id ∧ f.id ≤ 18446744073709551615 from fun f hf => (hwf f hf).1)
  obtain ⟨ao1, c1, rfl, g1⟩ := h1.fir
  clear g1 h1 hwf
  by_cases hbig : 100 < a.length
  · go_enter Try.func5, Try.ntmps5
    go_wp2_with (go_at_call 8; refine (alive12_any _).mono ?_; rintro e w1 ⟨rfl, hb1⟩)
    go_ret
    exact ⟨rfl, hb1⟩
  have hna : a.length ≤ 100 := by omega
  clear hn
  have hlaw := parts_ids a
  have hsle := idsOf_le a
  have hslt := hid (idsOf_lt a)
  go_enter Try.func5, Try.ntmps5
  go_wp2_with fail
  refine (alive12_any _).mono ?_
  rintro e w1 ⟨rfl, hb1⟩
  have HB1 := hid hb1
  have hz1 := hb1.size
  clear hb1
  go_wp2_with fail
  refine (new_any w1).mono ?_
  rintro e w2 ⟨rfl, hbox2, hb2, hs2⟩
  have HB2 := hid (HB1.out.trans (hb2.mono hz1))
  have HX2 := hid hbox2
  clear hbox2 hb2 hs2
  go_wp2_with fail
  refine (put_any w2.heap.size w1.heap.size [] a _ _ w2 (Nat.le_refl _) HX2.out (World.ownsRow_nil _ _ _ _) (hra.out.below HB2.out (Nat.le_refl _)) (by simp; omega)).mono ?_
  rintro e w3 ⟨rfl, hlog3, hchg3⟩
  have HB3 := hid (HB2.out.trans (hchg3.below HB2.out.size (fun k hk => by rcases hk with rfl | h; exact hz1; simp [Value.ownBlock] at h)))
  have HL3 := hid hlog3
  have hz3 := HB3.out.size
  clear hlog3 hchg3
  go_wp2_with fail
  refine (idsOr_any _ a w3 (.inl ⟨_, w1.heap.size, rfl, HL3.out⟩) (by omega) hw.out).mono ?_
  rintro e w4 ⟨vs, rfl, ho, hb⟩
  have HO4 := hid (show Reads w4 vs (idsOf a).length ((idsOf a).map (Value.int .u64)) from Reads.of_owns ho)
  obtain ⟨ao4, c4, rfl⟩ := owns_shape ho
  have HB4 := hid (HB3.out.trans (hb.mono hz3))
  have HL4 := hid (HL3.out.later hb)
  clear ho hb
  go_wp2_with fail
  refine (faults_any a _ w4 (hra.out.below HB4.out (Nat.le_refl _)) (by omega)).mono ?_
  rintro e w5 ⟨v5, rfl, ho, hb⟩
  obtain ⟨ao5, c5, rfl⟩ := owns_shape ho
  have HP5 := hid (show PartsAt w w1.heap.size (.slice ao1 a.length c1) (.slice ao4 (idsOf a).length c4) a (idsOf a) w5 from
    ⟨⟨_, HL4.out.later hb⟩, (hra.out.below HB4.out (Nat.le_refl _)).below hb (Nat.le_refl _), HO4.out.below hb (Nat.le_refl _), HB4.out.trans (hb.mono HB4.out.size)⟩)
  clear ho hb HB4 HL4 HO4 HL3 HB3 HX2 HB2 HB1
  rw [show (faultsTo a a.length).length = fcnt a from rfl]
  have hfle := fcnt_le a
  have HLAW := hid hlaw
  have hsum1 : sumOf (fun x => (ownOf a x).length) (idsOf a) ≤ 100 := by rw [hlaw.1]; omega
  have hsum2 : sumOf (fun x => fcnt (ownOf a x)) (idsOf a) ≤ 100 := by rw [hlaw.2]; omega
  generalize hfc : fcnt a = F at *
  clear hfc hlaw
  generalize idsOf a = s at *
  generalize w1.heap.size = bl at *
  go_wp2
  go_loopw [4, 6, 7] (fun nv ev i wr => ∃ k : Nat, k ≤ s.length ∧ i = .int .i64 k ∧ nv = .int .i64 (sumOf (fun x => (ownOf a x).length) (s.take k) : Nat) ∧ ev = .int .i64 ((F : Int) - (sumOf (fun x => fcnt (ownOf a x)) (s.take k) : Nat)) ∧ PartsAt w bl (.slice ao1 a.length c1) (.slice ao4 s.length c4) a s wr) (fun _ _ i _ => s.length - (intOf i).toNat)
  case atStart => exact ⟨0, by omega, rfl, rfl, by simp [sumOf], HP5.out⟩
  case round =>
    obtain ⟨k, hk, rfl, rfl, rfl, hp⟩ := hrel
    have HP := hid hp
    have hsz := hp.2.2.2.size
    have ht1 := sumOf_take_le (fun x => (ownOf a x).length) s k
    have ht2 := sumOf_take_le (fun x => fcnt (ownOf a x)) s k
    clear hp
    by_cases hlt : k < s.length
    · have hst := hid (take_snoc_list s k hlt)
      have ht3 := sumOf_take_le (fun x => (ownOf a x).length) s (k + 1)
      have ht4 := sumOf_take_le (fun x => fcnt (ownOf a x)) s (k + 1)
      rw [hst.out, sumOf_snoc] at ht3 ht4
      obtain ⟨ao', c', hv', hx'⟩ := HP.out.2.2.1.ints
      simp only [Value.slice.injEq] at hv'
      obtain ⟨rfl, _, rfl⟩ := hv'
      obtain ⟨bs, os, hao, hcs⟩ := hx' k s[k] (List.getElem?_eq_getElem hlt)
      subst hao
      have hbs := World.block_lt_of_cell? wr _ hcs
      have HXS := hid hx'
      have hown0 := of_any _ bl a s[k] wr HP.out.1.choose_spec (by omega)
      have HOF := hid hown0
      clear hx' hown0
      generalize hsk : s[k] = x at *
      go_wp2_with fail
      refine HOF.out.mono ?_
      rintro e w6 ⟨v6, rfl, ho6, hb6⟩
      obtain ⟨ao6, c6, rfl⟩ := owns_shape ho6
      rw [show (a.filter fun f => f.id == x) = ownOf a x from rfl] at *
      have HO6 := hid ho6
      have HP6 := hid (HP.out.later hb6)
      have hz6 := hb6.size
      have HB6 := hid hb6
      have hole : (ownOf a x).length ≤ 100 := by have := List.length_filter_le (fun f : Fir => f.id == x) a; unfold ownOf; omega
      clear ho6 hb6
      go_wp2_with fail
      refine (faults_any (ownOf a x) _ w6 (Reads.of_owns HO6.out) (by omega)).mono ?_
      rintro e w7 ⟨v7, rfl, ho7, hb7⟩
      obtain ⟨ao7, c7, rfl⟩ := owns_shape ho7
      rw [show (faultsTo (ownOf a x) (ownOf a x).length).length = fcnt (ownOf a x) from rfl]
      have hfx := fcnt_le (ownOf a x)
      have HP7 := hid (HP6.out.later hb7)
      have HO7 := hid (show w7.ownsRow wr.heap.size 30 4 (.slice ao6 (ownOf a x).length c6) (ownOf a x).length ((ownOf a x).flatMap firC) from
        kept_none HO6.out (grownBy_of_below hb7 none))
      have HB7 := hid (HB6.out.trans (hb7.mono hz6))
      have hz7 := hb7.size
      clear ho7 hb7
      generalize hm : (ownOf a x).length = m at *
      have HML := hid hm
      clear hm
      obtain ⟨wo, hwo⟩ : ∃ wo : World, wo = wr := ⟨_, rfl⟩
      subst hwo
      go_wp2
      go_loopw [9] (fun i wi => ∃ (j : Nat) (xs : List Fir), j ≤ m ∧ i = .int .i64 j ∧ xs.length = m ∧ wi.ownsRow wo.heap.size 30 4 (.slice ao6 m c6) m (xs.flatMap firC) ∧ Below wo.heap.size w7 wi) (fun i _ => m - (intOf i).toNat)
      case atStart => exact ⟨0, _, by omega, rfl, HML.out, HO7.out, Below.refl _ _⟩
      case round =>
        obtain ⟨j, xs, hj, rfl, hxl, hown, hbi⟩ := hrel
        have HOI := hid hown
        have HBI := hid hbi
        have hsi := hbi.size
        have HXL := hid hxl
        clear hown hbi hxl
        by_cases hjlt : j < m
        · obtain ⟨g, rfl, hg1, hg2, hg3⟩ := owns_at HOI.out (by omega)
          have hjx : j < xs.length := by rw [HXL.out]; exact hjlt
          have hrr : Reads wr (.slice (some ⟨g, 0, none⟩) m c6) xs.length (xs.flatMap firC) := by rw [HXL.out]; exact Reads.of_owns HOI.out
          obtain ⟨ao', c', hv', hx'⟩ := hrr.fir
          simp only [Value.slice.injEq] at hv'
          obtain ⟨rfl, _, rfl⟩ := hv'
          obtain ⟨b', o', hao, p0, _, _, _⟩ := hx' j _ (List.getElem?_eq_getElem hjx)
          simp only [Option.some.injEq, Addr.mk.injEq] at hao
          obtain ⟨rfl, rfl, _⟩ := hao
          rw [Nat.zero_add] at p0
          have hfz := hg3 (j * 4)
          have HST := hid (fun u => flatMap_set xs j hjx u)
          clear hx' hrr hg3
          go_wp2
          go_roundw
          case rel =>
            exact ⟨j + 1, xs.set j { xs[j] with id := IntKind.u64.wrap (xs[j].id + 1) }, by omega, by go_num, by rw [List.length_set]; exact HXL.out, by rw [← HST.out]; exact owns_set HOI.out _ _, HBI.out.setCell hg1 _⟩
          case measure => simp [intOf]; omega
        · have HPR := hid (show PartsAt w bl (.slice ao1 a.length c1) (.slice (some ⟨bs, os, none⟩) s.length c4) a s wr from
            (show PartsAt w bl (.slice ao1 a.length c1) (.slice (some ⟨bs, os, none⟩) s.length c4) a s wr from HP.out.later (HB7.out.trans HBI.out)))
          have hbsz : bs < wr.heap.size := Nat.lt_of_lt_of_le hbs (HPR.out.2.2.2.size |> fun _ => Nat.le_trans (HB7.out.size) hsi)
          have hck := (HB7.out.trans HBI.out).cell (p := ⟨bs, os + k, none⟩) hbs |>.trans hcs
          have hsn := hid (show sumOf (fun x => (ownOf a x).length) (s.take (k + 1)) = sumOf (fun x => (ownOf a x).length) (s.take k) + m from by rw [hst.out, sumOf_snoc]; exact congrArg _ HML.out)
          have hsf := hid (show sumOf (fun x => fcnt (ownOf a x)) (s.take (k + 1)) = sumOf (fun x => fcnt (ownOf a x)) (s.take k) + fcnt (ownOf a x) from by rw [hst.out, sumOf_snoc])
          clear hcs
          generalize hw8 : wr = w8 at *
          have hjm : ¬ ((j : Int) < (m : Int)) := by omega
          clear hjlt
          by_cases hk0 : k = 0
          · have hd : decide (0 < k) = false := by simp; omega
            clear hk0
            go_wp2
            go_quiet (fail)
            go_wp2
            go_roundw
            case rel => exact ⟨k + 1, by omega, by go_num, by rw [hsn.out]; go_num, by rw [hsf.out]; go_num, HPR.out.later (below_drewN (Below.refl _ _) _)⟩
            case measure => simp [intOf]; omega
          · have hkp : 0 < k := by omega
            obtain ⟨b2, o2, hao2, hc2⟩ := HXS.out (k - 1) s[k - 1] (List.getElem?_eq_getElem (by omega))
            simp only [Option.some.injEq, Addr.mk.injEq] at hao2
            obtain ⟨rfl, rfl, _⟩ := hao2
            have hck2 := (HB7.out.trans HBI.out).cell (p := ⟨bs, os + (k - 1), none⟩) hbs |>.trans hc2
            have hyx : s[k - 1] < x := by rw [← hsk]; exact List.pairwise_iff_getElem.1 hslt.out (k - 1) k (by omega) hlt (by omega)
            generalize s[k - 1] = y at *
            have hge : decide (x ≤ y) = false := by simp; omega
            clear hc2 hyx hk0
            go_wp2
            go_quiet (fail)
            go_wp2
            go_roundw
            case rel => exact ⟨k + 1, by omega, by go_num, by rw [hsn.out]; go_num, by rw [hsf.out]; go_num, HPR.out.later (below_drewN (Below.refl _ _) _)⟩
            case measure => simp [intOf]; omega
    · have hks : k = s.length := by omega
      subst hks
      rw [List.take_length, HLAW.out.1, HLAW.out.2]
      have hall := all_any _ bl a wr HP.out.1.choose_spec (by omega)
      have HAL := hid hall
      clear hall
      have hfz : (F : Int) - (F : Int) = 0 := by omega
      rw [hfz]
      clear hfz
      go_wp2_with fail
      refine HAL.out.mono ?_
      rintro e w9 ⟨v9, rfl, ho, hb⟩
      have HR9 := hid (Reads.of_owns ho)
      have HP9 := hid (HP.out.later hb)
      clear ho hb
      go_wp2_with fail
      refine (same_t a a _ _ w9 HR9.out HP9.out.2.1 (by omega) rfl).mono ?_
      rintro e w10 ⟨rfl, hb⟩
      have HB10 := hid (HP9.out.later hb).2.2.2
      clear hb
      go_wp2
      go_ret
      exact ⟨rfl, HB10.out⟩
end Go.Proofs.Ytofkjmhcddgeeaa
