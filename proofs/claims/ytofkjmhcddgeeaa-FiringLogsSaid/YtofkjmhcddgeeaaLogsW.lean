/- vergelaw12.FiringLogs: its walk: it returns true, and nothing that was there has turned. -/
import Derived.Test.YtofkjmhcddgeeaaLen
import Derived.Test.YtofkjmhcddgeeaaRefIds
import Derived.Test.YtofkjmhcddgeeaaRefOf
namespace Go.Proofs.Ytofkjmhcddgeeaa
open Go.RowKit Go.Shelf

/-- What the last row leans on. -/
def LogsAt (w0 : World) (bl : Nat) (vall : Value) (all : List Fir) (W : World) : Prop :=
  (∃ B, LogIs B W bl all) ∧ Reads W vall all.length (all.flatMap firC) ∧ Below w0.heap.size w0 W
theorem LogsAt.later {w0 W W' : World} {bl : Nat} {vall : Value} {all : List Fir} (h : LogsAt w0 bl vall all W) (hb : Below W.heap.size W W') : LogsAt w0 bl vall all W' := by
  obtain ⟨⟨B, h1⟩, h2, h3⟩ := h
  exact ⟨⟨B, h1.later hb⟩, h2.below hb (Nat.le_refl _), h3.trans (hb.mono h3.size)⟩
theorem uints_t (l1 l2 : List Int) (v1 v2 : Value) (w : World) (h1 : Reads w v1 l1.length (l1.map (Value.int .u64))) (h2 : Reads w v2 l2.length (l2.map (Value.int .u64))) (hn1 : l1.length ≤ 1000000) (he : l1 = l2) :
    Calls Try.prog 23 #[v1, v2] w fun e w' => e = .returned (.bool true) ∧ Below w.heap.size w w' :=
  (uints_b l1 l2 v1 v2 w h1 h2 hn1).mono fun e w' ⟨he', hb⟩ => ⟨by rw [he', decide_eq_true he], hb⟩

set_option maxHeartbeats 4000000 in
theorem logs_walk (a b : List Fir) (va vb : Value) (id tick : Int) (w : World) (h1 : Reads w va a.length (a.flatMap firC)) (h2 : Reads w vb b.length (b.flatMap firC)) (hn : a.length ≤ 9223372036854775807) (hn2 : b.length ≤ 9223372036854775807)
    (hwa : ∀ f ∈ a, f.wf) (hwb : ∀ f ∈ b, f.wf) :
    Calls Try.prog 6 #[va, vb, .int .u64 id, .int .u64 tick] w fun e w' => e = .returned (.bool true) ∧ Below w.heap.size w w' := by
  have hra := hid h1
  have hrb := hid h2
  have hwf := hid (show ∀ f ∈ a ++ b, 0 ≤ f.id ∧ f.id ≤ 18446744073709551615 from fun f hf => (List.mem_append.1 hf).elim (fun h => (hwa f h).1) (fun h => (hwb f h).1))
  obtain ⟨ao1, c1, rfl, g1⟩ := h1.fir
  obtain ⟨ao2, c2, rfl, g2⟩ := h2.fir
  clear g1 h1 g2 h2 hwa hwb
  have hflat := hid (flatMap_length firC 4 firC_len)
  obtain ⟨i0, hi, hz0, hz1', hz2'⟩ := info_parts fir_info
  by_cases hbig : 100 < a.length
  · go_enter Try.func6, Try.ntmps6
    go_wp2_with (go_at_call 8; refine (alive12_any _).mono ?_; rintro e w1 ⟨rfl, hb1⟩)
    go_ret
    exact ⟨rfl, hb1⟩
  by_cases hbig2 : 100 < b.length
  · go_enter Try.func6, Try.ntmps6
    go_wp2_with (go_at_call 8; refine (alive12_any _).mono ?_; rintro e w1 ⟨rfl, hb1⟩)
    go_ret
    exact ⟨rfl, hb1⟩
  have hna : a.length ≤ 100 := by omega
  have hnb : b.length ≤ 100 := by omega
  clear hn hn2
  go_enter Try.func6, Try.ntmps6
  go_wp2_with fail
  refine (alive12_any _).mono ?_
  rintro e w1 ⟨rfl, hb1⟩
  have HB1 := hid hb1
  have hz1 := hb1.size
  clear hb1
  go_wp2_with fail
  refine (new_any w1).mono ?_
  rintro e w2 ⟨rfl, hbox2, hb2, hs2⟩
  have HB2 := hid (HB1.out.trans (hb2.mono hz1))
  have HX2 := hid hbox2
  have HS0 := hid ((World.ownsRow_lit w2 (#[] : Array Value) 0 (base := w2.heap.size) (size := 4) (e := 30) (Nat.le_refl _) (by decide) rfl))
  have hlt2 : w1.heap.size < w2.heap.size := by rw [hs2]; omega
  clear hbox2 hb2 hs2
  go_wp2_with (first
    | (at_builtin; refine wpList_append_any _ rfl _ _ 22 rfl w2.heap.size 30 i0 _ 4 32 Try.underlying22 hi hz0 hz1' hz2' rfl (by decide) _ _ _ rfl HO1.out.1 _ b.length (b.flatMap firC) rfl (hrb.out.below HO1.out.2.2 (Nat.le_refl _)) (hflat.out b) (firs_one b) (by unfold maxLen; omega) (by omega) HO1.out.2.1.size ?_; intro bo2 cap2 w5 hown' hgrow; have HO2 := hid (And.intro hown' (And.intro (HO1.out.2.1.grown hgrow HO1.out.2.1.size (fun k hk => (HO1.out.1.lt k hk).1)) (HO1.out.2.2.grown hgrow HO1.out.2.2.size (fun k hk => by have := (HO1.out.1.lt k hk).1; omega)))); clear hown' hgrow)
    | (at_builtin; refine wpList_append_any _ rfl _ _ 22 rfl w2.heap.size 30 i0 _ 4 32 Try.underlying22 hi hz0 hz1' hz2' rfl (by decide) _ 0 [] rfl HS0.out _ a.length (a.flatMap firC) rfl (hra.out.below (HB2.out.alloc HB2.out.size _) (Nat.le_refl _)) (hflat.out a) (firs_one a) (by unfold maxLen; omega) (by omega) (by simp) ?_; intro bo cap w4 hown' hgrow; have HO1 := hid (And.intro (show w4.ownsRow w2.heap.size 30 4 (.slice bo a.length cap) a.length (a.flatMap firC) from (by simpa using hown')) (And.intro (((Below.refl w2.heap.size w2).alloc (Nat.le_refl _) (.cells #[] 30)).grown hgrow (by simp) (fun k hk => (HS0.out.lt k hk).1)) ((HB2.out.alloc HB2.out.size _).grown hgrow (Nat.le_trans HB2.out.size (by simp)) (fun k hk => Nat.le_trans HB2.out.size (HS0.out.lt k hk).1)))); clear hown' hgrow))
  go_wp2_with fail
  have hX5 := hid (show Boxed w5 w1.heap.size 48 (.slice none 0 0) from (HO2.out.2.1.block _ hlt2).trans HX2.out)
  refine (put_any w5.heap.size w1.heap.size [] a _ _ w5 (Nat.le_refl _) hX5.out (World.ownsRow_nil _ _ _ _) (hra.out.below HO2.out.2.2 (Nat.le_refl _)) (by simp; omega)).mono ?_
  rintro e w6 ⟨rfl, hlog6, hchg6⟩
  have hz5 : w.heap.size ≤ w5.heap.size := HO2.out.2.2.size
  have hlt5 : w2.heap.size ≤ w5.heap.size := HO2.out.2.1.size
  have hz6 := hchg6.size
  have hB6 : Below w.heap.size w w6 := HO2.out.2.2.trans (hchg6.below hz5 (fun k hk => by rcases hk with rfl | h; exact hz1; simp [Value.ownBlock] at h))
  have hO6 : w6.ownsRow w2.heap.size 30 4 (.slice bo2 (a.length + b.length) cap2) (a.length + b.length) (a.flatMap firC ++ b.flatMap firC) := hchg6.owns HO2.out.1 (fun k hk h => by
    have := HO2.out.1.lt k hk
    rcases h with rfl | h
    · omega
    · simp [Value.ownBlock] at h)
  obtain ⟨v6, hx6, ho6⟩ := hlog6
  simp only [List.nil_append] at ho6
  have HX6 := hid hx6
  have HL6 := hid ho6
  have HO6 := hid hO6
  have HB6 := hid hB6
  have HLT := hid (fun k hk => (HO2.out.1.lt k hk))
  clear hchg6 hx6 ho6 hO6 hB6
  go_wp2_with fail
  refine (put_any w5.heap.size w1.heap.size a b v6 _ w6 hz6 HX6.out HL6.out (hrb.out.below HB6.out (Nat.le_refl _)) (by omega)).mono ?_
  rintro e w7 ⟨rfl, hlog7, hchg7⟩
  have hB7 : Below w.heap.size w w7 := HB6.out.trans (hchg7.below (by omega) (fun k hk => by rcases hk with rfl | h; exact hz1; have := (HL6.out.lt k h).1; omega))
  have hO7 := hchg7.owns HO6.out (fun k hk h => by
    have := HLT.out k hk
    rcases h with rfl | h
    · omega
    · have := (HL6.out.lt k h).1; omega)
  have hl7 : LogsAt w w1.heap.size (.slice bo2 (a.length + b.length) cap2) (a ++ b) w7 := ⟨⟨_, hlog7⟩, by rw [List.length_append, List.flatMap_append]; exact Reads.of_owns hO7, hB7⟩
  have HL7 := hid hl7
  have hlen : (a ++ b).length ≤ 1000000 := by rw [List.length_append]; omega
  have HLN := hid hlen
  have HNN := hid (show (a ++ b).length = a.length + b.length from List.length_append)
  clear hB7 hO7 hl7 hlog7 hchg7 HX6 HL6 HO6 HB6 HLT hlen HO2 HO1 HS0 HX2 HB2 hX5
  generalize hAll : a ++ b = all at *
  generalize hNN : a.length + b.length = N at *
  generalize hBL : w1.heap.size = bl at *
  clear hAll hNN hBL
  have hf1 := fun p : Fir → Bool => List.length_filter_le p all
  have HF := hid (fun p : Fir → Bool => Nat.le_trans (hf1 p) HLN.out)
  clear hf1
  go_wp2_with fail
  refine (all_any _ bl all w7 HL7.out.1.choose_spec HLN.out).mono ?_
  rintro e w8 ⟨v8, rfl, ho, hb⟩
  have HL8 := hid (HL7.out.later hb)
  have HR8 := hid (Reads.of_owns ho)
  clear ho hb
  go_wp2_with fail
  refine (same_t all all _ _ w8 HR8.out HL8.out.2.1 HLN.out rfl).mono ?_
  rintro e w9 ⟨rfl, hb⟩
  have HL9 := hid (HL8.out.later hb)
  clear hb
  go_wp2_with fail
  refine (of_any _ bl all id w9 HL9.out.1.choose_spec HLN.out).mono ?_
  rintro e w10 ⟨v10, rfl, ho, hb⟩
  have HL10 := hid (HL9.out.later hb)
  have HR10 := hid (Reads.of_owns ho)
  clear ho hb
  go_wp2_with fail
  refine (refOf_any all _ id w10 HL10.out.2.1 HLN.out).mono ?_
  rintro e w11 ⟨v11, rfl, ho, hb⟩
  have HL11 := hid (HL10.out.later hb)
  have HR11 := hid (Reads.of_owns ho)
  have HR10b := hid (HR10.out.below hb (Nat.le_refl _))
  clear ho hb
  go_wp2_with fail
  refine (same_t _ _ _ _ w11 HR10b.out HR11.out (HF.out _) rfl).mono ?_
  rintro e w12 ⟨rfl, hb⟩
  have HL12 := hid (HL11.out.later hb)
  clear hb
  go_wp2_with fail
  refine (at_any _ bl all tick w12 HL12.out.1.choose_spec HLN.out).mono ?_
  rintro e w13 ⟨v13, rfl, ho, hb⟩
  have HL13 := hid (HL12.out.later hb)
  have HR13 := hid (Reads.of_owns ho)
  clear ho hb
  go_wp2_with fail
  refine (refAt_any all _ tick w13 HL13.out.2.1 HLN.out).mono ?_
  rintro e w14 ⟨v14, rfl, ho, hb⟩
  have HL14 := hid (HL13.out.later hb)
  have HR14 := hid (Reads.of_owns ho)
  have HR13b := hid (HR13.out.below hb (Nat.le_refl _))
  clear ho hb
  go_wp2_with fail
  refine (same_t _ _ _ _ w14 HR13b.out HR14.out (HF.out _) rfl).mono ?_
  rintro e w15 ⟨rfl, hb⟩
  have HL15 := hid (HL14.out.later hb)
  clear hb
  go_wp2_with fail
  refine (idsOr_any _ all w15 (.inl ⟨_, bl, rfl, HL15.out.1.choose_spec⟩) HLN.out hwf.out).mono ?_
  rintro e w16 ⟨v16, rfl, ho, hb⟩
  have HL16 := hid (HL15.out.later hb)
  have HR16 := hid (show Reads w16 v16 (idsOf all).length ((idsOf all).map (Value.int .u64)) from Reads.of_owns ho)
  clear ho hb
  go_wp2_with fail
  refine (refIds_any all _ w16 HL16.out.2.1 HLN.out).mono ?_
  rintro e w17 ⟨v17, rfl, ho, hb⟩
  have HL17 := hid (HL16.out.later hb)
  have HR17 := hid (show Reads w17 v17 (idsOf all).length ((idsOf all).map (Value.int .u64)) from Reads.of_owns ho)
  have HR16b := hid (HR16.out.below hb (Nat.le_refl _))
  clear ho hb
  go_wp2_with fail
  refine (uints_t _ _ _ _ w17 HR16b.out HR17.out (Nat.le_trans (idsOf_le all) HLN.out) rfl).mono ?_
  rintro e w18 ⟨rfl, hb⟩
  have HL18 := hid (HL17.out.later hb)
  clear hb
  go_wp2_with fail
  refine (lenOr_any _ all w18 (.inl ⟨_, bl, rfl, HL18.out.1.choose_spec⟩) HLN.out).mono ?_
  rintro e w19 ⟨rfl, hb⟩
  have HL19 := hid (HL18.out.later hb)
  clear hb
  rw [HNN.out]
  go_wp2
  go_ret
  exact ⟨rfl, HL19.out.2.2⟩
end Go.Proofs.Ytofkjmhcddgeeaa
