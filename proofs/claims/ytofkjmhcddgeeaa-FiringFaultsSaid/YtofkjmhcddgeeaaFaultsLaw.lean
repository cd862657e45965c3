/- vergelaw12.FiringFaults: its walk: it returns true, and nothing that was there has turned. -/
import Derived.Test.YtofkjmhcddgeeaaAlive12
import Derived.Test.YtofkjmhcddgeeaaRefFaults
import Derived.Test.YtofkjmhcddgeeaaRhythm
namespace Go.Proofs.Ytofkjmhcddgeeaa
open Go.RowKit Go.Shelf

set_option maxHeartbeats 4000000 in
theorem faultsLaw_walk (a : List Fir) (v : Value) (start period : Int) (w : World) (h1 : Reads w v a.length (a.flatMap firC)) (hn : a.length ≤ 9223372036854775807) (hwf : ∀ f ∈ a, f.wf) (hs0 : 0 ≤ start) (hs1 : start ≤ 18446744073709551615) (hp0 : 0 ≤ period) (hp1 : period ≤ 18446744073709551615) :
    Calls Try.prog 4 #[v, .int .u64 start, .int .u64 period] w fun e w' => e = .returned (.bool true) ∧ Below w.heap.size w w' := by
  have hrd := hid h1
  have HW := hid hwf
  obtain ⟨ao, c1, rfl, _, _⟩ := h1
  clear hwf
  by_cases hbig : 100 < a.length
  · go_enter Try.func4, Try.ntmps4
    go_wp2_with (go_at_call 8; refine (alive12_any _).mono ?_; rintro e w1 ⟨rfl, hb1⟩)
    go_ret
    exact ⟨rfl, hb1⟩
  · go_enter Try.func4, Try.ntmps4
    go_wp2_with (go_at_call 8; refine (alive12_any _).mono ?_; rintro e w1 ⟨rfl, hb1⟩)
    have hr1 := hrd.out.below hb1 (Nat.le_refl _)
    refine (faults_any a _ w1 hr1 (by omega)).mono ?_
    rintro e w2 ⟨v2, rfl, hown2, hb2⟩
    have hr2 := hr1.below hb2 (Nat.le_refl _)
    go_wp2_with fail
    refine (refFaults_any a _ w2 hr2 (by omega)).mono ?_
    rintro e w3 ⟨v3, rfl, hown3, hb3⟩
    have hr3 := hr2.below hb3 (Nat.le_refl _)
    go_wp2_with fail
    have hle := faultsTo_len a a.length
    refine (ints_t _ _ _ _ w3 ((Reads.of_owns hown2).below hb3 (Nat.le_refl _)) (Reads.of_owns hown3) (by omega) rfl).mono ?_
    rintro e w4 ⟨rfl, hb4⟩
    have hr4 := hr3.below hb4 (Nat.le_refl _)
    go_wp2_with fail
    refine (rhythm_any a _ start period w4 hr4 (by omega) HW.out hs0 hs1 hp0 hp1).mono ?_
    rintro e w5 ⟨rfl, hb5⟩
    have hr5 := hr4.below hb5 (Nat.le_refl _)
    go_wp2_with fail
    refine (refRhythm_any a _ start period w5 hr5 (by omega) HW.out hs0 hs1 hp0 hp1).mono ?_
    rintro e w6 ⟨rfl, hb6⟩
    have hz1 := hb1.size
    have hz2 := hb2.size
    have hz3 := hb3.size
    have hz4 := hb4.size
    have hz5 := hb5.size
    have hB := ((((hb1.trans (hb2.mono (by omega))).trans (hb3.mono (by omega))).trans (hb4.mono (by omega))).trans (hb5.mono (by omega))).trans (hb6.mono (by omega))
    have HB := hid hB
    clear hB hb1 hb2 hb3 hb4 hb5 hb6 hr1 hr2 hr3 hr4 hr5 hown2 hown3
    go_wp2
    go_ret
    exact ⟨by simp, HB.out⟩
end Go.Proofs.Ytofkjmhcddgeeaa
