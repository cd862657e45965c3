/- No log has nothing, and takes nothing: whatever the input, FiringNone returns true, and its arguments read as they did. No condition. -/
import Derived.Test.YtofkjmhcddgeeaaRows
import Derived.Test.YtofkjmhcddgeeaaNone
import Derived.Test.YtofkjmhcddgeeaaOpenFir
import Derived.ShutString
import Derived.ChangeOld
import Derived.Lib.SmallJoins
namespace Go.Proofs.Ytofkjmhcddgeeaa.nothing
open Go.ChangeShapes Go.WideShapes Go.ChangeAt Go.RowKit Go.Proofs.Ytofkjmhcddgeeaa

theorem own : ownKnob Try.prog.godebug = none := by kernel_rfl
theorem laidOut : laidOutB Try.prog = true := by kernel_rfl

set_option maxRecDepth 100000 in
theorem lifted (os : Os) (started : os.Started) (H : Type) (enc : TypeId × Value → H) :
    ReturnsInHanded {} Try.checked os 7 .any (Rows.firingNoneSpec.pre6 enc Try.prog Try.f7 Rows.firingNoneRow.domain false) (Rows.firingNoneSpec.post enc Try.prog Try.f7 false true false false) := by
  refine returnsInHanded_of_change (C := Try.checked) own started (by kernel_rfl) Try.func7
    (ChangeSpec.witness6 (enc := enc) (C := Try.checked) false ⟨#[], #[.agg #[.int .u64 0, .int .u64 0, .int .u64 0, .int .u64 0]], []⟩ 8 (by kernel_rfl) (by kernel_rfl) (by kernel_rfl) (by kernel_rfl)) ?_
  intro W base args ds gs before hval0 hW _ _
  have hval : ∀ (j : Nat) t v, Try.f7.params[j]? = some t → args[j]? = some v → Value.okWide Try.prog W .any base t v := hval0
  have hW' := hW
  obtain ⟨p, q, hA0, hV, rfl, hfz, hnd⟩ := hW
  have hA : DataW.TrodAll enc Try.prog W 0 (fun _ => true) true Try.f7.params.toList args.toList ds p := hA0
  rw [Try.params7] at hA hval
  obtain ⟨v0, vs0, d0, ds0, p0, q0, hargs, rfl, rfl, h0, r0⟩ := trodAll_cons hA
  obtain ⟨rfl, rfl, rfl⟩ := trodAll_nil r0
  obtain rfl : args = #[v0] := by cases args; simp_all
  obtain ⟨rfl, rfl⟩ := trodVars_none hV
  have k0 := h0
  have lt0 : ∀ x ∈ p0, x.block < W.heap.size := by obtain ⟨m, hm⟩ := k0; exact DataW.trod_lt m _ _ _ hm
  obtain ⟨x0, x1, x2, x3, y0, y1, y2, y3, nn, rfl, _, _, z0, z1, z2, z3⟩ := Go.Joins.open_agg4 fir_u (by kernel_rfl) (by kernel_rfl) (hval 0 30 v0 rfl rfl) h0
  obtain ⟨g0, hc0, _, _⟩ := DataW.trod_int Try.underlying28 z0
  obtain rfl : x0 = .int .u64 g0 := by simpa using hc0
  obtain ⟨g1, hc1, _, _⟩ := DataW.trod_int Try.underlying28 z1
  obtain rfl : x1 = .int .u64 g1 := by simpa using hc1
  obtain ⟨g2, hc2, _, _⟩ := DataW.trod_int Try.underlying28 z2
  obtain rfl : x2 = .int .u64 g2 := by simpa using hc2
  obtain ⟨g3, hc3, _, _⟩ := DataW.trod_int Try.underlying28 z3
  obtain rfl : x3 = .int .u64 g3 := by simpa using hc3
  clear hA0 hval0
  refine (none_walk ⟨g0, g1, g2, g3⟩ W).mono fun e W' ⟨he, bel⟩ => ?_
  subst he
  exact ⟨_, rfl, _, _, _, [], _, [], hW', trodAll_mk1 (shut_bool Try.underlying4 _), (trodAll_cons_mk (Below.trod laidOut (by kernel_rfl) (of_decide_eq_true (by kernel_rfl)) k0 bel lt0) trodAll_mk0), rfl, bel.frame _, fun h => by cases h⟩

theorem over : Rows.firingNoneRow.holds Try.pinned (OpenSpec.ofChange Rows.firingNoneSpec) :=
  OpenClaim.holds_of_wide 7 Try.f7 rfl rfl rfl rfl rfl rfl rfl ⟨rfl, rfl, rfl, rfl, rfl⟩ rfl rfl rfl rfl rfl (by kernel_rfl) Try.func7 (by kernel_rfl)
    (of_decide_eq_true (by kernel_rfl)) (by unfold Func.isWrapper; first | (rw [if_pos (by decide +kernel)]; kernel_rfl) | (rw [if_neg (by decide +kernel)]; exact ⟨rfl, rfl⟩))
    (fun os started H enc _ => lifted os started H enc)

theorem proved : Rows.FiringNoneSaid := over
end Go.Proofs.Ytofkjmhcddgeeaa.nothing
