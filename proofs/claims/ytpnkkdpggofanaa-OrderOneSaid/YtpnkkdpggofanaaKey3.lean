/- A map whose keys are arrays of three numbers: what the model asks of such a key. -/
import Derived.Test.YtpnkkdpggofanaaMapE
import Derived.Test.YtpnkkdpggofanaaSpecB
import Derived.ChangeKeysEq
namespace Go.Proofs.Ytpnkkdpggofanaa
open Go.RowKit

abbrev keyW (k : Int × Int × Int) : Value := .agg #[.int .u64 k.1, .int .u64 k.2.1, .int .u64 k.2.2]
theorem u64_info3 : (Try.prog.info? 29).map (fun i => (i.zero, i.size, i.bytes)) = some (some (.int .u64 0), 1, 8) := by kernel_rfl
theorem key3_equal (w : World) (a b : Int × Int × Int) : (Op.equal 57 (keyW a) (keyW b)).run Try.prog w = .ok (decide (a = b)) w := by
  obtain ⟨a1, a2, a3⟩ := a
  obtain ⟨b1, b2, b3⟩ := b
  unfold Op.equal
  obtain ⟨i, hi, _⟩ := info_parts u64_info3
  have hc : Try.prog.cellsOf 29 = 1 := by kernel_rfl
  show (Op.equalIn 10000 _ _ _).run _ _ = _
  rw [run_equalIn_array w 9999 _ _ Try.underlying57 hi, hc, show List.range 3 = [0, 1, 2] from rfl]
  by_cases h1 : a1 = b1 <;> by_cases h2 : a2 = b2 <;> by_cases h3 : a3 = b3 <;> simp [go_sem, h1, h2, h3, Op.eqItems]
theorem key3_findAsking (k : Int × Int × Int) (w : World) : ∀ (es : List MapEntry) (ks : List (Int × Int × Int)), es.map (·.key) = ks.map keyW → ∀ i, (Instr.findAsking 57 (keyW k) es i).run Try.prog w = .ok (findIx k ks es i) w
  | [], ks, h, i => by
    have : ks = [] := by simpa using h.symm
    subst this; rfl
  | e :: es, ks, h, i => by
    cases ks with
    | nil => simp at h
    | cons k' ks =>
      simp only [List.map_cons, List.cons.injEq] at h
      unfold Instr.findAsking
      simp only [Sem.run_bind, h.1, key3_equal, Result.andThen_ok, findIx]
      by_cases hk : k = k'
      · simp [hk]
      · simp only [hk, decide_false, if_false, Bool.false_eq_true]
        exact key3_findAsking k w es ks h.2 (i + 1)
theorem key3_law : KeyLaw Try.prog 57 keyW where
  check em k w := by
    obtain ⟨a, b, c⟩ := k
    have h1 : ∀ (n : Nat) (x : Int) (w : World), (Instr.checkKey em (n + 1) 29 (.int .u64 x)).run Try.prog w = .ok () w := by
      intro n x w
      unfold Instr.checkKey
      simp [run_underlying Try.underlying29]
    unfold Instr.checkKey
    simp only [Sem.run_bind, run_underlying Try.underlying57, Result.andThen_ok]
    obtain ⟨i, hi, _⟩ := info_parts u64_info3
    have hs := fun w => run_sizeOf w hi
    have hc : Try.prog.cellsOf 29 = 1 := by kernel_rfl
    rw [hc] at hs
    simp [go_sem, show List.range' 0 3 = [0, 1, 2] from rfl, hs, h1]
  find k es ks h w := by
    unfold Instr.findKey
    simp only [Sem.run_bind, run_underlying Try.underlying57, Result.andThen_ok]
    cases es with
    | nil =>
      have : ks = [] := by simpa using h.symm
      subst this; rfl
    | cons e es =>
      cases ks with
      | nil => simp at h
      | cons k' ks =>
        have h' := h
        simp only [List.map_cons, List.cons.injEq] at h
        simp only [Instr.findNow, Instr.sameNow]
        exact key3_findAsking k w _ _ h' 0
  bits k := by simp [Instr.sameBits]
end Go.Proofs.Ytpnkkdpggofanaa
