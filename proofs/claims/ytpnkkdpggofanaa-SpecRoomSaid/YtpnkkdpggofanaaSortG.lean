/- slices.Sort at []uint64: the whole. -/
import Derived.Test.YtpnkkdpggofanaaSortF
import Derived.Sort.AssemblyPlain
namespace Go.Proofs.Ytpnkkdpggofanaa
open Go.RowKit Go.Sort Go.Proofs

theorem callees64 : Callees64 where
  ins := s64_insertionSort
  brk := s64_breakPatterns
  piv := s64_choosePivot
  par := s64_partialInsertionSort
  peq := s64_partitionEqualOrdered
  prt := s64_partitionOrdered

theorem plain64 : Plain64 where
  swo := swo_ltInt
  ins := insertionSort_holds
  par := partialInsertionSort_holds
  prt := partition_holds _
  peq := partitionEqual_holds _
  pdq := pdq_sorts _

set_option maxRecDepth 100000 in
theorem s64_Sort (blk off cap : Nat) (d : Array Int) (w : World) (hH : Holds (Value.int .u64) w blk off d) (hblk : blk < w.heap.size) (hsz : d.size < 4611686018427387904) :
    Calls Try.prog 61 #[.slice (some ⟨blk, off, none⟩) d.size cap] w fun e w' => e = .returned (.tuple #[]) ∧ ∃ n os, w' = grow (putRow (Value.int .u64) (Sort.ahead w n) blk off (d.toList.mergeSort fun x y => decide (x ≤ y)).toArray) os := by
  have HH : Hid (Holds (Value.int .u64) w blk off d) := hH
  clear hH
  have hLen : ∀ w, Calls Try.prog 75 #[.int .u64 (d.size : Int)] w fun e w' => e = .returned (.int .i64 (bitsLen d.size : Nat)) ∧ w' = w := fun w => by
    have h := s64_bits_Len (d.size : Int) w (by omega) (by omega)
    rwa [Int.toNat_natCast, bitLen_eq _ (by omega)] at h
  have hk : bitsLen d.size ≤ 62 := (bitsLen_le_iff d.size 62).2 (by omega)
  have HE : Hid ((d.toList.mergeSort fun x y => decide (x ≤ y)).toArray = Sort.pdq ltInt d 0 d.size (bitsLen d.size) true true) := by
    show (d.toList.mergeSort fun x y => decide (x ≤ y)).toArray = Sort.sort ltInt d
    rw [← sortInt d.toList]
  go_enter Try.func61, Try.ntmps61
  go_wp2_with (first
    | (go_at_call 75; refine (hLen _).mono ?_; rintro e w' ⟨rfl, rfl⟩)
    | (go_at_call 74; refine (s64_pdqsort callees64 plain64 (d.size - 0 + 1) blk off cap 0 d.size (bitsLen d.size) d _ (by omega) (by exact HH.out) (by exact hblk) (Nat.zero_le _) (Nat.le_refl _) hsz (by omega) (Or.inl rfl)).mono ?_; rintro e w' ⟨rfl, n, os, rfl⟩))
  go_end0
  exact ⟨rfl, n, os, by rw [HE.out]⟩

theorem s64_insertionSort_nil (p : Option Addr) (cap : Nat) (w : World) :
    Calls Try.prog 91 #[.slice p 0 cap, .int .i64 0, .int .i64 0] w fun e w' => e = .returned (.tuple #[]) ∧ w' = w := by
  go_enter Try.func91, Try.ntmps91
  go_wp2
  refine wp_loop_rounds 1 ?_
  rw [rounds_succ]
  go_wp2
  go_end0
  exact ⟨rfl, rfl⟩

set_option maxRecDepth 100000 in
theorem s64_pdqsort_nil (p : Option Addr) (cap : Nat) (w : World) :
    Calls Try.prog 74 #[.slice p 0 cap, .int .i64 0, .int .i64 0, .int .i64 0] w fun e w' => e = .returned (.tuple #[]) ∧ w' = w := by
  go_enter Try.func74, Try.ntmps74
  go_wp2
  refine wp_loop_rounds 1 ?_
  rw [rounds_succ]
  go_wp2_with (first | (go_at_call 91; refine (s64_insertionSort_nil p cap _).mono ?_; rintro e w' ⟨rfl, rfl⟩))
  refine bodyPost_ret (results_none rfl _ _ _) rfl ?_
  exact ⟨rfl, rfl⟩

set_option maxRecDepth 100000 in
theorem s64_Sort_nil (p : Option Addr) (cap : Nat) (w : World) :
    Calls Try.prog 61 #[.slice p 0 cap] w fun e w' => e = .returned (.tuple #[]) ∧ w' = w := by
  have hLen : ∀ w, Calls Try.prog 75 #[.int .u64 0] w fun e w' => e = .returned (.int .i64 0) ∧ w' = w := fun w => s64_bits_Len 0 w (by omega) (by omega)
  go_enter Try.func61, Try.ntmps61
  go_wp2_with (first
    | (go_at_call 75; refine (hLen _).mono ?_; rintro e w' ⟨rfl, rfl⟩)
    | (go_at_call 74; refine (s64_pdqsort_nil p cap _).mono ?_; rintro e w' ⟨rfl, rfl⟩))
  go_end0
  exact ⟨rfl, rfl⟩

end Go.Proofs.Ytpnkkdpggofanaa
