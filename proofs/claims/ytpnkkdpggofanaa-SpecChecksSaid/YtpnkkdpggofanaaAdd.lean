/- times.Add by its walk. -/
import Derived.Test.YtpnkkdpggofanaaChecked
import Derived.Test.YtpnkkdpggofanaaGen
namespace Go.Proofs.Ytpnkkdpggofanaa
open Go.RowKit

abbrev u64max : Int := 18446744073709551615
theorem run_add64c (a b : Int) (w : World) : (callFunc 53 #[.int .u64 a, .int .u64 b, .int .u64 0]).run Try.prog w = ((add64Entry #[.int .u64 a, .int .u64 b, .int .u64 0]).run Try.prog w).andThen fun v w' => .ok (.value v) w' := by
  kernel_rfl
/-- What times.Add answers. -/
def addV (a b : Int) : Int := if a + b ≤ 18446744073709551615 then a + b else 0
def addE (a b : Int) : Int := if a + b ≤ 18446744073709551615 then 0 else 9
theorem add_any (a b : Int) (w : World) (ha : 0 ≤ a) (ha' : a ≤ 18446744073709551615) (hb : 0 ≤ b) (hb' : b ≤ 18446744073709551615) :
    Calls Try.prog 42 #[.int .u64 a, .int .u64 b] w fun e w' => e = .returned (.tuple #[.int .u64 (addV a b), .int .i64 (addE a b)]) ∧ w = w' := by
  have hr : ∀ w, (callFunc 53 #[.int .u64 a, .int .u64 b, .int .u64 0]).run Try.prog w = .ok (.value (.tuple #[.int .u64 ((a + b) % 18446744073709551616), .int .u64 ((a + b) / 18446744073709551616)])) w := by
    intro w
    rw [run_add64c, run_add64 a b 0 ha hb (by omega) (by omega) w]
    simp
  by_cases h : a + b ≤ 18446744073709551615
  · have e1 : (a + b) % 18446744073709551616 = a + b := Int.emod_eq_of_lt (by omega) (by omega)
    have e2 : (a + b) / 18446744073709551616 = 0 := by omega
    have hv : addV a b = a + b := by simp [addV, h]
    have he : addE a b = 0 := by simp [addE, h]
    simp only [e1, e2] at hr
    have HV := hid hv
    have HE := hid he
    clear e1 e2 hv he
    go_enter Try.func42, Try.ntmps42
    go_wp2
    go_ret2
    exact ⟨by rw [HV.out, HE.out]; rfl, rfl⟩
  · have e2 : (a + b) / 18446744073709551616 = 1 := by omega
    have hv : addV a b = 0 := by simp [addV, h]
    have he : addE a b = 9 := by simp [addE, h]
    simp only [e2] at hr
    generalize (a + b) % 18446744073709551616 = s at hr
    have HV := hid hv
    have HE := hid he
    clear e2 hv he
    go_enter Try.func42, Try.ntmps42
    go_wp2
    go_ret2
    exact ⟨by rw [HV.out, HE.out]; rfl, rfl⟩
end Go.Proofs.Ytpnkkdpggofanaa
