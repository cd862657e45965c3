/- An argument that is a slice of firings. -/
import Derived.Test.YtofkjmhcddgeeaaOpen
import Derived.Test.YtofkjmhcddgeeaaFir
namespace Go.Proofs.Ytofkjmhcddgeeaa
open Go.RowKit Go.Deep

def toFir : List Int → Fir
  | [a, b, c, d] => ⟨a, b, c, d⟩
  | _ => ⟨0, 0, 0, 0⟩
theorem toFir_enc (L : List (List Int)) (h : ∀ ns ∈ L, ns.length = 4) : L.flatMap (encK [.u64, .u64, .u64, .u64]) = (L.map toFir).flatMap firC := by
  induction L with
  | nil => rfl
  | cons ns L ih =>
    rw [List.flatMap_cons, List.map_cons, List.flatMap_cons, ih (fun n hn => h n (by simp [hn]))]
    congr 1
    have := h ns (by simp)
    match ns, this with
    | [a, b, c, d], _ => rfl
theorem u64_wf {n : Int} (h : (Lit.int .u64 n).wf = true) : 0 ≤ n ∧ n ≤ 18446744073709551615 := by
  simpa [Lit.wf, IntKind.min, IntKind.max, IntKind.bits, IntKind.signed] using h
theorem toFir_wf (ns : List Int) (h : ns.length = 4) (hw : ∀ (i : Nat) (k : IntKind) (n : Int), [IntKind.u64, .u64, .u64, .u64][i]? = some k → ns[i]? = some n → (Lit.int k n).wf = true) : (toFir ns).wf := by
  match ns, h with
  | [a, b, c, d], _ => exact ⟨u64_wf (hw 0 _ _ rfl rfl), u64_wf (hw 1 _ _ rfl rfl), u64_wf (hw 2 _ _ rfl rfl), u64_wf (hw 3 _ _ rfl rfl)⟩
theorem fir_fields : ∀ i k, [IntKind.u64, .u64, .u64, .u64][i]? = some k → ∃ f : Field, (Try.prog.fieldsOf 30)[i]? = some f ∧ f.offset = i ∧ Try.prog.underlying f.type = some (.int k) ∧ Try.prog.cellsOf f.type = 1 := by
  intro i k hk
  match i, hk with
  | 0, hk => cases hk; exact ⟨_, rfl, rfl, rfl, by kernel_rfl⟩
  | 1, hk => cases hk; exact ⟨_, rfl, rfl, rfl, by kernel_rfl⟩
  | 2, hk => cases hk; exact ⟨_, rfl, rfl, rfl, by kernel_rfl⟩
  | 3, hk => cases hk; exact ⟨_, rfl, rfl, rfl, by kernel_rfl⟩
  | i + 4, hk => simp at hk
theorem open_firs {H : Type} {enc : TypeId × Value → H} {W : World} {base : Nat} {spare : Nat → Bool} {held : Bool} {a : Option Addr} {len cap : Nat} {d : DataW H} {p : List MemPlace}
    (h : DataW.Trod enc Try.prog W base spare held 22 (.slice a len cap) d p) :
    ∃ l : List Fir, l.length = len ∧ Reads W (.slice a len cap) l.length (l.flatMap firC) ∧ l.length ≤ maxLen ∧ ∀ f ∈ l, f.wf := by
  obtain ⟨L, hl, hr, hm, hw⟩ := open_structs [.u64, .u64, .u64, .u64] (by simp) Try.underlying22 fir_u (by kernel_rfl) fir_fields h
  refine ⟨L.map toFir, by simpa using hl, ?_, by simpa [hl] using hm, ?_⟩
  · rw [← toFir_enc L (fun ns hn => (hw ns hn).1), List.length_map, hl]; exact hr
  · intro f hf
    obtain ⟨ns, hn, rfl⟩ := List.mem_map.1 hf
    exact toFir_wf ns (hw ns hn).1 (hw ns hn).2
end Go.Proofs.Ytofkjmhcddgeeaa
