/- An argument that is a slice of events. -/
import Derived.Test.YtpnkkdpggofanaaOpen
import Derived.Test.YtpnkkdpggofanaaEvs
namespace Go.Proofs.Ytpnkkdpggofanaa
open Go.RowKit Go.Deep

def toEv : List Int → Ev
  | [a0, a1, a2, a3, a4, a5, a6, a7, a8, a9] => ⟨a0, a1, a2, a3, a4, a5, a6, a7, a8, a9⟩
  | _ => ⟨0, 0, 0, 0, 0, 0, 0, 0, 0, 0⟩
theorem toEv_enc (L : List (List Int)) (h : ∀ ns ∈ L, ns.length = 10) : L.flatMap (encK [.i64, .i64, .i64, .i64, .u64, .u64, .u64, .u64, .u64, .i64]) = (L.map toEv).flatMap evC := by
  induction L with
  | nil => rfl
  | cons ns L ih =>
    rw [List.flatMap_cons, List.map_cons, List.flatMap_cons, ih (fun n hn => h n (by simp [hn]))]
    congr 1
    have := h ns (by simp)
    match ns, this with
    | [a0, a1, a2, a3, a4, a5, a6, a7, a8, a9], _ => rfl
theorem u64_wfe {n : Int} (h : (Lit.int .u64 n).wf = true) : U64 n := by
  have : 0 ≤ n ∧ n ≤ 18446744073709551615 := by simpa [Lit.wf, IntKind.min, IntKind.max, IntKind.bits, IntKind.signed] using h
  exact this
theorem i64_wf {n : Int} (h : (Lit.int .i64 n).wf = true) : I64 n := by
  have : -9223372036854775808 ≤ n ∧ n ≤ 9223372036854775807 := by simpa [Lit.wf, IntKind.min, IntKind.max, IntKind.bits, IntKind.signed] using h
  exact this
theorem toEv_wf (ns : List Int) (h : ns.length = 10) (hw : ∀ (i : Nat) (k : IntKind) (n : Int), [IntKind.i64, .i64, .i64, .i64, .u64, .u64, .u64, .u64, .u64, .i64][i]? = some k → ns[i]? = some n → (Lit.int k n).wf = true) : (toEv ns).wf := by
  match ns, h with
  | [a0, a1, a2, a3, a4, a5, a6, a7, a8, a9], _ => exact ⟨i64_wf (hw 0 _ _ rfl rfl), i64_wf (hw 1 _ _ rfl rfl), i64_wf (hw 2 _ _ rfl rfl), i64_wf (hw 3 _ _ rfl rfl), u64_wfe (hw 4 _ _ rfl rfl), u64_wfe (hw 5 _ _ rfl rfl), u64_wfe (hw 6 _ _ rfl rfl), u64_wfe (hw 7 _ _ rfl rfl), u64_wfe (hw 8 _ _ rfl rfl), i64_wf (hw 9 _ _ rfl rfl)⟩
theorem ev_u : Try.prog.underlying 31 = some (.struct (Try.prog.fieldsOf 31)) := by kernel_rfl
set_option maxRecDepth 8000 in
theorem ev_fields : ∀ i k, [IntKind.i64, .i64, .i64, .i64, .u64, .u64, .u64, .u64, .u64, .i64][i]? = some k → ∃ f : Field, (Try.prog.fieldsOf 31)[i]? = some f ∧ f.offset = i ∧ Try.prog.underlying f.type = some (.int k) ∧ Try.prog.cellsOf f.type = 1 := by
  intro i k hk
  match i, hk with
  | 0, hk => cases hk; exact ⟨_, rfl, rfl, rfl, by kernel_rfl⟩
  | 1, hk => cases hk; exact ⟨_, rfl, rfl, rfl, by kernel_rfl⟩
  | 2, hk => cases hk; exact ⟨_, rfl, rfl, rfl, by kernel_rfl⟩
  | 3, hk => cases hk; exact ⟨_, rfl, rfl, rfl, by kernel_rfl⟩
  | 4, hk => cases hk; exact ⟨_, rfl, rfl, rfl, by kernel_rfl⟩
  | 5, hk => cases hk; exact ⟨_, rfl, rfl, rfl, by kernel_rfl⟩
  | 6, hk => cases hk; exact ⟨_, rfl, rfl, rfl, by kernel_rfl⟩
  | 7, hk => cases hk; exact ⟨_, rfl, rfl, rfl, by kernel_rfl⟩
  | 8, hk => cases hk; exact ⟨_, rfl, rfl, rfl, by kernel_rfl⟩
  | 9, hk => cases hk; exact ⟨_, rfl, rfl, rfl, by kernel_rfl⟩
  | i + 10, hk => simp at hk
theorem open_evs {H : Type} {enc : TypeId × Value → H} {W : World} {base : Nat} {spare : Nat → Bool} {held : Bool} {a : Option Addr} {len cap : Nat} {d : DataW H} {p : List MemPlace}
    (h : DataW.Trod enc Try.prog W base spare held 22 (.slice a len cap) d p) :
    ∃ l : List Ev, l.length = len ∧ Reads W (.slice a len cap) l.length (l.flatMap evC) ∧ l.length ≤ maxLen ∧ ∀ f ∈ l, f.wf := by
  obtain ⟨L, hl, hr, hm, hw⟩ := open_structs [.i64, .i64, .i64, .i64, .u64, .u64, .u64, .u64, .u64, .i64] (by simp) Try.underlying22 ev_u (by kernel_rfl) ev_fields h
  refine ⟨L.map toEv, by simpa using hl, ?_, by simpa [hl] using hm, ?_⟩
  · rw [← toEv_enc L (fun ns hn => (hw ns hn).1), List.length_map, hl]; exact hr
  · intro f hf
    obtain ⟨ns, hn, rfl⟩ := List.mem_map.1 hf
    exact toEv_wf ns (hw ns hn).1 (hw ns hn).2
theorem open_cap {H : Type} {enc : TypeId × Value → H} {W : World} {base : Nat} {spare : Nat → Bool} {held : Bool} {a : Option Addr} {len cap : Nat} {d : DataW H} {p : List MemPlace}
    (h : DataW.Trod enc Try.prog W base spare held 22 (.slice a len cap) d p) : len ≤ cap ∧ cap ≤ maxLen := by
  obtain ⟨fuel, hf⟩ := h
  rcases open_slice Try.underlying22 hf with ⟨hcs, _⟩ | ⟨x, l, c, m, n, D, Pl, hcs, hb, hl, hm, _⟩
  · simp [Value.cells] at hcs
    obtain ⟨rfl, rfl, rfl⟩ := hcs
    exact ⟨Nat.le_refl _, by simp [maxLen]⟩
  · simp [Value.cells] at hcs
    obtain ⟨rfl, rfl, rfl⟩ := hcs
    exact ⟨hl, hm⟩
end Go.Proofs.Ytpnkkdpggofanaa
