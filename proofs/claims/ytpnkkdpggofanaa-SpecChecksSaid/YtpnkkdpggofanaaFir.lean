/- A firing as data; its cells; when two are the same. -/
import Derived.Test.YtpnkkdpggofanaaChecked
import Derived.Test.YtpnkkdpggofanaaGen
namespace Go.Proofs.Ytpnkkdpggofanaa
open Go.RowKit

structure Fir where
  id : Int
  gen : Int
  dl : Int
  tk : Int

instance : DecidableEq Fir := fun a b =>
  if h : a.id = b.id ∧ a.gen = b.gen ∧ a.dl = b.dl ∧ a.tk = b.tk then .isTrue (by cases a; cases b; simp_all) else .isFalse (by intro e; subst e; simp at h)

theorem Fir.eq_iff (a b : Fir) : a = b ↔ a.id = b.id ∧ a.gen = b.gen ∧ a.dl = b.dl ∧ a.tk = b.tk := by
  cases a; cases b; simp

def firC (f : Fir) : List Value := [.int .u64 f.id, .int .u64 f.gen, .int .u64 f.dl, .int .u64 f.tk]
def Fir.wf (f : Fir) : Prop := (0 ≤ f.id ∧ f.id ≤ 18446744073709551615) ∧ (0 ≤ f.gen ∧ f.gen ≤ 18446744073709551615) ∧ (0 ≤ f.dl ∧ f.dl ≤ 18446744073709551615) ∧ (0 ≤ f.tk ∧ f.tk ≤ 18446744073709551615)
theorem firC_len (f : Fir) : (firC f).length = 4 := rfl

theorem Reads.fir {w : World} {v : Value} {l : List Fir} (h : Reads w v l.length (l.flatMap firC)) :
    ∃ ao c, v = .slice ao l.length c ∧ ∀ i f, l[i]? = some f → ∃ b o, ao = some ⟨b, o, none⟩ ∧ w.cell? ⟨b, o + i * 4, none⟩ = some (.int .u64 f.id) ∧ w.cell? ⟨b, o + i * 4 + 1, none⟩ = some (.int .u64 f.gen)
      ∧ w.cell? ⟨b, o + i * 4 + 2, none⟩ = some (.int .u64 f.dl) ∧ w.cell? ⟨b, o + i * 4 + 3, none⟩ = some (.int .u64 f.tk) := by
  obtain ⟨ao, c, hv, _, hx⟩ := h
  refine ⟨ao, c, hv, fun i f hf => ?_⟩
  have key := fun r u hu => flatMap_getElem? firC 4 (fun _ => rfl) l i f r u hf hu
  obtain ⟨b, o, hao, hc⟩ := hx (fun e => by have := key 0 _ rfl; rw [e] at this; simp at this)
  exact ⟨b, o, hao, by simpa [Nat.add_assoc] using hc _ _ (key 0 _ rfl), by simpa [Nat.add_assoc] using hc _ _ (key 1 _ rfl), by simpa [Nat.add_assoc] using hc _ _ (key 2 _ rfl), by simpa [Nat.add_assoc] using hc _ _ (key 3 _ rfl)⟩

theorem Reads.ints {w : World} {v : Value} {k : IntKind} {l : List Int} (h : Reads w v l.length (l.map (Value.int k))) :
    ∃ ao c, v = .slice ao l.length c ∧ ∀ i x, l[i]? = some x → ∃ b o, ao = some ⟨b, o, none⟩ ∧ w.cell? ⟨b, o + i, none⟩ = some (.int k x) := by
  obtain ⟨ao, c, hv, _, hx⟩ := h
  refine ⟨ao, c, hv, fun i x hf => ?_⟩
  have key : (l.map (Value.int k))[i]? = some (.int k x) := by rw [List.getElem?_map, hf]; rfl
  obtain ⟨b, o, hao, hc⟩ := hx (fun e => by rw [e] at key; simp at key)
  exact ⟨b, o, hao, hc _ _ key⟩

theorem fir_u : Try.prog.underlying 44 = some (.struct (Try.prog.fieldsOf 44)) := by kernel_rfl
theorem fir_s : Try.prog.stoodInHeld 44 = false := by kernel_rfl
@[go_sem] theorem fir_g : Try.prog.eqGuardType Try.prog.depth 44 = false := by kernel_rfl
/-- Are two firings, told by their fields, not the same? -/
def firNe (a b c d a' b' c' d' : Int) : Bool := !(a == a' && b == b' && c == c' && d == d')
theorem firNe_false {f g : Fir} (h : f = g) : firNe f.id f.gen f.dl f.tk g.id g.gen g.dl g.tk = false := by subst h; simp [firNe]
theorem firNe_true {f g : Fir} (h : f ≠ g) : firNe f.id f.gen f.dl f.tk g.id g.gen g.dl g.tk = true := by
  cases hb : firNe f.id f.gen f.dl f.tk g.id g.gen g.dl g.tk
  · exact absurd ((Fir.eq_iff _ _).2 (by simpa [firNe, and_assoc] using hb)) h
  · rfl
@[go_sem ↓] theorem fir_neq (w : World) (a b c d a' b' c' d' : Int) : (binOp .neq 44 (.agg #[.int .u64 a, .int .u64 b, .int .u64 c, .int .u64 d]) (.agg #[.int .u64 a', .int .u64 b', .int .u64 c', .int .u64 d'])).run Try.prog w =
   .ok (.bool (firNe a b c d a' b' c' d')) w := by
  rw [run_neq_struct, run_equalIn_agg _ _ _ _ _ fir_u fir_s]
  by_cases h1 : a = a' <;> by_cases h2 : b = b' <;> by_cases h3 : c = c' <;> by_cases h4 : d = d' <;> simp [go_sem, firNe, h1, h2, h3, h4]

theorem fir_info : (Try.prog.info? 44).map (fun i => (i.zero, i.size, i.bytes)) = some (some (.agg #[.int .u64 0, .int .u64 0, .int .u64 0, .int .u64 0]), 4, 32) := by kernel_rfl
end Go.Proofs.Ytpnkkdpggofanaa
