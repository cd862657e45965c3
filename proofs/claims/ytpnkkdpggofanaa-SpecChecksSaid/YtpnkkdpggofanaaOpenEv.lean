/- How an argument that is a slice of structs of integers is read: over whatever program. An argument that is a slice of events. -/
import Derived.Test.YtpnkkdpggofanaaGen
import Derived.ProofKit
import Derived.OpenShut
import Derived.Deep.Slices
import Derived.Test.YtpnkkdpggofanaaEvs
namespace Go.Proofs.Ytpnkkdpggofanaa
open Go.RowKit Go.Deep

section
variable {H : Type} {enc : TypeId × Value → H} {P : Program} {w : World} {base : Nat} {spare : Nat → Bool} {held : Bool}

/-- The cells of a struct whose fields are integers of the kinds ks. -/
def encK (ks : List IntKind) (ns : List Int) : List Value := List.zipWith Value.int ks ns

theorem trod_ints {fs : Array Field} {t : TypeId} {fuel : Nat} {cs : List Value} {x : DataW H × List MemPlace} (ks : List IntKind) (ht : P.underlying t = some (.struct fs)) (hC : P.cellsOf t = ks.length)
    (hfs : ∀ i k, ks[i]? = some k → ∃ f : Field, fs[i]? = some f ∧ f.offset = i ∧ P.underlying f.type = some (.int k) ∧ P.cellsOf f.type = 1)
    (h : DataW.trod enc P w base spare held fuel t cs = some x) :
    ∃ ns : List Int, ns.length = ks.length ∧ cs = encK ks ns ∧ ∀ (i : Nat) (k : IntKind) (n : Int), ks[i]? = some k → ns[i]? = some n → (Lit.int k n).wf = true := by
  obtain ⟨xs, n, _, _, hl, hlen, hf⟩ := DataW.trod_struct ht h
  have key : ∀ i, i < ks.length → ∃ q : Int, cs[i]? = some (.int (ks.getD i .i64) q) ∧ (Lit.int (ks.getD i .i64) q).wf = true := by
    intro i hi
    have hk : ks[i]? = some (ks.getD i .i64) := by simp [List.getD, hi]
    obtain ⟨f, hfi, hoff, hu, hc1⟩ := hfs i _ hk
    have h1 := hf i f hfi
    rw [hoff, hc1] at h1
    have hlt : i < fs.size := (Array.getElem?_eq_some_iff.1 hfi).1
    have hx : ∃ y, xs[i]? = some y := ⟨xs[i]'(by omega), List.getElem?_eq_getElem _⟩
    obtain ⟨y, hy⟩ := hx
    rw [hy] at h1
    obtain ⟨q, hq, _, hw⟩ := DataW.trod_int hu h1
    refine ⟨q, ?_, hw⟩
    have h3 : ((cs.drop i).take 1)[0]? = some (.int (ks.getD i .i64) q) := by rw [hq]; rfl
    rw [List.getElem?_take] at h3
    simpa using h3
  obtain ⟨g, hg⟩ := choose_lt key
  refine ⟨(List.range ks.length).map g, by simp, ?_, ?_⟩
  · apply List.ext_getElem?
    intro i
    rcases Nat.lt_or_ge i ks.length with hi | hi
    · rw [(hg i hi).1]
      simp [encK, hi]
    · rw [List.getElem?_eq_none (by omega), List.getElem?_eq_none (by simp [encK]; omega)]
  · intro i k n hk hn
    have hi : i < ks.length := (List.getElem?_eq_some_iff.1 hk).1
    have := (hg i hi).2
    simp [hi] at hn
    rw [← hn]
    have hk' : ks.getD i .i64 = k := by simp [List.getD, hk]
    rw [hk'] at this
    exact this

theorem encK_len (ks : List IntKind) (ns : List Int) (h : ns.length = ks.length) : (encK ks ns).length = ks.length := by simp [encK, h]

/-- A slice of such structs that came in: it reads as a list of lists of numbers. -/
theorem open_structs {fs : Array Field} {t e : TypeId} {W : World} (ks : List IntKind) (hk0 : 0 < ks.length) (ht : P.underlying t = some (.slice e)) (hs : P.underlying e = some (.struct fs)) (hC : P.cellsOf e = ks.length)
    (hfs : ∀ i k, ks[i]? = some k → ∃ f : Field, fs[i]? = some f ∧ f.offset = i ∧ P.underlying f.type = some (.int k) ∧ P.cellsOf f.type = 1)
    {a : Option Addr} {len cap : Nat} {d : DataW H} {p : List MemPlace} (h : DataW.Trod enc P W base spare held t (.slice a len cap) d p) :
    ∃ L : List (List Int), L.length = len ∧ Reads W (.slice a len cap) len (L.flatMap (encK ks)) ∧ len ≤ maxLen ∧
      ∀ ns ∈ L, ns.length = ks.length ∧ ∀ (i : Nat) (k : IntKind) (n : Int), ks[i]? = some k → ns[i]? = some n → (Lit.int k n).wf = true := by
  obtain ⟨fuel, hf⟩ := h
  rcases open_slice ht hf with ⟨hcs, _⟩ | ⟨x, l, c, m, n, D, Pl, hcs, hb, hl, hm, hmm, _, hel⟩
  · simp [Value.cells] at hcs
    obtain ⟨rfl, rfl, rfl⟩ := hcs
    exact ⟨[], rfl, ⟨none, 0, rfl, fun _ => ⟨rfl, rfl⟩, fun hne => absurd rfl hne⟩, by simp [maxLen], by simp⟩
  · simp [Value.cells] at hcs
    obtain ⟨rfl, rfl, rfl⟩ := hcs
    have hlm : len ≤ m := by rw [hmm]; split <;> omega
    rw [hC] at hel
    have key : ∀ i, i < len → ∃ ns : List Int, ns.length = ks.length ∧ (∀ j, j < ks.length → W.cell? ((x.add (i * ks.length)).add j) = (encK ks ns)[j]?) ∧
        ∀ (j : Nat) (k : IntKind) (q : Int), ks[j]? = some k → ns[j]? = some q → (Lit.int k q).wf = true := by
      intro i hi
      obtain ⟨cs', h1, h2⟩ := hel i (by omega)
      obtain ⟨ns, hn1, rfl, hn2⟩ := trod_ints ks hs hC hfs h2
      exact ⟨ns, hn1, (World.cells?_some h1).2.2, hn2⟩
    obtain ⟨g, hg⟩ := choose_lt key
    refine ⟨(List.range len).map g, by simp, ⟨_, cap, rfl, (fun e => by cases e), fun hne => ?_⟩, by omega, ?_⟩
    · obtain ⟨b, off, spot⟩ := x
      have hlen0 : 0 < len := by
        rcases Nat.eq_zero_or_pos len with h0 | h0
        · subst h0; exact absurd rfl hne
        · exact h0
      have hc0 := (hg 0 hlen0).2.1 0 hk0
      obtain ⟨u, hu⟩ : ∃ u, (encK ks (g 0))[0]? = some u := ⟨_, List.getElem?_eq_getElem (by rw [encK_len _ _ (hg 0 hlen0).1]; exact hk0)⟩
      rw [hu] at hc0
      have hspot : spot = none := by simpa [Addr.add] using World.cell?_spot hc0
      subst hspot
      refine ⟨b, off, rfl, ?_⟩
      intro j u hu
      have hj : j < len * ks.length := by
        have := (List.getElem?_eq_some_iff.1 hu).1
        have e : (((List.range len).map g).flatMap (encK ks)).length = len * ks.length := by
          have : ∀ (l : List Nat), (∀ i ∈ l, i < len) → ((l.map g).flatMap (encK ks)).length = l.length * ks.length := by
            intro l hl'
            induction l with
            | nil => simp
            | cons i l ih =>
              rw [List.map_cons, List.flatMap_cons, List.length_append, encK_len _ _ (hg i (hl' i (by simp))).1, ih (fun i hi => hl' i (by simp [hi])), List.length_cons, Nat.add_mul]; omega
          simpa using this (List.range len) (by simp)
        omega
      have hi : j / ks.length < len := by rw [Nat.div_lt_iff_lt_mul hk0]; exact hj
      have hr : j % ks.length < ks.length := Nat.mod_lt _ hk0
      have hsplit : j / ks.length * ks.length + j % ks.length = j := Nat.div_add_mod' j ks.length
      have h1 := (hg _ hi).2.1 _ hr
      rw [Addr.add_lit, Addr.add_lit, Nat.add_assoc, hsplit] at h1
      rw [h1]
      have h2 : ∀ (l : List Nat) (i r : Nat), (∀ i ∈ l, i < len) → (hil : i < l.length) → r < ks.length → ((l.map g).flatMap (encK ks))[i * ks.length + r]? = (encK ks (g l[i]))[r]? := by
        intro l
        induction l with
        | nil => intro i r _ hil _; simp at hil
        | cons i0 l ih =>
          intro i r hl' hil hr
          have e0 := encK_len ks _ (hg i0 (hl' i0 (by simp))).1
          rw [List.map_cons, List.flatMap_cons]
          cases i with
          | zero => rw [Nat.zero_mul, Nat.zero_add, List.getElem?_append_left (by omega)]; rfl
          | succ i =>
            rw [List.getElem?_append_right (by rw [e0, Nat.add_mul]; omega), e0, Nat.add_mul, Nat.one_mul, show i * ks.length + ks.length + r - ks.length = i * ks.length + r by omega]
            exact ih i r (fun i hi => hl' i (by simp [hi])) (by simpa using hil) hr
      have h3 := h2 (List.range len) (j / ks.length) (j % ks.length) (by simp) (by simpa using hi) hr
      rw [hsplit, hu] at h3
      rw [h3]; simp
    · intro ns hns
      obtain ⟨i, hi, rfl⟩ := List.mem_map.1 hns
      have := hg i (by simpa using hi)
      exact ⟨this.1, this.2.2⟩
end
end Go.Proofs.Ytpnkkdpggofanaa

namespace Go.Proofs.Ytpnkkdpggofanaa
open Go.RowKit Go.Deep

def toEv : List Int → Ev
  | [a0, a1, a2, a3, a4, a5, a6, a7, a8, a9] => ⟨a0, a1, a2, a3, a4, a5, a6, a7, a8, a9⟩
  | _ => ⟨0, 0, 0, 0, 0, 0, 0, 0, 0, 0⟩
theorem toEv_enc (L : List (List Int)) (h : ∀ ns ∈ L, ns.length = 10) : L.flatMap (encK [.i64, .i64, .i64, .i64, .u64, .u64, .u64, .u64, .u64, .i64]) = (L.map toEv).flatMap evC := by
  induction L with
  | nil => rfl
  | cons ns L ih =>
    rw [List.flatMap_cons, List.map_cons, List.flatMap_cons, ih (fun n hn => h n (by simp [hn]))]
    congr 1
    have := h ns (by simp)
    match ns, this with
    | [a0, a1, a2, a3, a4, a5, a6, a7, a8, a9], _ => rfl
theorem u64_wfe {n : Int} (h : (Lit.int .u64 n).wf = true) : U64 n := by
  have : 0 ≤ n ∧ n ≤ 18446744073709551615 := by simpa [Lit.wf, IntKind.min, IntKind.max, IntKind.bits, IntKind.signed] using h
  exact this
theorem i64_wf {n : Int} (h : (Lit.int .i64 n).wf = true) : I64 n := by
  have : -9223372036854775808 ≤ n ∧ n ≤ 9223372036854775807 := by simpa [Lit.wf, IntKind.min, IntKind.max, IntKind.bits, IntKind.signed] using h
  exact this
theorem toEv_wf (ns : List Int) (h : ns.length = 10) (hw : ∀ (i : Nat) (k : IntKind) (n : Int), [IntKind.i64, .i64, .i64, .i64, .u64, .u64, .u64, .u64, .u64, .i64][i]? = some k → ns[i]? = some n → (Lit.int k n).wf = true) : (toEv ns).wf := by
  match ns, h with
  | [a0, a1, a2, a3, a4, a5, a6, a7, a8, a9], _ => exact ⟨i64_wf (hw 0 _ _ rfl rfl), i64_wf (hw 1 _ _ rfl rfl), i64_wf (hw 2 _ _ rfl rfl), i64_wf (hw 3 _ _ rfl rfl), u64_wfe (hw 4 _ _ rfl rfl), u64_wfe (hw 5 _ _ rfl rfl), u64_wfe (hw 6 _ _ rfl rfl), u64_wfe (hw 7 _ _ rfl rfl), u64_wfe (hw 8 _ _ rfl rfl), i64_wf (hw 9 _ _ rfl rfl)⟩
theorem ev_u : Try.prog.underlying 31 = some (.struct (Try.prog.fieldsOf 31)) := by kernel_rfl
set_option maxRecDepth 8000 in
theorem ev_fields : ∀ i k, [IntKind.i64, .i64, .i64, .i64, .u64, .u64, .u64, .u64, .u64, .i64][i]? = some k → ∃ f : Field, (Try.prog.fieldsOf 31)[i]? = some f ∧ f.offset = i ∧ Try.prog.underlying f.type = some (.int k) ∧ Try.prog.cellsOf f.type = 1 := by
  intro i k hk
  match i, hk with
  | 0, hk => cases hk; exact ⟨_, rfl, rfl, rfl, by kernel_rfl⟩
  | 1, hk => cases hk; exact ⟨_, rfl, rfl, rfl, by kernel_rfl⟩
  | 2, hk => cases hk; exact ⟨_, rfl, rfl, rfl, by kernel_rfl⟩
  | 3, hk => cases hk; exact ⟨_, rfl, rfl, rfl, by kernel_rfl⟩
  | 4, hk => cases hk; exact ⟨_, rfl, rfl, rfl, by kernel_rfl⟩
  | 5, hk => cases hk; exact ⟨_, rfl, rfl, rfl, by kernel_rfl⟩
  | 6, hk => cases hk; exact ⟨_, rfl, rfl, rfl, by kernel_rfl⟩
  | 7, hk => cases hk; exact ⟨_, rfl, rfl, rfl, by kernel_rfl⟩
  | 8, hk => cases hk; exact ⟨_, rfl, rfl, rfl, by kernel_rfl⟩
  | 9, hk => cases hk; exact ⟨_, rfl, rfl, rfl, by kernel_rfl⟩
  | i + 10, hk => simp at hk
theorem open_evs {H : Type} {enc : TypeId × Value → H} {W : World} {base : Nat} {spare : Nat → Bool} {held : Bool} {a : Option Addr} {len cap : Nat} {d : DataW H} {p : List MemPlace}
    (h : DataW.Trod enc Try.prog W base spare held 22 (.slice a len cap) d p) :
    ∃ l : List Ev, l.length = len ∧ Reads W (.slice a len cap) l.length (l.flatMap evC) ∧ l.length ≤ maxLen ∧ ∀ f ∈ l, f.wf := by
  obtain ⟨L, hl, hr, hm, hw⟩ := open_structs [.i64, .i64, .i64, .i64, .u64, .u64, .u64, .u64, .u64, .i64] (by simp) Try.underlying22 ev_u (by kernel_rfl) ev_fields h
  refine ⟨L.map toEv, by simpa using hl, ?_, by simpa [hl] using hm, ?_⟩
  · rw [← toEv_enc L (fun ns hn => (hw ns hn).1), List.length_map, hl]; exact hr
  · intro f hf
    obtain ⟨ns, hn, rfl⟩ := List.mem_map.1 hf
    exact toEv_wf ns (hw ns hn).1 (hw ns hn).2
theorem open_cap {H : Type} {enc : TypeId × Value → H} {W : World} {base : Nat} {spare : Nat → Bool} {held : Bool} {a : Option Addr} {len cap : Nat} {d : DataW H} {p : List MemPlace}
    (h : DataW.Trod enc Try.prog W base spare held 22 (.slice a len cap) d p) : len ≤ cap ∧ cap ≤ maxLen := by
  obtain ⟨fuel, hf⟩ := h
  rcases open_slice Try.underlying22 hf with ⟨hcs, _⟩ | ⟨x, l, c, m, n, D, Pl, hcs, hb, hl, hm, _⟩
  · simp [Value.cells] at hcs
    obtain ⟨rfl, rfl, rfl⟩ := hcs
    exact ⟨Nat.le_refl _, by simp [maxLen]⟩
  · simp [Value.cells] at hcs
    obtain ⟨rfl, rfl, rfl⟩ := hcs
    exact ⟨hl, hm⟩
end Go.Proofs.Ytpnkkdpggofanaa
