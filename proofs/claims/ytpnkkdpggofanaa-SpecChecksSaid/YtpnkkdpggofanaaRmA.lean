/- The document's machine: find, fits, done, begin by their walks. -/
import Derived.Test.YtpnkkdpggofanaaRmStep
import Derived.Test.YtpnkkdpggofanaaEvs
namespace Go.Proofs.Ytpnkkdpggofanaa
open Go.RowKit

theorem rcl_info : (Try.prog.info? 115).map (fun i => (i.zero, i.size, i.bytes)) = some (some (.agg #[.int .i64 0, .int .i64 0, .int .i64 0, .int .i64 0, .int .u64 0, .int .u64 0, .int .u64 0, .int .u64 0, .int .u64 0, .int .i64 0, .bool false, .bool false, .int .u64 0, .int .u64 0, .int .i64 0]), 15, 112) := by kernel_rfl
theorem rtm_info : (Try.prog.info? 105).map (fun i => (i.zero, i.size, i.bytes)) = some (some (.agg #[.int .u64 0, .bool false, .int .u64 0, .int .u64 0, .int .u64 0, .bool false, .bool false, .bool false]), 8, 48) := by kernel_rfl

/-- A slice of rows of sz cells each. -/
theorem Reads.enc {α : Type} {enc : α → List Value} {sz : Nat} (hsz : ∀ x, (enc x).length = sz) (h0 : 0 < sz) {w : World} {v : Value} {l : List α} (h : Reads w v l.length (l.flatMap enc)) :
    ∃ ao c, v = .slice ao l.length c ∧ ∀ i x, l[i]? = some x → ∃ b o, ao = some ⟨b, o, none⟩ ∧ ∀ r u, (enc x)[r]? = some u → w.cell? ⟨b, o + i * sz + r, none⟩ = some u := by
  obtain ⟨ao, c, hv, _, hx⟩ := h
  refine ⟨ao, c, hv, fun i f hf => ?_⟩
  have key := fun r u hu => flatMap_getElem? enc sz hsz l i f r u hf hu
  obtain ⟨b, o, hao, hc⟩ := hx (fun e => by
    have hl := hsz f
    have h1 : (enc f)[0]? = some (enc f)[0] := List.getElem?_eq_getElem (by omega)
    have := key 0 _ h1; rw [e] at this; simp at this)
  exact ⟨b, o, hao, fun r u hu => by simpa [Nat.add_assoc] using hc _ _ (key r u hu)⟩

def rtC (t : RT) : List Value := [.int .u64 t.id, .bool t.live, .int .u64 t.gen, .int .u64 t.dl, .int .u64 t.per, .bool t.last, .bool t.armed, .bool t.btw]
abbrev rtV (t : RT) : Value := .agg #[.int .u64 t.id, .bool t.live, .int .u64 t.gen, .int .u64 t.dl, .int .u64 t.per, .bool t.last, .bool t.armed, .bool t.btw]
abbrev clV (c : Cl) : Value := .agg #[.int .i64 c.bg.kind, .int .i64 c.bg.thr, .int .i64 c.bg.call, .int .i64 c.bg.what, .int .u64 c.bg.id, .int .u64 c.bg.gen, .int .u64 c.bg.dl, .int .u64 c.bg.per, .int .u64 c.bg.tk, .int .i64 c.bg.err, .bool c.opn, .bool c.done, .int .u64 c.id, .int .u64 c.gen, .int .i64 c.err]

theorem find_upto {T : List RT} {id : Int} {k : Nat} (hk : k < T.length) (h : ∀ j (hj : j < T.length), j < k → T[j].id ≠ id) (he : T[k].id = id) : rfindI T id = k := by
  unfold rfindI rfindTo
  have : T.findIdx? (fun t => t.id == id) = some k := by
    rw [List.findIdx?_eq_some_iff_getElem]
    exact ⟨hk, by simpa using he, fun j hj => by simpa using h j (by omega) hj⟩
  rw [this]
theorem find_not {T : List RT} {id : Int} (h : ∀ j (hj : j < T.length), T[j].id ≠ id) : rfindI T id = -1 := by
  unfold rfindI rfindTo
  have : T.findIdx? (fun t => t.id == id) = none := by
    rw [List.findIdx?_eq_none_iff]
    intro x hx
    obtain ⟨j, hj, rfl⟩ := List.mem_iff_getElem.1 hx
    simpa using h j hj
  rw [this]

set_option maxHeartbeats 1000000 in
theorem rfind_any (T : List RT) (id : Int) (bm : Nat) (vt : Value) (w : World) (hm : w.cell? ⟨bm, 6, none⟩ = some vt) (h1 : Reads w vt T.length (T.flatMap rtC)) (hn : T.length ≤ 1000000) :
    Calls Try.prog 57 #[ptrV bm, .int .u64 id] w fun e w' => e = .returned (.int .i64 (rfindI T id)) ∧ w = w' := by
  obtain ⟨ao, c1, rfl, g1⟩ := h1.enc (sz := 8) (fun _ => rfl) (by decide)
  have H1 := hid g1
  clear h1 g1
  go_enter Try.func57, Try.ntmps57
  go_wp2
  go_loop [5] (fun i => ∃ k : Nat, k ≤ T.length ∧ i = .int .i64 k ∧ Hid (∀ j (hj : j < T.length), j < k → T[j].id ≠ id)) (fun i => T.length - (intOf i).toNat)
  case atStart => exact ⟨0, by omega, rfl, fun _ _ h => absurd h (by omega)⟩
  case round =>
    obtain ⟨k, hk, rfl, HN⟩ := hrel
    by_cases hlt : k < T.length
    · obtain ⟨b, o, hao, hc⟩ := H1.out k _ (List.getElem?_eq_getElem hlt)
      obtain rfl := hao
      have q0 : w.cell? ⟨b, o + k * 8, none⟩ = some (.int .u64 T[k].id) := hc 0 _ rfl
      clear hc
      by_cases he : T[k].id = id
      · have hv := hid (find_upto hlt HN.out he)
        have he' : (T[k].id == id) = true := by simp [he]
        clear he
        go_wp2
        go_ret
        exact ⟨by rw [hv.out]; rfl, rfl⟩
      · have he' : (T[k].id == id) = false := by simp [he]
        have HE := hid he
        clear he
        go_wp2
        go_round
        case rel => exact ⟨k + 1, by omega, by go_num, fun j hj hjk => by
          rcases Nat.lt_or_ge j k with h | h
          · exact HN.out j hj h
          · obtain rfl : j = k := by omega
            exact HE.out⟩
        case measure => simp [intOf]; omega
    · obtain rfl : k = T.length := by omega
      have hv := hid (find_not (fun j hj => HN.out j hj hj))
      go_wp2
      go_ret
      exact ⟨by rw [hv.out]; rfl, rfl⟩

theorem rfits_any (a b : Int) (w : World) (ha : U64 a) (hb : U64 b) :
    Calls Try.prog 69 #[.int .u64 a, .int .u64 b] w fun e w' => e = .returned (.bool (rfits a b)) ∧ w = w' := by
  have hv := hid (show rfits a b = decide (a ≤ 18446744073709551615 - b) from rfl)
  obtain ⟨b1, b2⟩ := hb
  obtain ⟨a1, a2⟩ := ha
  go_enter Try.func69, Try.ntmps69
  go_wp2
  go_ret
  exact ⟨by rw [hv.out]; rfl, rfl⟩

theorem rdone_any (c : Cl) (e : Ev) (w : World) :
    Calls Try.prog 70 #[clV c, evV e] w fun x w' => x = .returned (clV (rdone c e)) ∧ Below w.heap.size w w' := by
  go_enter Try.func70, Try.ntmps70
  go_wp2
  exact bodyPost_ret (v := clV (rdone c e)) (by simp [results, Try.results70, go_sem, rdone]) rfl ⟨rfl, (((Below.refl _ _).alloc (Nat.le_refl _) _).alloc (by simp) _).alloc (by simp; omega) _⟩
end Go.Proofs.Ytpnkkdpggofanaa
