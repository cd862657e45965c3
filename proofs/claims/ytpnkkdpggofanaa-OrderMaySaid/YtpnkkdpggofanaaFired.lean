/- spec.Fired by its walk. -/
import Derived.Test.YtpnkkdpggofanaaEvs
import Derived.Test.YtpnkkdpggofanaaFir
namespace Go.Proofs.Ytpnkkdpggofanaa
open Go.RowKit

def fireOf (e : Ev) : Fir := ⟨e.id, e.gen, e.dl, e.tk⟩
def firsOf (l : List Ev) : List Fir := (l.filter fun e => e.kind == 5).map fireOf
theorem firsOf_snoc (l : List Ev) (k : Nat) (h : k < l.length) : firsOf (l.take (k + 1)) = firsOf (l.take k) ++ if l[k].kind == 5 then [fireOf l[k]] else [] := by
  rw [take_snoc_list l k h]
  unfold firsOf
  rw [List.filter_append, List.map_append]
  congr 1
  cases hk : l[k].kind == 5 <;> simp [hk]
theorem firsOf_len (l : List Ev) : (firsOf l).length ≤ l.length := by unfold firsOf; rw [List.length_map]; exact List.length_filter_le _ _
theorem firC_one' (f : Fir) : ∀ u ∈ firC f, u.oneCell' = true := by
  intro u hu
  simp only [firC, List.mem_cons, List.not_mem_nil, or_false] at hu
  rcases hu with rfl | rfl | rfl | rfl <;> rfl
theorem fir_info' : (Try.prog.info? 44).map (fun i => (i.zero, i.size, i.bytes)) = some (some (.agg #[.int .u64 0, .int .u64 0, .int .u64 0, .int .u64 0]), 4, 32) := by kernel_rfl

set_option maxRecDepth 4000 in
set_option maxHeartbeats 4000000 in
theorem fired_any (l : List Ev) (v : Value) (w : World) (h1 : Reads w v l.length (l.flatMap evC)) (hn : l.length ≤ 1000000) :
    Calls Try.prog 21 #[v] w fun x w' => ∃ v', x = .returned v' ∧ w'.ownsRow w.heap.size 44 4 v' (firsOf l).length ((firsOf l).flatMap firC) ∧ Below w.heap.size w w' := by
  obtain ⟨ao, c1, rfl, g1⟩ := h1.evs
  have H1 := hid g1
  clear g1 h1
  obtain ⟨i0, hi, hz0, hz1, hz2⟩ := info_parts fir_info'
  go_enter Try.func21, Try.ntmps21
  go_wp2
  go_loopw [3, 8] (fun out iv wr => ∃ k : Nat, k ≤ l.length ∧ iv = .int .i64 k ∧ wr.ownsRow w.heap.size 44 4 out (firsOf (l.take k)).length ((firsOf (l.take k)).flatMap firC) ∧ Below w.heap.size w wr) (fun _ iv _ => l.length - (intOf iv).toNat)
  case atStart => exact ⟨0, by omega, rfl, by simpa [firsOf] using World.ownsRow_nil _ _ _ _, Below.refl _ _⟩
  case round =>
    obtain ⟨k, hk, rfl, hown, hb⟩ := hrel
    have HO := hid hown
    have hle := firsOf_len (l.take k)
    rw [List.length_take, Nat.min_eq_left hk] at hle
    by_cases hlt : k < l.length
    · obtain ⟨b, o, hao, hc⟩ := H1.out k l[k] (List.getElem?_eq_getElem hlt)
      obtain rfl := hao
      have q0 : wr.cell? ⟨b, o + k * 10, none⟩ = some (.int .i64 l[k].kind) := (hb.cell (World.block_lt_of_cell? _ _ (hc 0 _ rfl))).trans (hc 0 _ rfl)
      have q1 : wr.cell? ⟨b, o + k * 10 + 1, none⟩ = some (.int .i64 l[k].thr) := (hb.cell (World.block_lt_of_cell? _ _ (hc 1 _ rfl))).trans (hc 1 _ rfl)
      have q2 : wr.cell? ⟨b, o + k * 10 + 2, none⟩ = some (.int .i64 l[k].call) := (hb.cell (World.block_lt_of_cell? _ _ (hc 2 _ rfl))).trans (hc 2 _ rfl)
      have q3 : wr.cell? ⟨b, o + k * 10 + 3, none⟩ = some (.int .i64 l[k].what) := (hb.cell (World.block_lt_of_cell? _ _ (hc 3 _ rfl))).trans (hc 3 _ rfl)
      have q4 : wr.cell? ⟨b, o + k * 10 + 4, none⟩ = some (.int .u64 l[k].id) := (hb.cell (World.block_lt_of_cell? _ _ (hc 4 _ rfl))).trans (hc 4 _ rfl)
      have q5 : wr.cell? ⟨b, o + k * 10 + 5, none⟩ = some (.int .u64 l[k].gen) := (hb.cell (World.block_lt_of_cell? _ _ (hc 5 _ rfl))).trans (hc 5 _ rfl)
      have q6 : wr.cell? ⟨b, o + k * 10 + 6, none⟩ = some (.int .u64 l[k].dl) := (hb.cell (World.block_lt_of_cell? _ _ (hc 6 _ rfl))).trans (hc 6 _ rfl)
      have q7 : wr.cell? ⟨b, o + k * 10 + 7, none⟩ = some (.int .u64 l[k].per) := (hb.cell (World.block_lt_of_cell? _ _ (hc 7 _ rfl))).trans (hc 7 _ rfl)
      have q8 : wr.cell? ⟨b, o + k * 10 + 8, none⟩ = some (.int .u64 l[k].tk) := (hb.cell (World.block_lt_of_cell? _ _ (hc 8 _ rfl))).trans (hc 8 _ rfl)
      have q9 : wr.cell? ⟨b, o + k * 10 + 9, none⟩ = some (.int .i64 l[k].err) := (hb.cell (World.block_lt_of_cell? _ _ (hc 9 _ rfl))).trans (hc 9 _ rfl)
      have HB := hid hb
      have hsz := hb.size
      have hsn := hid (firsOf_snoc l k hlt)
      clear hb hc hown
      by_cases h5 : l[k].kind = 5
      · have h5' : (l[k].kind == 5) = true := by simp [h5]
        rw [h5'] at hsn
        clear h5
        go_wp2_with (at_builtin; refine wpList_append_any _ rfl _ _ 42 rfl w.heap.size 44 i0 _ 4 32 Try.underlying42 hi hz0 hz1 hz2 rfl (by decide) _ _ _ rfl ((HO.out.alloc _).alloc _) _ 1 (firC (fireOf l[k])) rfl (Reads.built_at _ (firC (fireOf l[k])) 44 1 _ (by simp)) rfl (firC_one' _) (by unfold maxLen; omega) (by omega) (Nat.le_trans hsz (by simp; omega)) ?_; intro bo cap w1 hown' hgrow; have HO1 := hid hown'; have HB1 := hid (((HB.out.alloc hsz _).alloc (Nat.le_trans hsz (by simp)) _).grown hgrow (Nat.le_trans hsz (by simp; omega)) (fun k hk => (HO.out.lt k hk).1)); clear hown' hgrow)
        go_roundw
        case rel => exact ⟨k + 1, by omega, by go_num, by rw [hsn.out]; simpa using HO1.out, HB1.out⟩
        case measure => simp [intOf]; omega
      · have h5' : (l[k].kind == 5) = false := by simp [h5]
        rw [h5'] at hsn
        clear h5
        go_wp2
        go_roundw
        case rel => exact ⟨k + 1, by omega, by go_num, by rw [hsn.out]; simpa using HO.out.alloc _, HB.out.alloc hsz _⟩
        case measure => simp [intOf]; omega
    · obtain rfl : k = l.length := by omega
      have HB := hid hb
      clear hb hown
      go_wp2
      go_ret
      exact ⟨_, rfl, by have := HO.out; rwa [List.take_length] at this, HB.out⟩
end Go.Proofs.Ytpnkkdpggofanaa
