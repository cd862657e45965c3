/- spec.Live by its walk. -/
import Derived.Test.YtpnkkdpggofanaaSpecRight
import Derived.Test.YtpnkkdpggofanaaRoomLaw
import Derived.Test.YtpnkkdpggofanaaKeysT
namespace Go.Proofs.Ytpnkkdpggofanaa
open Go.RowKit

/-- The numbers of those that are live behind all, ascending. -/
def liveIds (n : Int) (l : List Ev) : List Int := asc ((playM (new n) l).1.live.map (·.1))
theorem liveIds_len (n : Int) (l : List Ev) : (liveIds n l).length = (playM (new n) l).1.live.length := by simp [liveIds, asc_length]

theorem live_no (n : Int) (l : List Ev) (v : Value) (w : World) (h1 : Reads w v l.length (l.flatMap evC)) (hwf : ∀ e ∈ l, e.wf) (hn : l.length ≤ 1000000) (hno : (playM (new n) l).2 < l.length) :
    Calls Try.prog 35 #[.int .i64 n, v] w fun x w' => x = .returned (.tuple #[.slice none 0 0, .int .i64 7]) ∧ Below w.heap.size w w' := by
  have hrd := hid h1
  have HW := hid hwf
  obtain ⟨ao, c1, rfl, _⟩ := h1.evs
  clear h1 hwf
  generalize hp : (playM (new n) l).2 = r at hno
  go_enter Try.func35, Try.ntmps35
  go_wp2_with (go_at_call 39; refine (play_any n l _ _ hrd.out HW.out hn).mono ?_; rintro x w' ⟨hb, bm, rfl, _⟩; rw [hp]; have HB := hid hb; clear hb)
  go_ret2
  exact ⟨rfl, HB.out⟩

set_option maxHeartbeats 1000000 in
theorem live_ok (n : Int) (l : List Ev) (v : Value) (w : World) (h1 : Reads w v l.length (l.flatMap evC)) (hwf : ∀ e ∈ l, e.wf) (hn : l.length ≤ 1000000) (hall : (playM (new n) l).2 = l.length) :
    Calls Try.prog 35 #[.int .i64 n, v] w fun x w' => ∃ v', x = .returned (.tuple #[v', .int .i64 0]) ∧ w'.ownsRow w.heap.size 29 1 v' (liveIds n l).length ((liveIds n l).map encU) ∧ Below w.heap.size w w' := by
  have hrd := hid h1
  have HW := hid hwf
  have HALL := hid hall
  have hlen := hid (play_live_le n l)
  have hkeys := hid (play_new_live n l).2
  have hlo := hid (liveIds_len n l)
  obtain ⟨ao, c1, rfl, _⟩ := h1.evs
  clear h1 hwf
  have hno : ¬ (l.length < l.length) := by omega
  clear hall
  go_enter Try.func35, Try.ntmps35
  go_wp2_with fail
  refine (play_any n l _ _ hrd.out HW.out hn).mono ?_
  rintro x w1 ⟨hb, bm, rfl, hG⟩
  have hG2 := hG HALL.out
  rw [HALL.out]
  have HB := hid hb
  have HG := hid hG2
  clear hb hG hG2
  obtain ⟨G, hrep, hma⟩ := HG.out
  have hc8 := hrep.mach.cell 8 (u := .map (some G.bl)) rfl
  have hlv : (G.lv.map fun p => (p.1, p.2.2)) = (playM (new n) l).1.live := by rw [← hma]; rfl
  have hk1 : G.lv.map (·.1) = (playM (new n) l).1.live.map (·.1) := by rw [← hlv, List.map_map]; rfl
  have hwf2 : ∀ p ∈ G.lv, (Lit.int .u64 p.1).wf = true := by
    intro p hp
    have h1 : p.1 ∈ (playM (new n) l).1.live.map (·.1) := by rw [← hk1]; exact List.mem_map_of_mem hp
    obtain ⟨e, he, hep⟩ := hkeys.out p.1 h1
    have h2 := (HW.out e he).id
    rw [← hep]
    simp only [U64] at h2
    simp [Lit.wf, IntKind.min, IntKind.max, IntKind.bits, IntKind.signed]; omega
  have hl2 : G.lv.length = (playM (new n) l).1.live.length := by rw [← hlv, List.length_map]
  have hlen2 : G.lv.length ≤ 1000000 := by rw [hl2]; have := hlen.out; omega
  have hK : ∀ W Bm, Below w1.heap.size w1 W → W.cell? ⟨Bm, 0, none⟩ = some (.map (some G.bl)) → Calls Try.prog 47 #[.func (.func 62) #[] #[.pointer (some ⟨Bm, 0, none⟩)]] W fun e w' => ∃ v', e = .returned v' ∧ w'.ownsRow W.heap.size 29 1 v' (liveIds n l).length ((liveIds n l).map encU) ∧ Below W.heap.size W w' := by
    intro W Bm hW hm
    have h := sortedKeys_any G.bl Bm G.lv W (World.block_lt_of_cell? W _ hm) hm (hrep.live.kept (hW.block _ hrep.live.lt)) hwf2 hlen2
    rw [hk1, hl2, ← hlo.out] at h
    exact h
  have HK := hid hK
  have hmlt := hrep.mach.lt
  generalize hbl : G.bl = bl at hc8 HK
  clear hK hlv hk1 hwf2 hl2 hlen2 hma hrep hbl
  go_wp2_with (first | (go_at_call 48; refine (keys_any _ _).mono ?_; rintro e w' ⟨rfl, rfl⟩) | (go_at_call 47; refine (HK.out _ _ ((Below.refl _ _).alloc (Nat.le_refl _) _) (Boxed.new _ _ _).cell).mono ?_; rintro e w3 ⟨v3, rfl, hown3, hb3⟩; have H3 := hid hown3; have HB3 := hid hb3; clear hown3 hb3))
  go_ret2
  exact ⟨_, rfl, owns_base H3.out (by have := HB.out.size; simp; omega), (HB.out.alloc HB.out.size _).trans (HB3.out.mono (by have := HB.out.size; simp; omega))⟩
end Go.Proofs.Ytpnkkdpggofanaa
