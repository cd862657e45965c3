/- spec.play, spec.Check by their walks. -/
import Derived.Test.YtpnkkdpggofanaaSpecStep
import Derived.Test.YtpnkkdpggofanaaEvs
namespace Go.Proofs.Ytpnkkdpggofanaa
open Go.RowKit

def G0 (n : Int) (b : Nat) : Gm := ⟨n, 0, false, false, 0, .slice none 0 0, [], b, b + 1, b + 2, [], [], [], .pointer none⟩
theorem G0_ma (n : Int) (b : Nat) : (G0 n b).ma = new n := rfl
theorem Rep.start (n : Int) (w : World) : Rep w.heap.size ((((w.alloc (.map #[] 0)).alloc (.map #[] 0)).alloc (.map #[] 0)).alloc (.cells (mC (G0 n w.heap.size)).toArray 103)) (w.heap.size + 3) (G0 n w.heap.size) := by
  have h1 := MapIs.made (enc := Value.int .i64) (encV := Value.bool) w
  have h2 := MapIs.made (enc := Value.int .u64) (encV := Value.bool) (w.alloc (.map #[] 0))
  have h3 := MapIs.made (enc := Value.int .u64) (encV := liveV) ((w.alloc (.map #[] 0)).alloc (.map #[] 0))
  refine ⟨⟨by omega, by simp [G0], by simp [G0], by simp [G0]⟩, ?_, World.ownsRow_nil _ _ _ _, by simp [G0], by simp [G0], ?_, ?_, ?_, by simp [G0], by simp [G0], ⟨by simp [G0], by simp [G0], by simp [G0]⟩, ⟨by simp [G0], by simp [G0]⟩⟩
  · have := Blk.new (((w.alloc (.map #[] 0)).alloc (.map #[] 0)).alloc (.map #[] 0)) 103 (mC (G0 n w.heap.size))
    simpa using this
  · have q := (h1.kept (w' := (w.alloc (.map #[] 0)).alloc (.map #[] 0)) (Below.heap_alloc _ _ _ h1.lt))
    have q2 := q.kept (w' := ((w.alloc (.map #[] 0)).alloc (.map #[] 0)).alloc (.map #[] 0)) (Below.heap_alloc _ _ _ q.lt)
    exact q2.kept (Below.heap_alloc _ _ _ q2.lt)
  · have q2 := h2.kept (w' := ((w.alloc (.map #[] 0)).alloc (.map #[] 0)).alloc (.map #[] 0)) (Below.heap_alloc _ _ _ h2.lt)
    have := q2.kept (w' := (((w.alloc (.map #[] 0)).alloc (.map #[] 0)).alloc (.map #[] 0)).alloc (.cells (mC (G0 n w.heap.size)).toArray 103)) (Below.heap_alloc _ _ _ q2.lt)
    simpa [G0] using this
  · have := h3.kept (w' := (((w.alloc (.map #[] 0)).alloc (.map #[] 0)).alloc (.map #[] 0)).alloc (.cells (mC (G0 n w.heap.size)).toArray 103)) (Below.heap_alloc _ _ _ h3.lt)
    simpa [G0] using this

theorem playM_none {m : Ma} {e : Ev} {l : List Ev} (h : stepM m e = none) : playM m (e :: l) = (m, 0) := by simp [playM, h]
theorem playM_some {m m' : Ma} {e : Ev} {l : List Ev} (h : stepM m e = some m') : playM m (e :: l) = ((playM m' l).1, (playM m' l).2 + 1) := by simp [playM, h]

/-- Behind k events, all of which came. -/
def PlayAt (B : Nat) (w : World) (bm : Nat) (n : Int) (l : List Ev) (k : Nat) (wr : World) : Prop :=
  Below B w wr ∧ ∃ G, Rep B wr bm G ∧ G.cs.length ≤ k ∧ playM (new n) l = ((playM G.ma (l.drop k)).1, (playM G.ma (l.drop k)).2 + k)
def PlayEnd (B : Nat) (w : World) (n : Int) (l : List Ev) (x : Ending) (w' : World) : Prop :=
  Below B w w' ∧ ∃ bm, x = .returned (.tuple #[ptrV bm, .int .i64 ((playM (new n) l).2 : Int)]) ∧ ((playM (new n) l).2 = l.length → ∃ G, Rep B w' bm G ∧ G.ma = (playM (new n) l).1)
theorem PlayAt.more {B : Nat} {w wr w' : World} {bm : Nat} {n : Int} {l : List Ev} {k : Nat} {e : Ev} (hl : l[k]? = some e) {G : Gm} (hpl : playM (new n) l = ((playM G.ma (l.drop k)).1, (playM G.ma (l.drop k)).2 + k)) (hb : Below B w wr) (hc : G.cs.length ≤ k) (hb2 : Below B wr w') (hd : Does B bm (stepM G.ma e) true w') : PlayAt B w bm n l (k + 1) w' := by
  unfold Does at hd
  cases hs : stepM G.ma e with
  | none => rw [hs] at hd; cases hd
  | some M =>
    rw [hs] at hd
    obtain ⟨_, G', hr, rfl⟩ := hd
    refine ⟨hb.trans hb2, G', hr, ?_, ?_⟩
    · have := stepM_len hs
      rw [cs_len, cs_len] at this; omega
    · have hlt := (List.getElem?_eq_some_iff.1 hl).1
      have he := (List.getElem?_eq_some_iff.1 hl).2
      rw [hpl, List.drop_eq_getElem_cons hlt, he, playM_some hs]
      simp; omega
theorem PlayAt.stops {B : Nat} {w' : World} {bm : Nat} {n : Int} {l : List Ev} {k : Nat} {e : Ev} (hl : l[k]? = some e) {G : Gm} (hpl : playM (new n) l = ((playM G.ma (l.drop k)).1, (playM G.ma (l.drop k)).2 + k)) (hd : Does B bm (stepM G.ma e) false w') : (playM (new n) l).2 = k ∧ k < l.length := by
  have hlt := (List.getElem?_eq_some_iff.1 hl).1
  have he := (List.getElem?_eq_some_iff.1 hl).2
  unfold Does at hd
  cases hs : stepM G.ma e with
  | none => rw [hpl, List.drop_eq_getElem_cons hlt, he, playM_none hs]; simp [hlt]
  | some M => rw [hs] at hd; exact absurd hd.1 (by simp)

set_option maxRecDepth 4000 in
set_option maxHeartbeats 4000000 in
theorem play_any (n : Int) (l : List Ev) (v : Value) (w : World) (h1 : Reads w v l.length (l.flatMap evC)) (hwf : ∀ e ∈ l, e.wf) (hn : l.length ≤ 1000000) :
    Calls Try.prog 39 #[.int .i64 n, v] w fun x w' => PlayEnd w.heap.size w n l x w' := by
  have hrd := hid h1
  obtain ⟨ao, c1, rfl, g1⟩ := h1.evs
  have H1 := hid g1
  have HW := hid hwf
  clear g1 h1 hwf
  have hmm := @run_makeMap Try.prog
  have hst := hid (Rep.start n w)
  go_enter Try.func39, Try.ntmps39
  go_wp2
  have hpa : PlayAt w.heap.size w (w.heap.size + 3) n l 0 ((((w.alloc (.map #[] 0)).alloc (.map #[] 0)).alloc (.map #[] 0)).alloc (.cells (mC (G0 n w.heap.size)).toArray 103)) :=
    ⟨((((Below.refl _ _).alloc (Nat.le_refl _) _).alloc (by simp) _).alloc (by simp; omega) _).alloc (by simp; omega) _, G0 n w.heap.size, hst.out, Nat.le_refl _, by rw [G0_ma]; simp⟩
  have HPA := hid hpa
  clear hpa hst hmm
  rw [show w.heap.size + 1 + 1 + 1 = w.heap.size + 3 from rfl]
  generalize w.heap.size + 3 = bm at *
  go_loopw [17] (fun i wr => ∃ k : Nat, k ≤ l.length ∧ i = .int .i64 k ∧ PlayAt w.heap.size w bm n l k wr) (fun i _ => l.length - (intOf i).toNat)
  case atStart => exact ⟨0, by omega, rfl, HPA.out⟩
  case round =>
    obtain ⟨k, hk, rfl, hpa⟩ := hrel
    by_cases hlt : k < l.length
    · have hlk : l[k]? = some l[k] := List.getElem?_eq_getElem hlt
      obtain ⟨b, o, hao, hc⟩ := H1.out k _ hlk
      obtain rfl := hao
      have hb := hpa.1
      have q0 : wr.cell? ⟨b, o + k * 10, none⟩ = some (.int .i64 l[k].kind) := (hb.cell (World.block_lt_of_cell? _ _ (hc 0 _ rfl))).trans (hc 0 _ rfl)
      have q1 : wr.cell? ⟨b, o + k * 10 + 1, none⟩ = some (.int .i64 l[k].thr) := (hb.cell (World.block_lt_of_cell? _ _ (hc 1 _ rfl))).trans (hc 1 _ rfl)
      have q2 : wr.cell? ⟨b, o + k * 10 + 2, none⟩ = some (.int .i64 l[k].call) := (hb.cell (World.block_lt_of_cell? _ _ (hc 2 _ rfl))).trans (hc 2 _ rfl)
      have q3 : wr.cell? ⟨b, o + k * 10 + 3, none⟩ = some (.int .i64 l[k].what) := (hb.cell (World.block_lt_of_cell? _ _ (hc 3 _ rfl))).trans (hc 3 _ rfl)
      have q4 : wr.cell? ⟨b, o + k * 10 + 4, none⟩ = some (.int .u64 l[k].id) := (hb.cell (World.block_lt_of_cell? _ _ (hc 4 _ rfl))).trans (hc 4 _ rfl)
      have q5 : wr.cell? ⟨b, o + k * 10 + 5, none⟩ = some (.int .u64 l[k].gen) := (hb.cell (World.block_lt_of_cell? _ _ (hc 5 _ rfl))).trans (hc 5 _ rfl)
      have q6 : wr.cell? ⟨b, o + k * 10 + 6, none⟩ = some (.int .u64 l[k].dl) := (hb.cell (World.block_lt_of_cell? _ _ (hc 6 _ rfl))).trans (hc 6 _ rfl)
      have q7 : wr.cell? ⟨b, o + k * 10 + 7, none⟩ = some (.int .u64 l[k].per) := (hb.cell (World.block_lt_of_cell? _ _ (hc 7 _ rfl))).trans (hc 7 _ rfl)
      have q8 : wr.cell? ⟨b, o + k * 10 + 8, none⟩ = some (.int .u64 l[k].tk) := (hb.cell (World.block_lt_of_cell? _ _ (hc 8 _ rfl))).trans (hc 8 _ rfl)
      have q9 : wr.cell? ⟨b, o + k * 10 + 9, none⟩ = some (.int .i64 l[k].err) := (hb.cell (World.block_lt_of_cell? _ _ (hc 9 _ rfl))).trans (hc 9 _ rfl)
      have hew := hid (HW.out _ (List.getElem_mem hlt))
      have HLK := hid hlk
      clear hc
      obtain ⟨hb, G, hg, hc0, hpl⟩ := hpa
      have HG := hid hg
      have hsz := hb.size
      have hbw := hid hb
      have HPL := hid hpl
      have HC0 := hid hc0
      replace hc0 : G.cs.length ≤ 1000000 := by omega
      clear hb hg hpl hlk
      cases hs : stepM G.ma l[k] with
      | none =>
        go_wp2_with (go_at_call 49; refine (step_any w.heap.size _ (HG.out.alloc _) (Nat.le_trans hsz (by simp)) hc0 l[k] hew.out).mono ?_; rintro x w' hE; obtain ⟨hb2, r, rfl, hd⟩ := hE; obtain rfl : r = false := (by rw [hs] at hd; exact hd); have HD := hid hd; have HB2 := hid (hbw.out.trans ((((Below.refl w.heap.size wr).alloc hsz _).trans hb2))); have HB3 := hid hb2; clear hd hb2 q0 q1 q2 q3 q4 q5 q6 q7 q8 q9)
        go_ret2
        have h0 := PlayAt.stops HLK.out HPL.out HD.out
        exact ⟨HB2.out, bm, by rw [h0.1]; rfl, fun h => absurd h (by rw [h0.1]; omega)⟩
      | some M =>
        go_wp2_with (go_at_call 49; refine (step_any w.heap.size _ (HG.out.alloc _) (Nat.le_trans hsz (by simp)) hc0 l[k] hew.out).mono ?_; rintro x w' hE; obtain ⟨hb2, r, rfl, hd⟩ := hE; obtain rfl : r = true := (by rw [hs] at hd; exact hd.1); have HD := hid hd; have HB2 := hid (hbw.out.trans ((((Below.refl w.heap.size wr).alloc hsz _).trans hb2))); have HB3 := hid hb2; clear hd hb2 q0 q1 q2 q3 q4 q5 q6 q7 q8 q9)
        go_round
        case rel => exact ⟨k + 1, by omega, by go_num, PlayAt.more HLK.out HPL.out hbw.out HC0.out (((Below.refl w.heap.size wr).alloc hsz _).trans HB3.out) HD.out⟩
        case measure => simp [intOf]; omega
    · obtain rfl : k = l.length := by omega
      obtain ⟨hb, G, hg, hc0, hpl⟩ := hpa
      have HPL := hid hpl
      have HG := hid hg
      have HB := hid hb
      clear hb hg hc0 hpl
      go_wp2
      go_ret2
      have h0 := HPL.out
      rw [List.drop_length] at h0
      exact ⟨HB.out, bm, by rw [h0]; simp [playM], fun _ => ⟨G, HG.out, by rw [h0]; rfl⟩⟩

/-- What spec.Check answers. -/
def chkV (n : Int) (l : List Ev) : Value := .tuple #[.int .i64 ((playM (new n) l).2 : Int), .int .i64 (if (playM (new n) l).2 < l.length then 7 else 0)]
theorem check_any (n : Int) (l : List Ev) (v : Value) (w : World) (h1 : Reads w v l.length (l.flatMap evC)) (hwf : ∀ e ∈ l, e.wf) (hn : l.length ≤ 1000000) :
    Calls Try.prog 16 #[.int .i64 n, v] w fun x w' => x = .returned (chkV n l) ∧ Below w.heap.size w w' := by
  have hrd := hid h1
  have HW := hid hwf
  obtain ⟨ao, c1, rfl, _⟩ := h1.evs
  clear h1 hwf
  generalize hp : (playM (new n) l).2 = r
  by_cases hlt : r < l.length
  · have HV := hid (show chkV n l = .tuple #[.int .i64 (r : Int), .int .i64 7] by unfold chkV; rw [hp, if_pos hlt])
    go_enter Try.func16, Try.ntmps16
    go_wp2_with (go_at_call 39; refine (play_any n l _ _ hrd.out HW.out hn).mono ?_; rintro x w' ⟨hb, bm, rfl, _⟩; rw [hp]; have HB := hid hb; clear hb)
    go_ret2
    exact ⟨by rw [HV.out]; rfl, HB.out⟩
  · have HV := hid (show chkV n l = .tuple #[.int .i64 (r : Int), .int .i64 0] by unfold chkV; rw [hp, if_neg hlt])
    go_enter Try.func16, Try.ntmps16
    go_wp2_with (go_at_call 39; refine (play_any n l _ _ hrd.out HW.out hn).mono ?_; rintro x w' ⟨hb, bm, rfl, _⟩; rw [hp]; have HB := hid hb; clear hb)
    go_ret2
    exact ⟨by rw [HV.out]; rfl, HB.out⟩
end Go.Proofs.Ytpnkkdpggofanaa
