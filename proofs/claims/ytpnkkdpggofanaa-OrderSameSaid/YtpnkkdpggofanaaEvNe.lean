/- Two events that are, or are not, the same; vergeref14.Events by its walk. -/
import Derived.Test.YtpnkkdpggofanaaEvs
import Derived.Test.YtpnkkdpggofanaaSame
namespace Go.Proofs.Ytpnkkdpggofanaa
open Go.RowKit Go.Proofs

set_option maxHeartbeats 1000000
theorem ev_u : Try.prog.underlying 31 = some (.struct (Try.prog.fieldsOf 31)) := by kernel_rfl
theorem ev_s : Try.prog.stoodInHeld 31 = false := by kernel_rfl
@[go_sem] theorem ev_g : Try.prog.eqGuardType Try.prog.depth 31 = false := by kernel_rfl
def evNe (a0 a1 a2 a3 a4 a5 a6 a7 a8 a9 b0 b1 b2 b3 b4 b5 b6 b7 b8 b9 : Int) : Bool := !(a0 == b0 && a1 == b1 && a2 == b2 && a3 == b3 && a4 == b4 && a5 == b5 && a6 == b6 && a7 == b7 && a8 == b8 && a9 == b9)
theorem evNe_false {f g : Ev} (h : f = g) : evNe f.kind f.thr f.call f.what f.id f.gen f.dl f.per f.tk f.err g.kind g.thr g.call g.what g.id g.gen g.dl g.per g.tk g.err = false := by subst h; simp [evNe]
theorem evNe_true {f g : Ev} (h : f ≠ g) : evNe f.kind f.thr f.call f.what f.id f.gen f.dl f.per f.tk f.err g.kind g.thr g.call g.what g.id g.gen g.dl g.per g.tk g.err = true := by
  cases hb : evNe f.kind f.thr f.call f.what f.id f.gen f.dl f.per f.tk f.err g.kind g.thr g.call g.what g.id g.gen g.dl g.per g.tk g.err
  · refine absurd ?_ h
    obtain ⟨a0, a1, a2, a3, a4, a5, a6, a7, a8, a9⟩ := f
    obtain ⟨b0, b1, b2, b3, b4, b5, b6, b7, b8, b9⟩ := g
    simp only [evNe, Bool.not_eq_false', Bool.and_eq_true, beq_iff_eq] at hb
    obtain ⟨⟨⟨⟨⟨⟨⟨⟨⟨h0, h1⟩, h2⟩, h3⟩, h4⟩, h5⟩, h6⟩, h7⟩, h8⟩, h9⟩ := hb
    subst h0 h1 h2 h3 h4 h5 h6 h7 h8 h9
    rfl
  · rfl
@[go_sem ↓] theorem ev_neq (w : World) (a0 a1 a2 a3 a4 a5 a6 a7 a8 a9 b0 b1 b2 b3 b4 b5 b6 b7 b8 b9 : Int) : (binOp .neq 31 (.agg #[.int .i64 a0, .int .i64 a1, .int .i64 a2, .int .i64 a3, .int .u64 a4, .int .u64 a5, .int .u64 a6, .int .u64 a7, .int .u64 a8, .int .i64 a9]) (.agg #[.int .i64 b0, .int .i64 b1, .int .i64 b2, .int .i64 b3, .int .u64 b4, .int .u64 b5, .int .u64 b6, .int .u64 b7, .int .u64 b8, .int .i64 b9])).run Try.prog w =
   .ok (.bool (evNe a0 a1 a2 a3 a4 a5 a6 a7 a8 a9 b0 b1 b2 b3 b4 b5 b6 b7 b8 b9)) w := by
  rw [run_neq_struct, run_equalIn_agg _ _ _ _ _ ev_u ev_s]
  by_cases h0 : a0 = b0
  case neg => simp [go_sem, evNe, h0]
  by_cases h1 : a1 = b1
  case neg => simp [go_sem, evNe, h0, h1]
  by_cases h2 : a2 = b2
  case neg => simp [go_sem, evNe, h0, h1, h2]
  by_cases h3 : a3 = b3
  case neg => simp [go_sem, evNe, h0, h1, h2, h3]
  by_cases h4 : a4 = b4
  case neg => simp [go_sem, evNe, h0, h1, h2, h3, h4]
  by_cases h5 : a5 = b5
  case neg => simp [go_sem, evNe, h0, h1, h2, h3, h4, h5]
  by_cases h6 : a6 = b6
  case neg => simp [go_sem, evNe, h0, h1, h2, h3, h4, h5, h6]
  by_cases h7 : a7 = b7
  case neg => simp [go_sem, evNe, h0, h1, h2, h3, h4, h5, h6, h7]
  by_cases h8 : a8 = b8
  case neg => simp [go_sem, evNe, h0, h1, h2, h3, h4, h5, h6, h7, h8]
  by_cases h9 : a9 = b9
  case neg => simp [go_sem, evNe, h0, h1, h2, h3, h4, h5, h6, h7, h8, h9]
  simp [go_sem, evNe, h0, h1, h2, h3, h4, h5, h6, h7, h8, h9]
theorem ev_same {a b : Ev} (h : evNe a.kind a.thr a.call a.what a.id a.gen a.dl a.per a.tk a.err b.kind b.thr b.call b.what b.id b.gen b.dl b.per b.tk b.err = false) : a = b := by
  apply Classical.byContradiction
  intro e
  rw [evNe_true e] at h
  cases h
instance : DecidableEq Ev := fun a b => decidable_of_iff (evNe a.kind a.thr a.call a.what a.id a.gen a.dl a.per a.tk a.err b.kind b.thr b.call b.what b.id b.gen b.dl b.per b.tk b.err = false) ⟨ev_same, evNe_false⟩

set_option maxHeartbeats 2000000 in
theorem events_any (l1 l2 : List Ev) (v1 v2 : Value) (w : World) (h1 : Reads w v1 l1.length (l1.flatMap evC)) (h2 : Reads w v2 l2.length (l2.flatMap evC)) (hn1 : l1.length ≤ 1000000) :
    Calls Try.prog 33 #[v1, v2] w fun e w' => e = .returned (.bool (decide (l1 = l2))) ∧ ∃ n, w' = w.drewN n := by
  obtain ⟨a1, c1, rfl, g1⟩ := h1.evs
  obtain ⟨a2, c2, rfl, g2⟩ := h2.evs
  by_cases hl : l1.length = l2.length
  case neg =>
    have hl' : ((l1.length : Int) != (l2.length : Int)) = true := by simp; omega
    go_enter Try.func33, Try.ntmps33
    go_wp2
    go_ret
    exact ⟨by congr 2; symm; simp; intro e; exact hl (by rw [e]), 0, rfl⟩
  have hl' : ((l1.length : Int) != (l2.length : Int)) = false := by simp; omega
  have H1 := hid g1
  have H2 := hid g2
  have HL := hid hl
  clear h1 h2 g1 g2 hl
  go_enter Try.func33, Try.ntmps33
  go_wp2
  go_loopw [5] (fun i wr => ∃ k : Nat, k ≤ l1.length ∧ i = .int .i64 k ∧ l1.take k = l2.take k ∧ ∃ n, wr = w.drewN n) (fun i _ => l1.length - (intOf i).toNat)
  case atStart => exact ⟨0, by omega, rfl, rfl, 0, rfl⟩
  case round =>
    obtain ⟨k, hk, rfl, ht, m, rfl⟩ := hrel
    have HT := hid ht
    clear ht
    by_cases hlt : k < l1.length
    · have hlt2 : k < l2.length := by have := HL.out; omega
      obtain ⟨b1, o1, rfl, p⟩ := H1.out k _ (List.getElem?_eq_getElem hlt)
      obtain ⟨b2, o2, rfl, q⟩ := H2.out k _ (List.getElem?_eq_getElem hlt2)
      have p0 := p 0 _ rfl
      have p1 := p 1 _ rfl
      have p2 := p 2 _ rfl
      have p3 := p 3 _ rfl
      have p4 := p 4 _ rfl
      have p5 := p 5 _ rfl
      have p6 := p 6 _ rfl
      have p7 := p 7 _ rfl
      have p8 := p 8 _ rfl
      have p9 := p 9 _ rfl
      have q0 := q 0 _ rfl
      have q1 := q 1 _ rfl
      have q2 := q 2 _ rfl
      have q3 := q 3 _ rfl
      have q4 := q 4 _ rfl
      have q5 := q 5 _ rfl
      have q6 := q 6 _ rfl
      have q7 := q 7 _ rfl
      have q8 := q 8 _ rfl
      have q9 := q 9 _ rfl
      simp only [Nat.add_zero] at p0 q0
      clear p q
      by_cases he : l1[k] = l2[k]
      · have he' := evNe_false he
        have HE := hid he
        clear he
        go_wp2
        go_quiet (fail)
        go_wp2
        go_roundw
        case rel => exact ⟨k + 1, by omega, by go_num, take_eq_step hlt hlt2 HT.out HE.out, _, rfl⟩
        case measure => simp [intOf]; omega
      · have he' := evNe_true he
        have HE := hid he
        clear he
        go_wp2
        go_quiet (fail)
        go_wp2
        go_ret
        exact ⟨by congr 2; symm; simp; exact ne_of_at hlt hlt2 HE.out, _, drewN_drewN w m _⟩
    · go_wp2
      go_ret
      exact ⟨by congr 2; symm; simp; exact eq_of_take HL.out hk hlt HT.out, _, rfl⟩

end Go.Proofs.Ytpnkkdpggofanaa
