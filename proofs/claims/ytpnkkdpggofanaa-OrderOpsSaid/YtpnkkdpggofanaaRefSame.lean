/- vergeref24.Same by its walk. -/
import Derived.Test.YtpnkkdpggofanaaRefOps
import Derived.Test.YtpnkkdpggofanaaDone
import Derived.Test.YtpnkkdpggofanaaSame
namespace Go.Proofs.Ytpnkkdpggofanaa
open Go.Shelf Go.RowKit Go.Lib Go.Proofs

theorem rop_u : Try.prog.underlying 51 = some (.struct (Try.prog.fieldsOf 51)) := by kernel_rfl
theorem rop_s : Try.prog.stoodInHeld 51 = false := by kernel_rfl
@[go_sem] theorem rop_g : Try.prog.eqGuardType Try.prog.depth 51 = false := by kernel_rfl
def ropNe (a0 a1 a2 a3 a4 a5 b0 b1 b2 b3 b4 b5 : Int) : Bool := !(a0 == b0 && a1 == b1 && a2 == b2 && a3 == b3 && a4 == b4 && a5 == b5)
theorem ropNe_false {f g : OpD} (h : f = g) : ropNe f.no f.thr f.what f.beg f.did f.fin g.no g.thr g.what g.beg g.did g.fin = false := by subst h; simp [ropNe]
theorem ropNe_true {f g : OpD} (h : f ≠ g) : ropNe f.no f.thr f.what f.beg f.did f.fin g.no g.thr g.what g.beg g.did g.fin = true := by
  cases hb : ropNe f.no f.thr f.what f.beg f.did f.fin g.no g.thr g.what g.beg g.did g.fin
  · refine absurd ?_ h
    obtain ⟨a0, a1, a2, a3, a4, a5⟩ := f
    obtain ⟨b0, b1, b2, b3, b4, b5⟩ := g
    simp only [ropNe, Bool.not_eq_false', Bool.and_eq_true, beq_iff_eq] at hb
    obtain ⟨⟨⟨⟨⟨h0, h1⟩, h2⟩, h3⟩, h4⟩, h5⟩ := hb
    subst h0 h1 h2 h3 h4 h5
    rfl
  · rfl
@[go_sem ↓] theorem rop_neq (w : World) (a0 a1 a2 a3 a4 a5 b0 b1 b2 b3 b4 b5 : Int) : (binOp .neq 51 (.agg #[.int .i64 a0, .int .i64 a1, .int .i64 a2, .int .i64 a3, .int .i64 a4, .int .i64 a5]) (.agg #[.int .i64 b0, .int .i64 b1, .int .i64 b2, .int .i64 b3, .int .i64 b4, .int .i64 b5])).run Try.prog w =
   .ok (.bool (ropNe a0 a1 a2 a3 a4 a5 b0 b1 b2 b3 b4 b5)) w := by
  rw [run_neq_struct, run_equalIn_agg _ _ _ _ _ rop_u rop_s]
  by_cases h0 : a0 = b0
  case neg => simp [go_sem, ropNe, h0]
  by_cases h1 : a1 = b1
  case neg => simp [go_sem, ropNe, h0, h1]
  by_cases h2 : a2 = b2
  case neg => simp [go_sem, ropNe, h0, h1, h2]
  by_cases h3 : a3 = b3
  case neg => simp [go_sem, ropNe, h0, h1, h2, h3]
  by_cases h4 : a4 = b4
  case neg => simp [go_sem, ropNe, h0, h1, h2, h3, h4]
  by_cases h5 : a5 = b5
  case neg => simp [go_sem, ropNe, h0, h1, h2, h3, h4, h5]
  simp [go_sem, ropNe, h0, h1, h2, h3, h4, h5]

set_option maxHeartbeats 1000000 in
theorem refsame_any (l1 l2 : List OpD) (v1 v2 : Value) (w : World) (h1 : Reads w v1 l1.length (l1.flatMap opC)) (h2 : Reads w v2 l2.length (l2.flatMap opC)) (hn1 : l1.length ≤ 1000000) :
    Calls Try.prog 24 #[v1, v2] w fun e w' => e = .returned (.bool (decide (l1 = l2))) ∧ ∃ n, w' = w.drewN n := by
  obtain ⟨a1, c1, rfl, g1⟩ := h1.ops
  obtain ⟨a2, c2, rfl, g2⟩ := h2.ops
  by_cases hl : l1.length = l2.length
  case neg =>
    have hl' : ((l1.length : Int) != (l2.length : Int)) = true := by simp; omega
    go_enter Try.func24, Try.ntmps24
    go_wp2
    go_ret
    exact ⟨by congr 2; symm; simp; intro e; exact hl (by rw [e]), 0, rfl⟩
  have hl' : ((l1.length : Int) != (l2.length : Int)) = false := by simp; omega
  have H1 := hid g1
  have H2 := hid g2
  have HL := hid hl
  clear h1 h2 g1 g2 hl
  go_enter Try.func24, Try.ntmps24
  go_wp2
  go_loopw [5] (fun i wr => ∃ k : Nat, k ≤ l1.length ∧ i = .int .i64 k ∧ l1.take k = l2.take k ∧ ∃ n, wr = w.drewN n) (fun i _ => l1.length - (intOf i).toNat)
  case atStart => exact ⟨0, by omega, rfl, rfl, 0, rfl⟩
  case round =>
    obtain ⟨k, hk, rfl, ht, m, rfl⟩ := hrel
    have HT := hid ht
    clear ht
    by_cases hlt : k < l1.length
    · have hlt2 : k < l2.length := by have := HL.out; omega
      obtain ⟨b1, o1, rfl, p⟩ := H1.out k _ (List.getElem?_eq_getElem hlt)
      obtain ⟨b2, o2, rfl, q⟩ := H2.out k _ (List.getElem?_eq_getElem hlt2)
      have p0 := p 0 _ rfl
      have p1 := p 1 _ rfl
      have p2 := p 2 _ rfl
      have p3 := p 3 _ rfl
      have p4 := p 4 _ rfl
      have p5 := p 5 _ rfl
      have q0 := q 0 _ rfl
      have q1 := q 1 _ rfl
      have q2 := q 2 _ rfl
      have q3 := q 3 _ rfl
      have q4 := q 4 _ rfl
      have q5 := q 5 _ rfl
      simp only [Nat.add_zero] at p0 q0
      clear p q
      by_cases he : l1[k] = l2[k]
      · have he' := ropNe_false he
        have HE := hid he
        clear he
        go_wp2
        go_quiet (fail)
        go_wp2
        go_roundw
        case rel => exact ⟨k + 1, by omega, by go_num, take_eq_step hlt hlt2 HT.out HE.out, _, rfl⟩
        case measure => simp [intOf]; omega
      · have he' := ropNe_true he
        have HE := hid he
        clear he
        go_wp2
        go_quiet (fail)
        go_wp2
        go_ret
        exact ⟨by congr 2; symm; simp; exact ne_of_at hlt hlt2 HE.out, _, drewN_drewN w m _⟩
    · go_wp2
      go_ret
      exact ⟨by congr 2; symm; simp; exact eq_of_take HL.out hk hlt HT.out, _, rfl⟩

end Go.Proofs.Ytpnkkdpggofanaa
