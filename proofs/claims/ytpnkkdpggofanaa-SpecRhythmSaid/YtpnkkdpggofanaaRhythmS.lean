/- times.Add; firing.Rhythm, vergeref12.Rhythm: by their walks, both the same plain function. -/
import Derived.Test.YtpnkkdpggofanaaFir
import Derived.Test.YtpnkkdpggofanaaAdd
namespace Go.Proofs.Ytpnkkdpggofanaa
open Go.RowKit

/-- Is the i-th firing right: its deadline, its generation? -/
def rhyAt (l : List Fir) (start period : Int) (i : Nat) : Bool := match l[i]? with
  | some f => decide (f.dl = start + (i : Int) * period) && decide (start + (i : Int) * period ≤ 18446744073709551615) && (match i with
    | 0 => true
    | j + 1 => match l[j]? with
      | some g => decide (f.gen ≠ 0) && decide (f.gen - 1 = g.gen)
      | none => false)
  | none => false
def rhyTo (l : List Fir) (start period : Int) (k : Nat) : Bool := (List.range k).all (rhyAt l start period)
theorem rhyTo_succ (l : List Fir) (s p : Int) (k : Nat) : rhyTo l s p (k + 1) = (rhyTo l s p k && rhyAt l s p k) := by
  unfold rhyTo; rw [List.range_succ, List.all_append]; simp
theorem rhyTo_false {l : List Fir} {s p : Int} {k : Nat} (hk : k < l.length) (h : rhyAt l s p k = false) : rhyTo l s p l.length = false := by
  unfold rhyTo
  rw [← Bool.not_eq_true]
  intro hall
  have := List.all_eq_true.1 hall k (by simpa using hk)
  rw [h] at this; cases this
theorem rhyAt_zero (l : List Fir) (s p : Int) (h : 0 < l.length) (hs : s ≤ 18446744073709551615) : rhyAt l s p 0 = decide (l[0].dl = s) := by
  simp [rhyAt, h, hs]
theorem rhyAt_succ (l : List Fir) (s p : Int) (j : Nat) (h : j + 1 < l.length) : rhyAt l s p (j + 1) = (decide (l[j + 1].dl = s + ((j : Int) + 1) * p) && decide (s + ((j : Int) + 1) * p ≤ 18446744073709551615) && (decide (l[j + 1].gen ≠ 0) && decide (l[j + 1].gen - 1 = l[j].gen))) := by
  have h1 : j < l.length := by omega
  simp [rhyAt, h, h1]

theorem addV_nonneg {a b : Int} (h1 : 0 ≤ a) (h2 : 0 ≤ b) : 0 ≤ addV a b := by unfold addV; split <;> omega
theorem addV_le (a b : Int) : addV a b ≤ 18446744073709551615 := by unfold addV; split <;> omega
theorem rhy_step (s p : Int) (k : Nat) : s + ((k + 1 : Nat) : Int) * p = s + (k : Int) * p + p := by rw [Int.natCast_add, Int.add_mul]; omega
theorem rhy_at {A s p : Int} {k : Nat} (h : A = s + (k : Int) * p) : (addE A p != 0) = false → addV A p = s + ((k + 1 : Nat) : Int) * p := by
  intro he
  rw [rhy_step, ← h]
  unfold addE at he; unfold addV
  split at he
  · rename_i hle; rw [if_pos hle]
  · simp at he
theorem rhy_over {A s p : Int} {k : Nat} (h : A = s + (k : Int) * p) : (addE A p != 0) = true → 18446744073709551615 < s + ((k + 1 : Nat) : Int) * p := by
  intro he
  rw [rhy_step, ← h]
  unfold addE at he
  split at he
  · simp at he
  · omega

set_option maxHeartbeats 4000000 in
theorem rhythm_any (l : List Fir) (v : Value) (start period : Int) (w : World) (h1 : Reads w v l.length (l.flatMap firC)) (hn : l.length ≤ 1000000) (hwf : ∀ f ∈ l, f.wf) (hs0 : 0 ≤ start) (hs1 : start ≤ 18446744073709551615) (hp0 : 0 ≤ period) (hp1 : period ≤ 18446744073709551615) :
    Calls Try.prog 20 #[v, .int .u64 start, .int .u64 period] w fun e w' => e = .returned (.bool (rhyTo l start period l.length)) ∧ Below w.heap.size w w' := by
  have hrd := hid h1
  obtain ⟨a1, c1, rfl, g1⟩ := h1.fir
  have H1 := hid g1
  have HW := hid hwf
  clear g1 h1 hwf
  go_enter Try.func20, Try.ntmps20
  go_wp2
  go_loopw [7, 8, 16] (fun at_ ov i wr => ∃ k : Nat, k ≤ l.length ∧ i = .int .i64 k ∧ ∃ A : Int, ∃ O : Bool, at_ = .int .u64 A ∧ ov = .bool O ∧ 0 ≤ A ∧ A ≤ 18446744073709551615 ∧ (O = false → A = start + (k : Int) * period) ∧ (O = true → 18446744073709551615 < start + (k : Int) * period) ∧ rhyTo l start period k = true ∧ Below w.heap.size w wr) (fun _ _ i _ => l.length - (intOf i).toNat)
  case atStart => exact ⟨0, by omega, rfl, start, false, rfl, rfl, hs0, hs1, by simp, by simp, rfl, Below.refl _ _⟩
  case round =>
    obtain ⟨k, hk, rfl, A, O, rfl, rfl, hA0, hA1, hOf, hOt, hto, hb⟩ := hrel
    have HB := hid hb
    have hsz := hb.size
    have HF := hid hOf
    have HT := hid hOt
    have HTo := hid hto
    clear hb hOf hOt hto
    by_cases hlt : k < l.length
    · obtain ⟨b, o, hao, g0, _⟩ := H1.out k _ (List.getElem?_eq_getElem hlt)
      obtain rfl := hao
      have hb0 : b < w.heap.size := World.block_lt_of_cell? w _ g0
      clear g0
      have HR : Hid (∀ wi, Below w.heap.size w wi → ∀ i f, l[i]? = some f → wi.cell? ⟨b, o + i * 4, none⟩ = some (.int .u64 f.id) ∧ wi.cell? ⟨b, o + i * 4 + 1, none⟩ = some (.int .u64 f.gen) ∧ wi.cell? ⟨b, o + i * 4 + 2, none⟩ = some (.int .u64 f.dl) ∧ wi.cell? ⟨b, o + i * 4 + 3, none⟩ = some (.int .u64 f.tk)) := by
        intro wi hwi i f hf
        obtain ⟨b', o', hao, p0, p1, p2, p3⟩ := H1.out i f hf
        simp only [Option.some.injEq, Addr.mk.injEq] at hao
        obtain ⟨rfl, rfl, _⟩ := hao
        exact ⟨(hwi.cell hb0).trans p0, (hwi.cell hb0).trans p1, (hwi.cell hb0).trans p2, (hwi.cell hb0).trans p3⟩
      obtain ⟨p0, p1, p2, p3⟩ := HR.out wr HB.out k _ (List.getElem?_eq_getElem hlt)
      have hbk := hb0
      have hblt : b < wr.heap.size := World.block_lt_of_cell? wr _ p0
      obtain ⟨_, ⟨hg0, hg1⟩, _, _⟩ := HW.out l[k] (List.getElem_mem hlt)
      cases O
      case true =>
        have hbad := hid (show rhyAt l start period k = false by
          have := HT.out rfl
          have h2 : ¬ (start + (k : Int) * period ≤ 18446744073709551615) := by omega
          simp [rhyAt, hlt, h2])
        go_wp2
        go_quiet (fail)
        go_wp2
        go_ret
        exact ⟨by rw [rhyTo_false hlt hbad.out]; rfl, below_drewN (HB.out.alloc hsz _) _⟩
      case false =>
        have HA := hid (HF.out rfl)
        by_cases hd : l[k].dl = A
        case neg =>
          have hd' : (l[k].dl != A) = true := by simp [hd]
          have hbad := hid (show rhyAt l start period k = false by
            have h2 : ¬ (l[k].dl = start + (k : Int) * period) := by rw [← HA.out]; exact hd
            simp [rhyAt, hlt, h2])
          clear hd
          go_wp2
          go_quiet (fail)
          go_wp2
          go_ret
          exact ⟨by rw [rhyTo_false hlt hbad.out]; rfl, below_drewN (HB.out.alloc hsz _) _⟩
        case pos =>
          have hd' : (l[k].dl != A) = false := by simp [hd]
          have HD := hid hd
          clear hd
          cases k with
          | zero =>
            simp only [Nat.zero_mul, Nat.add_zero] at p0 p1 p2 p3
            have hgood := hid (show rhyAt l start period 0 = true by rw [rhyAt_zero _ _ _ hlt hs1, HD.out, HA.out]; simp)
            go_wp2
            go_quiet (fail)
            go_wp2_with (go_at_call 42; refine (add_any A period _ hA0 hA1 hp0 hp1).mono ?_; rintro e w' ⟨rfl, rfl⟩)
            go_roundw
            case rel => exact ⟨_, by omega, by go_num, addV A period, (addE A period != 0), rfl, rfl, addV_nonneg hA0 hp0, addV_le A period, rhy_at HA.out, rhy_over HA.out, by rw [rhyTo_succ, HTo.out, hgood.out]; rfl, below_drewN (HB.out.alloc hsz _) _⟩
            case measure => simp [intOf]; omega
          | succ j =>
            obtain ⟨q0, q1, q2, q3⟩ := HR.out wr HB.out j _ (List.getElem?_eq_getElem (show j < l.length by omega))
            by_cases hg : l[j + 1].gen = 0
            · have hg' : (l[j + 1].gen == 0) = true := by simp [hg]
              have hbad := hid (show rhyAt l start period (j + 1) = false by rw [rhyAt_succ _ _ _ _ hlt, hg]; simp)
              clear hg
              go_wp2
              go_quiet (fail)
              go_wp2
              go_ret
              exact ⟨by rw [rhyTo_false hlt hbad.out]; rfl, below_drewN (HB.out.alloc hsz _) _⟩
            · have hg' : (l[j + 1].gen == 0) = false := by simp [hg]
              have hg2 : 1 ≤ l[j + 1].gen := by omega
              by_cases hgg : l[j + 1].gen - 1 = l[j].gen
              · have hgg' : (l[j + 1].gen - 1 != l[j].gen) = false := by simp [hgg]
                have hgood := hid (show rhyAt l start period (j + 1) = true by
                  have hAA : A = start + ((j : Int) + 1) * period := by have := HA.out; rw [this]; push_cast; rfl
                  rw [rhyAt_succ _ _ _ _ hlt, HD.out, ← hAA]; simp [hA1, hg, hgg])
                clear hg hgg
                go_wp2
                go_quiet (fail)
                go_wp2_with (go_at_call 42; refine (add_any A period _ hA0 hA1 hp0 hp1).mono ?_; rintro e w' ⟨rfl, rfl⟩)
                go_roundw
                case rel => exact ⟨_, by omega, by go_num, addV A period, (addE A period != 0), rfl, rfl, addV_nonneg hA0 hp0, addV_le A period, rhy_at HA.out, rhy_over HA.out, by rw [rhyTo_succ, HTo.out, hgood.out]; rfl, below_drewN (HB.out.alloc hsz _) _⟩
                case measure => simp [intOf]; omega
              · have hgg' : (l[j + 1].gen - 1 != l[j].gen) = true := by simp [hgg]
                have hbad := hid (show rhyAt l start period (j + 1) = false by rw [rhyAt_succ _ _ _ _ hlt]; simp [hgg])
                clear hg hgg
                go_wp2
                go_quiet (fail)
                go_wp2
                go_ret
                exact ⟨by rw [rhyTo_false hlt hbad.out]; rfl, below_drewN (HB.out.alloc hsz _) _⟩
    · obtain rfl : k = l.length := by omega
      go_wp2
      go_ret
      exact ⟨by rw [HTo.out]; rfl, HB.out⟩
end Go.Proofs.Ytpnkkdpggofanaa
