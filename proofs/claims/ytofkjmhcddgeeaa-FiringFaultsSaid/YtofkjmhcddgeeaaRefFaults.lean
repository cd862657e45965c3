/- vergeref12.Faults: the same places as firing.Faults. -/
import Derived.Test.YtofkjmhcddgeeaaFaults
namespace Go.Proofs.Ytofkjmhcddgeeaa
open Go.RowKit

def sameKey (f g : Fir) : Bool := decide ((f.id, f.gen) = (g.id, g.gen))
set_option maxHeartbeats 2000000 in
theorem refFaults_any (l : List Fir) (v : Value) (w : World) (h1 : Reads w v l.length (l.flatMap firC)) (hn : l.length ≤ 1000000) :
    Calls Try.prog 18 #[v] w fun e w' => ∃ v', e = .returned v' ∧ w'.ownsRow w.heap.size 3 1 v' (faultsTo l l.length).length ((faultsTo l l.length).map (Value.int .i64)) ∧ Below w.heap.size w w' := by
  have hrd := hid h1
  obtain ⟨a1, c1, rfl, g1⟩ := h1.fir
  have H1 := hid g1
  clear g1 h1
  obtain ⟨i0, hi, hz0, hz1, hz2⟩ := info_parts int_info
  go_enter Try.func18, Try.ntmps18
  go_wp2
  go_loopw [3, 4] (fun o i wr => ∃ k : Nat, k ≤ l.length ∧ i = .int .i64 k ∧ wr.ownsRow w.heap.size 3 1 o (faultsTo l k).length ((faultsTo l k).map (Value.int .i64)) ∧ Below w.heap.size w wr) (fun _ i _ => l.length - (intOf i).toNat)
  case atStart => exact ⟨0, by omega, rfl, by simpa [faultsTo] using World.ownsRow_nil _ _ _ _, Below.refl _ _⟩
  case round =>
    obtain ⟨k, hk, rfl, hown, hb⟩ := hrel
    have HB := hid hb
    have hsz := hb.size
    have hle := faultsTo_len l k
    clear hb
    by_cases hlt : k < l.length
    · obtain ⟨b, o, hao, g0, _⟩ := H1.out k _ (List.getElem?_eq_getElem hlt)
      obtain rfl := hao
      have hb0 : b < w.heap.size := World.block_lt_of_cell? w _ g0
      clear g0
      have HR : Hid (∀ wi, Below w.heap.size w wi → ∀ i f, l[i]? = some f → wi.cell? ⟨b, o + i * 4, none⟩ = some (.int .u64 f.id) ∧ wi.cell? ⟨b, o + i * 4 + 1, none⟩ = some (.int .u64 f.gen) ∧ wi.cell? ⟨b, o + i * 4 + 2, none⟩ = some (.int .u64 f.dl) ∧ wi.cell? ⟨b, o + i * 4 + 3, none⟩ = some (.int .u64 f.tk)) := by
        intro wi hwi i f hf
        obtain ⟨b', o', hao, p0, p1, p2, p3⟩ := H1.out i f hf
        simp only [Option.some.injEq, Addr.mk.injEq] at hao
        obtain ⟨rfl, rfl, _⟩ := hao
        exact ⟨(hwi.cell hb0).trans p0, (hwi.cell hb0).trans p1, (hwi.cell hb0).trans p2, (hwi.cell hb0).trans p3⟩
      obtain ⟨p0, p1, p2, p3⟩ := HR.out wr HB.out k _ (List.getElem?_eq_getElem hlt)
      obtain ⟨wo, rfl⟩ : ∃ wo : World, wo = wr := ⟨_, rfl⟩
      have hstep := hid (faultsTo_succ l k)
      have hbad := hid (show badAt l k = (decide (l[k].tk < l[k].dl) || (l.take k).any fun g => decide ((g.id, g.gen) = (l[k].id, l[k].gen))) by simp [badAt, hlt])
      go_wp2
      go_quiet (fail)
      go_wp2
      go_loopw [5, 6] (fun bd j wi => ∃ q : Nat, q ≤ k ∧ j = .int .i64 q ∧ ∃ bb : Bool, bd = .bool bb ∧ bb = (decide (l[k].tk < l[k].dl) || (l.take q).any fun g => decide ((g.id, g.gen) = (l[k].id, l[k].gen))) ∧ wi.ownsRow w.heap.size 3 1 u3 (faultsTo l k).length ((faultsTo l k).map (Value.int .i64)) ∧ Below w.heap.size w wi) (fun _ j _ => k - (intOf j).toNat)
      case atStart => exact ⟨0, by omega, rfl, _, rfl, by simp, hown, below_drewN HB.out _⟩
      case round =>
        obtain ⟨q, hq, rfl, bb, rfl, hbb', hownq, hbq⟩ := hrel
        have hbb := hid hbb'
        have HBq := hid hbq
        have hszq := hbq.size
        clear hbb' hbq p0 p1 p2 p3
        by_cases hql : q < k
        · obtain ⟨p0, p1, p2, p3⟩ := HR.out wr HBq.out k _ (List.getElem?_eq_getElem hlt)
          obtain ⟨q0, q1, q2, q3⟩ := HR.out wr HBq.out q _ (List.getElem?_eq_getElem (by omega))
          have hql' : q < l.length := by omega
          have hsn := hid (show (l.take (q + 1)).any (fun g => decide ((g.id, g.gen) = (l[k].id, l[k].gen))) = ((l.take q).any (fun g => decide ((g.id, g.gen) = (l[k].id, l[k].gen))) || decide ((l[q].id, l[q].gen) = (l[k].id, l[k].gen))) by rw [take_snoc_list l q hql', List.any_append]; simp)
          cases bb
          · by_cases h1 : l[q].id = l[k].id
            · have e1 : (l[q].id == l[k].id) = true := by simp [h1]
              by_cases h2 : l[q].gen = l[k].gen
              · have e2 : (l[q].gen == l[k].gen) = true := by simp [h2]
                have hfin := hid (show (true : Bool) = (decide (l[k].tk < l[k].dl) || (l.take (q + 1)).any fun g => decide ((g.id, g.gen) = (l[k].id, l[k].gen))) by rw [hsn.out]; simp [h1, h2])
                clear h1 h2
                go_wp2
                go_quiet (fail)
                go_wp2
                go_roundw
                case rel => exact ⟨q + 1, by omega, by go_num, _, rfl, hfin.out, hownq, below_drewN HBq.out _⟩
                case measure => simp [intOf]; omega
              · have e2 : (l[q].gen == l[k].gen) = false := by simp [h2]
                have hfin := hid (show (false : Bool) = (decide (l[k].tk < l[k].dl) || (l.take (q + 1)).any fun g => decide ((g.id, g.gen) = (l[k].id, l[k].gen))) by rw [hsn.out, ← Bool.or_assoc, ← hbb.out]; simp [h2])
                clear h1 h2
                go_wp2
                go_quiet (fail)
                go_wp2
                go_roundw
                case rel => exact ⟨q + 1, by omega, by go_num, _, rfl, hfin.out, hownq, below_drewN HBq.out _⟩
                case measure => simp [intOf]; omega
            · have e1 : (l[q].id == l[k].id) = false := by simp [h1]
              have hfin := hid (show (false : Bool) = (decide (l[k].tk < l[k].dl) || (l.take (q + 1)).any fun g => decide ((g.id, g.gen) = (l[k].id, l[k].gen))) by rw [hsn.out, ← Bool.or_assoc, ← hbb.out]; simp [h1])
              clear h1
              go_wp2
              go_quiet (fail)
              go_wp2
              go_roundw
              case rel => exact ⟨q + 1, by omega, by go_num, _, rfl, hfin.out, hownq, below_drewN HBq.out _⟩
              case measure => simp [intOf]; omega
          · have hfin := hid (show (true : Bool) = (decide (l[k].tk < l[k].dl) || (l.take (q + 1)).any fun g => decide ((g.id, g.gen) = (l[k].id, l[k].gen))) by rw [hsn.out, ← Bool.or_assoc, ← hbb.out]; simp)
            go_wp2
            go_quiet (fail)
            go_wp2
            go_roundw
            case rel => exact ⟨q + 1, by omega, by go_num, _, rfl, hfin.out, hownq, below_drewN HBq.out _⟩
            case measure => simp [intOf]; omega
        · obtain rfl : q = k := by omega
          cases bb
          · have hb2 := hid (show badAt l q = false by rw [hbad.out, ← hbb.out])
            go_wp2
            go_roundw
            case rel => exact ⟨q + 1, by omega, by go_num, by rw [hstep.out, hb2.out]; simpa using hownq, HBq.out⟩
            case measure => simp [intOf]; omega
          · have hb2 := hid (show badAt l q = true by rw [hbad.out, ← hbb.out])
            go_wp2_with (at_builtin; refine wpList_append_own _ rfl _ _ 36 rfl w.heap.size 3 i0 _ 1 8 Try.underlying36 hi hz0 hz1 hz2 rfl (by decide) u3 _ _ rfl (hownq.alloc _) ⟨wr.heap.size, 0, none⟩ 1 1 [.int .i64 q] rfl rfl (cells_new _ _ _) (by simp [Value.oneCell']) (by unfold maxLen; omega) (by omega) (by simp; omega) ?_; intro v' w1 hown' hgrow _)
            go_roundw
            case rel => exact ⟨q + 1, by omega, by go_num, by rw [hstep.out, if_pos hb2.out, List.length_append, List.map_append]; exact hown', below_appended HBq.out hszq hownq hgrow⟩
            case measure => simp [intOf]; omega
    · go_wp2
      go_ret
      obtain rfl : k = l.length := by omega
      exact ⟨_, rfl, hown, HB.out⟩
end Go.Proofs.Ytofkjmhcddgeeaa
