/- vergeref24.Line, by its walk. -/
import Derived.Test.YtpnkkdpggofanaaRefOps
import Derived.Test.YtpnkkdpggofanaaDone
import Derived.Test.YtpnkkdpggofanaaLine
namespace Go.Proofs.Ytpnkkdpggofanaa
open Go.Shelf Go.RowKit Go.Lib Go.Sort Go.Proofs

def rlin (os : List OpD) (i k : Nat) : List Int := ((os.take k).filter (fun o => o.did == (i : Int))).map (·.no)
def rlineTo (os : List OpD) (i : Nat) : List Int := (List.range i).flatMap (fun j => rlin os j os.length)
theorem rlin_len (os : List OpD) (i k : Nat) : (rlin os i k).length ≤ os.length := by
  unfold rlin
  rw [List.length_map]
  exact Nat.le_trans (List.length_filter_le _ _) (List.length_take_le' _ _)
theorem rlineTo_len (os : List OpD) (i : Nat) : (rlineTo os i).length ≤ i * os.length := by
  unfold rlineTo
  rw [List.length_flatMap]
  induction i with
  | zero => simp
  | succ i ih =>
    rw [List.range_succ, List.map_append, List.sum_append]
    have := rlin_len os i os.length
    simp only [List.map_cons, List.map_nil, List.sum_cons, List.sum_nil, Nat.add_zero, Nat.succ_mul]
    omega
theorem rlin_succ (os : List OpD) (i k : Nat) (h : k < os.length) : rlin os i (k + 1) = rlin os i k ++ if os[k].did = (i : Int) then [os[k].no] else [] := by
  unfold rlin
  rw [take_snoc_list os k h, List.filter_append, List.map_append]
  by_cases hd : os[k].did = (i : Int) <;> simp [hd]
theorem rlineTo_succ (os : List OpD) (i : Nat) : rlineTo os (i + 1) = rlineTo os i ++ rlin os i os.length := by
  unfold rlineTo
  rw [List.range_succ, List.flatMap_append]
  simp
/-- The line as the document has it. -/
def refLine (l : List Ev) : List Int := rlineTo (refOps l) l.length
theorem refOps_len (l : List Ev) : (refOps l).length ≤ l.length := refA_len l l.length

set_option maxRecDepth 1000000 in
set_option maxHeartbeats 4000000 in
theorem refline_any (l : List Ev) (v : Value) (w : World) (h1 : Reads w v l.length (l.flatMap evC)) (hn : l.length ≤ 1000) :
    Calls Try.prog 26 #[v] w fun x w' => ∃ v', x = .returned v' ∧ w'.ownsRow w.heap.size 3 1 v' (refLine l).length ((refLine l).map (Value.int .i64)) ∧ Below w.heap.size w w' := by
  have HRD := hid h1
  obtain ⟨ao, c1, rfl, g1⟩ := h1.evs
  clear g1 h1
  obtain ⟨i0, hi, hz0, hz1, hz2⟩ := info_parts int_info'
  have HEND := hid (show refLine l = rlineTo (refOps l) l.length from rfl)
  have hol := refOps_len l
  have HOPS := hid (refops_any l (.slice ao l.length c1) w HRD.out (by omega))
  generalize refLine l = RL at *
  generalize refOps l = os at *
  go_enter Try.func26, Try.ntmps26
  go_wp2_with (go_at_call 23; refine HOPS.out.mono ?_; rintro e w1 ⟨v1, rfl, ho1, hb1⟩; obtain ⟨ao1, c2, rfl⟩ := owns_shape ho1; have HO1 := hid ho1; have HB1 := hid hb1; have hs1 := hb1.size; clear ho1 hb1)
  have HC : Hid (∀ W, Below w1.heap.size w1 W → ∀ j (hj : j < os.length), ∃ b o, ao1 = some ⟨b, o, none⟩ ∧ W.cell? ⟨b, o + j * 6, none⟩ = some (.int .i64 os[j].no) ∧ W.cell? ⟨b, o + j * 6 + 4, none⟩ = some (.int .i64 os[j].did)) := by
    intro W hW j hj
    obtain ⟨ao', c', hv, hx⟩ := ((Reads.of_owns HO1.out).below hW (Nat.le_refl _)).ops
    simp only [Value.slice.injEq] at hv
    obtain ⟨rfl, _, rfl⟩ := hv
    obtain ⟨b, o, e, hc⟩ := hx j _ (List.getElem?_eq_getElem hj)
    exact ⟨b, o, e, by simpa using hc 0 _ rfl, hc 4 _ rfl⟩
  go_loopw [3, 5] (fun ov i wr => ∃ k : Nat, k ≤ l.length ∧ i = .int .i64 k ∧ wr.ownsRow w1.heap.size 3 1 ov (rlineTo os k).length ((rlineTo os k).map (Value.int .i64)) ∧ Below w1.heap.size w1 wr) (fun _ i _ => l.length - (intOf i).toNat)
  case atStart => exact ⟨0, by omega, rfl, by simpa [rlineTo] using World.ownsRow_nil _ _ _ _, Below.refl _ _⟩
  case round =>
    obtain ⟨k, hk, rfl, hown, hb⟩ := hrel
    by_cases hlt : k < l.length
    · have HO := hid hown
      have HB := hid hb
      have HS := hid (rlineTo_succ os k)
      have hle := rlineTo_len os k
      have hmul : k * os.length ≤ 1000000 := Nat.mul_le_mul (show k ≤ 1000 by omega) (show os.length ≤ 1000 by omega)
      clear hown hb
      go_wp2
      go_loopw [3, 6] (fun ov j wr => ∃ q : Nat, q ≤ os.length ∧ j = .int .i64 q ∧ wr.ownsRow w1.heap.size 3 1 ov (rlineTo os k ++ rlin os k q).length ((rlineTo os k ++ rlin os k q).map (Value.int .i64)) ∧ Below w1.heap.size w1 wr) (fun _ j _ => os.length - (intOf j).toNat)
      case atStart => exact ⟨0, by omega, rfl, by simpa [rlin] using HO.out, HB.out⟩
      case round =>
        clear HO HB
        obtain ⟨q, hq, rfl, hown, hb⟩ := hrel
        by_cases hqt : q < os.length
        · obtain ⟨b, o, hao, p0, p4⟩ := HC.out wr hb q hqt
          obtain rfl := hao
          have HO := hid hown
          have HB := hid hb
          have hsz := hb.size
          have HR := hid (show rlineTo os k ++ rlin os k (q + 1) = (rlineTo os k ++ rlin os k q) ++ if os[q].did = (k : Int) then [os[q].no] else [] by rw [rlin_succ os k q hqt, List.append_assoc])
          have hlen : (rlineTo os k ++ rlin os k q).length ≤ 1001000 := by have := rlin_len os k q; rw [List.length_append]; omega
          clear hown hb
          generalize os[q].did = d at *
          generalize os[q].no = no at *
          by_cases hd : d = (k : Int)
          · have hd' : (d == (k : Int)) = true := by simp [hd]
            have hr := HR.out
            rw [if_pos hd] at hr
            have HR := hid hr
            clear hd hr
            generalize rlineTo os k ++ rlin os k q = X at *
            go_wp2_with (at_builtin; refine Hid.out ?_)
            refine hid ?_
            refine wpList_append_any _ rfl _ _ 35 rfl w1.heap.size 3 i0 _ 1 8 Try.underlying35 hi hz0 hz1 hz2 rfl (by decide) _ _ _ rfl (HO.out.alloc _) _ 1 [.int .i64 no] rfl (Reads.built_at _ [.int .i64 no] 3 1 _ (by simp)) rfl (by simp [Value.oneCell']) (by unfold maxLen; omega) (by omega) (by simp; omega) ?_
            intro bo cap w3 hown3 hgrow
            have HO3 := hid hown3
            have HB3 := hid ((HB.out.alloc hsz (.cells #[.int .i64 no] 3)).grown hgrow (Nat.le_trans hsz (by simp)) (fun j hj => (HO.out.lt j hj).1))
            clear hown3 hgrow
            go_wp2
            go_roundw
            case rel => exact ⟨q + 1, by omega, by go_num, by rw [HR.out]; simpa using HO3.out, HB3.out⟩
            case measure => simp [intOf]; omega
          · have hd' : (d == (k : Int)) = false := by simp [hd]
            have hr := HR.out
            rw [if_neg hd, List.append_nil] at hr
            have HR := hid hr
            clear hd hr
            go_wp2
            go_roundw
            case rel => exact ⟨q + 1, by omega, by go_num, by rw [HR.out]; exact HO.out, HB.out⟩
            case measure => simp [intOf]; omega
        · obtain rfl : q = os.length := by omega
          have HO := hid hown
          have HB := hid hb
          clear hown hb
          go_wp2
          go_roundw
          case rel => exact ⟨k + 1, by omega, by go_num, by rw [HS.out]; exact HO.out, HB.out⟩
          case measure => simp [intOf]; omega
    · obtain rfl : k = l.length := by omega
      have HO := hid hown
      have HB := hid (HB1.out.trans (hb.mono hs1))
      clear hown hb
      go_wp2
      go_ret
      exact ⟨_, rfl, by rw [HEND.out]; exact owns_base HO.out hs1, HB.out⟩
end Go.Proofs.Ytpnkkdpggofanaa
