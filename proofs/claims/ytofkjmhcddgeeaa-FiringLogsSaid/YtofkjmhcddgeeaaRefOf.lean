/- vergeref12.Of, At: by their walks. -/
import Derived.Test.YtofkjmhcddgeeaaFir
namespace Go.Proofs.Ytofkjmhcddgeeaa
open Go.RowKit

set_option maxHeartbeats 400000 in
theorem refOf_any (l : List Fir) (v : Value) (x : Int) (w : World) (h1 : Reads w v l.length (l.flatMap firC)) (hn : l.length ≤ 1000000) :
    Calls Try.prog 13 #[v, .int .u64 x] w fun e w' => ∃ v', e = .returned v' ∧ w'.ownsRow w.heap.size 30 4 v' (l.filter fun f => f.id == x).length ((l.filter fun f => f.id == x).flatMap firC) ∧ Below w.heap.size w w' := by
  have hrd := hid h1
  obtain ⟨a1, c1, rfl, g1⟩ := h1.fir
  have H1 := hid g1
  clear g1 h1
  obtain ⟨i0, hi, hz0, hz1, hz2⟩ := info_parts fir_info
  go_enter Try.func13, Try.ntmps13
  go_wp2
  go_loopw [5, 6] (fun o i wr => ∃ k : Nat, k ≤ l.length ∧ i = .int .i64 k ∧ wr.ownsRow w.heap.size 30 4 o ((l.take k).filter fun f => f.id == x).length (((l.take k).filter fun f => f.id == x).flatMap firC) ∧ Below w.heap.size w wr) (fun _ i _ => l.length - (intOf i).toNat)
  case atStart => exact ⟨0, by omega, rfl, World.ownsRow_nil _ _ _ _, Below.refl _ _⟩
  case round =>
    obtain ⟨k, hk, rfl, hown, hb⟩ := hrel
    have HB := hid hb
    have hsz := hb.size
    have hle := filter_take_le (fun f : Fir => f.id == x) l k
    clear hb
    by_cases hlt : k < l.length
    · have hst := hid (filter_snoc (fun f : Fir => f.id == x) l k hlt)
      obtain ⟨b1, o1, hao, _⟩ := H1.out k _ (List.getElem?_eq_getElem hlt)
      obtain rfl := hao
      obtain ⟨ao', c', hv', hx'⟩ := (hrd.out.below HB.out (Nat.le_refl _)).fir
      simp only [Value.slice.injEq] at hv'
      obtain ⟨rfl, _, rfl⟩ := hv'
      obtain ⟨b', o', hao, p0, p1, p2, p3⟩ := hx' k _ (List.getElem?_eq_getElem hlt)
      clear hx'
      simp only [Option.some.injEq, Addr.mk.injEq] at hao
      obtain ⟨rfl, rfl, _⟩ := hao
      by_cases he : l[k].id = x
      · have he' : (l[k].id == x) = true := by simp [he]
        clear he
        go_wp2_with (at_builtin; refine wpList_append_own _ rfl _ _ 22 rfl w.heap.size 30 i0 _ 4 32 Try.underlying22 hi hz0 hz1 hz2 rfl (by decide) u5 _ _ rfl (hown.alloc _) ⟨wr.heap.size, 0, none⟩ 1 1 (firC l[k]) rfl rfl (cells_new _ _ _) (by intro u hu; simp [firC] at hu; rcases hu with rfl | rfl | rfl | rfl <;> rfl) (by unfold maxLen; omega) (by omega) (by simp; omega) ?_; intro v' w1 hown' hgrow _)
        go_roundw
        case rel => exact ⟨k + 1, by omega, by go_num, by rw [hst.out, if_pos he', List.length_append, flatMap_snoc]; exact hown', below_appended HB.out hsz hown hgrow⟩
        case measure => simp [intOf]; omega
      · have he' : (l[k].id == x) = false := by simp [he]
        clear he
        go_wp2
        go_roundw
        case rel => exact ⟨k + 1, by omega, by go_num, by rw [hst.out, if_neg (by simp [he']), List.append_nil]; exact hown, HB.out⟩
        case measure => simp [intOf]; omega
    · go_wp2
      go_ret
      exact ⟨_, rfl, by rw [List.take_of_length_le (by omega)] at hown; exact hown, HB.out⟩

set_option maxHeartbeats 400000 in
theorem refAt_any (l : List Fir) (v : Value) (x : Int) (w : World) (h1 : Reads w v l.length (l.flatMap firC)) (hn : l.length ≤ 1000000) :
    Calls Try.prog 14 #[v, .int .u64 x] w fun e w' => ∃ v', e = .returned v' ∧ w'.ownsRow w.heap.size 30 4 v' (l.filter fun f => f.tk == x).length ((l.filter fun f => f.tk == x).flatMap firC) ∧ Below w.heap.size w w' := by
  have hrd := hid h1
  obtain ⟨a1, c1, rfl, g1⟩ := h1.fir
  have H1 := hid g1
  clear g1 h1
  obtain ⟨i0, hi, hz0, hz1, hz2⟩ := info_parts fir_info
  go_enter Try.func14, Try.ntmps14
  go_wp2
  go_loopw [5, 6] (fun o i wr => ∃ k : Nat, k ≤ l.length ∧ i = .int .i64 k ∧ wr.ownsRow w.heap.size 30 4 o ((l.take k).filter fun f => f.tk == x).length (((l.take k).filter fun f => f.tk == x).flatMap firC) ∧ Below w.heap.size w wr) (fun _ i _ => l.length - (intOf i).toNat)
  case atStart => exact ⟨0, by omega, rfl, World.ownsRow_nil _ _ _ _, Below.refl _ _⟩
  case round =>
    obtain ⟨k, hk, rfl, hown, hb⟩ := hrel
    have HB := hid hb
    have hsz := hb.size
    have hle := filter_take_le (fun f : Fir => f.tk == x) l k
    clear hb
    by_cases hlt : k < l.length
    · have hst := hid (filter_snoc (fun f : Fir => f.tk == x) l k hlt)
      obtain ⟨b1, o1, hao, _⟩ := H1.out k _ (List.getElem?_eq_getElem hlt)
      obtain rfl := hao
      obtain ⟨ao', c', hv', hx'⟩ := (hrd.out.below HB.out (Nat.le_refl _)).fir
      simp only [Value.slice.injEq] at hv'
      obtain ⟨rfl, _, rfl⟩ := hv'
      obtain ⟨b', o', hao, p0, p1, p2, p3⟩ := hx' k _ (List.getElem?_eq_getElem hlt)
      clear hx'
      simp only [Option.some.injEq, Addr.mk.injEq] at hao
      obtain ⟨rfl, rfl, _⟩ := hao
      by_cases he : l[k].tk = x
      · have he' : (l[k].tk == x) = true := by simp [he]
        clear he
        go_wp2_with (at_builtin; refine wpList_append_own _ rfl _ _ 22 rfl w.heap.size 30 i0 _ 4 32 Try.underlying22 hi hz0 hz1 hz2 rfl (by decide) u5 _ _ rfl (hown.alloc _) ⟨wr.heap.size, 0, none⟩ 1 1 (firC l[k]) rfl rfl (cells_new _ _ _) (by intro u hu; simp [firC] at hu; rcases hu with rfl | rfl | rfl | rfl <;> rfl) (by unfold maxLen; omega) (by omega) (by simp; omega) ?_; intro v' w1 hown' hgrow _)
        go_roundw
        case rel => exact ⟨k + 1, by omega, by go_num, by rw [hst.out, if_pos he', List.length_append, flatMap_snoc]; exact hown', below_appended HB.out hsz hown hgrow⟩
        case measure => simp [intOf]; omega
      · have he' : (l[k].tk == x) = false := by simp [he]
        clear he
        go_wp2
        go_roundw
        case rel => exact ⟨k + 1, by omega, by go_num, by rw [hst.out, if_neg (by simp [he']), List.append_nil]; exact hown, HB.out⟩
        case measure => simp [intOf]; omega
    · go_wp2
      go_ret
      exact ⟨_, rfl, by rw [List.take_of_length_le (by omega)] at hown; exact hown, HB.out⟩
end Go.Proofs.Ytofkjmhcddgeeaa
