/- order.sorted at []order.Op. -/
import Derived.Test.YtpnkkdpggofanaaOrdB
namespace Go.Proofs.Ytpnkkdpggofanaa
open Go.Shelf Go.RowKit Go.Lib Go.Sort Go.Proofs

theorem ltOf_cmpD (x y : OpD) : ltOf cmpD x y = decide (x.did < y.did) := by
  unfold ltOf cmpD Lib.compareInt
  by_cases h : x.did < y.did
  · simp [h]
  · by_cases h2 : x.did > y.did <;> simp [h, h2]
theorem swo_did : SWO (ltOf cmpD) where
  irrefl x := by simp [ltOf_cmpD]
  trans x y z := by simp [ltOf_cmpD]; omega
  ntrans x y z := by simp [ltOf_cmpD]; omega
def stabL (l : List OpD) : List OpD := (stab (ltOf cmpD) l.toArray).toList
theorem stabL_len (l : List OpD) : (stabL l).length = l.length := by
  have := (stab_spec swo_did l.toArray).1.1
  simpa [stabL] using this

theorem stabL_nil : stabL [] = [] := List.eq_nil_of_length_eq_zero (stabL_len [])

set_option maxHeartbeats 4000000 in
set_option maxRecDepth 1000000 in
theorem sorted_any (l : List OpD) (v : Value) (w : World) (h : Reads w v l.length (l.flatMap opC)) (hn : l.length ≤ 1000000) :
    Calls Try.prog 51 #[v, .func (.func 52) #[] #[]] w fun e w' => ∃ v', e = .returned v' ∧ w'.ownsRow w.heap.size 40 6 v' l.length ((stabL l).flatMap opC) ∧ Below w.heap.size w w' := by
  have H := hid h
  obtain ⟨ao, c, rfl, hno, _⟩ := h
  obtain ⟨W, hW⟩ : ∃ W, W = w.alloc (.cells #[.func (.func 52) #[] #[]] 108) := ⟨_, rfl⟩
  have hsz : W.heap.size = w.heap.size + 1 := by rw [hW]; simp
  have hB : Below w.heap.size w W := by rw [hW]; exact Below.alloc (Below.refl _ w) (Nat.le_refl _) _
  have hc : W.cell? ⟨w.heap.size, 0, none⟩ = some (.func (.func 52) #[] #[]) := by rw [hW]; simp
  have hR : Reads W (.slice ao l.length c) l.length (l.flatMap opC) := by rw [hW]; exact (Chg.alloc (fun _ => False) w _).reads H.out (fun _ _ _ _ h => h)
  have HW := hid (And.intro hsz (And.intro hB (And.intro hc hR)))
  have HE := hid hW
  clear hsz hB hc hR
  cases ao with
  | none =>
    obtain ⟨h0, rfl⟩ := hno rfl
    have hl : l = [] := List.eq_nil_of_length_eq_zero h0
    subst hl
    clear hW
    go_enter Try.func51, Try.ntmps51
    go_wp2_with (first
      | (go_at_call 65; refine (clone_nil _).mono ?_; rintro e w' ⟨rfl, hw⟩; rw [hw])
      | (go_at_call 66; refine (sortStable_nil _ _).mono ?_; rintro e w' ⟨rfl, hw⟩; rw [hw]))
    go_ret
    refine ⟨_, rfl, ⟨by rw [stabL_nil]; rfl, .inl ⟨rfl, rfl⟩⟩, ?_⟩
    rw [← HE.out]
    exact HW.out.2.1
  | some ad =>
    have HC := hid (clone_any l ad c W HW.out.2.2.2 hn)
    clear hno hW
    go_enter Try.func51, Try.ntmps51
    go_wp2_with fail
    rw [← HE.out]
    go_at_call 65
    refine HC.out.mono ?_
    rintro e W2 ⟨v', rfl, hown, hb⟩
    have HO := hid hown
    have HB := hid hb
    clear hown hb
    have hB2 : Below w.heap.size w W2 := HW.out.2.1.trans ⟨HB.out.os, HB.out.tape, HB.out.output, HB.out.size, fun k hk => HB.out.block k (by rw [HW.out.1]; omega)⟩
    have HB2 := hid hB2
    clear hB2
    rcases HO.out.2 with ⟨rfl, hz⟩ | ⟨g, cap, cur, rfl, hbase, hgb, r1, r2, r3, r4⟩
    · have hl : l = [] := List.eq_nil_of_length_eq_zero hz
      subst hl
      go_wp2_with (go_at_call 66; refine (sortStable_nil _ _).mono ?_; rintro e w' ⟨rfl, hw⟩; rw [hw])
      go_ret
      exact ⟨_, rfl, ⟨by rw [stabL_nil]; rfl, .inl ⟨rfl, rfl⟩⟩, HB2.out⟩
    · have hgl : g < W2.heap.size := (Array.getElem?_eq_some_iff.1 hgb).1
      have hs := HW.out.1
      have hH : HoldsK opC 6 W2 g 0 l.toArray := op_holds hgb (by simpa using r4)
      have hcell : W2.cell? ⟨w.heap.size, 0, none⟩ = some (.func (.func 52) #[] #[]) := (HB.out.cell (by rw [hs]; exact Nat.lt_succ_self _)).trans HW.out.2.2.1
      have cS := hid (sortStable_any g 0 cap w.heap.size l.toArray W2 hH hgl (by simp; omega) (by omega) (by omega) hcell)
      have X := hid (And.intro hbase (And.intro hgb (And.intro r1 (And.intro r2 r3))))
      clear hH hgl hbase hgb r1 r2 r3 r4 hcell hs
      go_wp2_with (go_at_call 66; refine (by simpa using cS.out : Calls Try.prog 66 #[.slice (some ⟨g, 0, none⟩) l.length cap, _] W2 _).mono ?_; rintro e w' ⟨rfl, nn, os, rfl⟩)
      go_ret
      obtain ⟨hbase, hgb, r1, r2, r3⟩ := X.out
      have hr := op_row (n := nn) (os := os) (stabL_len l) hbase hgb r1 r2 r3
      rw [show (stabL l).toArray = stab (ltOf cmpD) l.toArray by simp [stabL]] at hr
      exact ⟨_, rfl, owns_base hr.1 (by rw [HW.out.1]; omega), HB2.out.grown hr.2 HB2.out.size (fun j hj => by cases hj; rw [HW.out.1] at hbase; omega)⟩
end Go.Proofs.Ytpnkkdpggofanaa
