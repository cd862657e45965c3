/- firing.Log: what it tells. -/
import Derived.Test.YtofkjmhcddgeeaaIter
namespace Go.Proofs.Ytofkjmhcddgeeaa
open Go.RowKit Go.Shelf

theorem ofAsk_any (f : Fir) (x : Int) (bT : Nat) (w : World) (hb : w.cell? ⟨bT, 0, none⟩ = some (.int .u64 x)) :
    Calls Try.prog 29 #[firV f, .pointer (some ⟨bT, 0, none⟩)] w fun e w' => e = .returned (.bool (f.id == x)) ∧ Below w.heap.size w w' := by
  have hlt : bT < w.heap.size := World.block_lt_of_cell? w _ hb
  go_enter Try.func29, Try.ntmps29
  go_wp2
  go_ret
  exact ⟨rfl, (Below.refl _ _).alloc (Nat.le_refl _) _⟩

theorem atAsk_any (f : Fir) (x : Int) (bT : Nat) (w : World) (hb : w.cell? ⟨bT, 0, none⟩ = some (.int .u64 x)) :
    Calls Try.prog 28 #[firV f, .pointer (some ⟨bT, 0, none⟩)] w fun e w' => e = .returned (.bool (f.tk == x)) ∧ Below w.heap.size w w' := by
  have hlt : bT < w.heap.size := World.block_lt_of_cell? w _ hb
  go_enter Try.func28, Try.ntmps28
  go_wp2
  go_ret
  exact ⟨rfl, (Below.refl _ _).alloc (Nat.le_refl _) _⟩

theorem allAsk_any (f : Fir) (w : World) :
    Calls Try.prog 33 #[firV f] w fun e w' => e = .returned (.bool true) ∧ Below w.heap.size w w' := by
  go_enter Try.func33, Try.ntmps33
  go_wp2
  go_ret
  exact ⟨rfl, by first | exact Below.refl _ _ | exact (Below.refl _ _).alloc (Nat.le_refl _) _⟩

theorem filter_all {α : Type} (l : List α) : l.filter (fun _ => true) = l := List.filter_eq_self.2 (fun _ _ => rfl)

theorem collect_any (w : World) (gf : Nat) (lb : Array Value) (xs : List Fir) (hxs : xs.length ≤ 1000000) (Sp : List Fir → Prop)
    (hseq : ∀ n, 1 ≤ n → SeqStopsK Fence.wide n Try.prog gf lb (fun x => #[firV x]) (Below w.heap.size) (fun ys => ys = xs) Sp xs.length w)
    (eg : ∀ args w, (callFunc gf args).run Try.prog w = .ok (.enter gf args) w) :
    Calls Try.prog 26 #[.func (.func gf) #[] lb] w fun e w' => ∃ v', e = .returned v' ∧ w'.ownsRow w.heap.size 30 4 v' xs.length (xs.flatMap firC) ∧ Below w.heap.size w w' := by
  go_enter Try.func26, Try.ntmps26
  go_wp2_with (go_at_call 35; refine (appendSeq_any w gf lb xs hxs Sp hseq eg).mono ?_; rintro e w' ⟨v', rfl, hown, hb⟩)
  go_ret
  exact ⟨_, rfl, hown, hb⟩

theorem of_any (B bl : Nat) (l : List Fir) (x : Int) (w : World) (hl : LogIs B w bl l) (hn : l.length ≤ 1000000) :
    Calls Try.prog 15 #[.pointer (some ⟨bl, 0, none⟩), .int .u64 x] w fun e w' => ∃ v', e = .returned v' ∧ w'.ownsRow w.heap.size 30 4 v' (l.filter fun f => f.id == x).length ((l.filter fun f => f.id == x).flatMap firC) ∧ Below w.heap.size w w' := by
  obtain ⟨v, hbox, hown⟩ := hl
  have hblt := hbox.lt
  obtain ⟨w2, hw2⟩ : ∃ w2, w2 = ((w.alloc (.cells #[.int .u64 x] 28)).alloc (.cells #[.pointer (some ⟨bl, 0, none⟩)] 24)).alloc (.cells #[.func (.func 29) #[] #[.pointer (some ⟨w.heap.size, 0, none⟩)]] 46) := ⟨_, rfl⟩
  have hs2 : w2.heap.size = w.heap.size + 3 := by rw [hw2]; simp
  have hb2 : Below w.heap.size w w2 := by rw [hw2]; exact (((Below.refl _ _).alloc (Nat.le_refl _) _).alloc (by simp) _).alloc (by simp; omega) _
  have bx : Boxed w2 w.heap.size 28 (.int .u64 x) := by rw [hw2]; exact ((Boxed.new w _ _).alloc _).alloc _
  have bL : Boxed w2 (w.heap.size + 1) 24 (.pointer (some ⟨bl, 0, none⟩)) := by
    have := (Boxed.new (w.alloc (.cells #[.int .u64 x] 28)) 24 (.pointer (some ⟨bl, 0, none⟩))).alloc (.cells #[.func (.func 29) #[] #[.pointer (some ⟨w.heap.size, 0, none⟩)]] 46)
    rw [World.size_alloc] at this; rw [hw2]; exact this
  have bA : Boxed w2 (w.heap.size + 2) 46 (.func (.func 29) #[] #[.pointer (some ⟨w.heap.size, 0, none⟩)]) := by
    have := (Boxed.new ((w.alloc (.cells #[.int .u64 x] 28)).alloc (.cells #[.pointer (some ⟨bl, 0, none⟩)] 24)) 46 (.func (.func 29) #[] #[.pointer (some ⟨w.heap.size, 0, none⟩)]))
    rw [World.size_alloc, World.size_alloc] at this; rw [hw2]; exact this
  have hrd2 := (Reads.of_owns hown).below hb2 (Nat.le_refl _)
  have hT : ThoseAt w2 (w.heap.size + 1) (w.heap.size + 2) bl 29 #[.pointer (some ⟨w.heap.size, 0, none⟩)] (fun f => f.id == x) v l := by
    intro W' hB
    refine ⟨(hB.cell (by simp; omega)).trans bL.cell, (hB.cell (by simp; omega)).trans bA.cell, (hB.cell (by simp; omega)).trans ((hb2.cell (by simp; omega)).trans hbox.cell), hrd2.below hB (Nat.le_refl _), fun f => ?_⟩
    exact ofAsk_any f x w.heap.size W' ((hB.cell (by simp; omega)).trans bx.cell)
  have hcol := collect_any w2 36 #[.pointer (some ⟨w.heap.size + 1, 0, none⟩), .pointer (some ⟨w.heap.size + 2, 0, none⟩)] (l.filter fun f => f.id == x) (by have := List.length_filter_le (fun f : Fir => f.id == x) l; omega) _
    (fun n hn' => those_stops n hn' _ _ bl _ _ _ v l hn w2 (enters_of Try.func29 (by kernel_rfl) rfl) hT) (enters_of Try.func36 (by kernel_rfl) rfl)
  have HC := hid hcol
  have HS := hid hs2
  have HB2 := hid hb2
  have HW := hid hw2
  clear hcol hT hrd2 bL bA hs2 hb2 hw2 hbox hown
  go_enter Try.func15, Try.ntmps15
  go_wp2_with (go_at_call 27; refine (those_any _ _ rfl rfl _).mono ?_; rintro e w' ⟨rfl, rfl⟩)
  simp only [Nat.add_assoc, Nat.reduceAdd]
  rw [← HW.out]
  refine HC.out.mono ?_
  rintro e w3 ⟨v', rfl, hown', hb'⟩
  have hown2 := owns_base hown' (show w.heap.size ≤ w2.heap.size by rw [HS.out]; omega)
  have hb3 := HB2.out.trans (hb'.mono (show w.heap.size ≤ w2.heap.size by rw [HS.out]; omega))
  clear hown' hb'
  go_wp2
  go_ret
  exact ⟨_, rfl, hown2, hb3⟩

theorem at_any (B bl : Nat) (l : List Fir) (x : Int) (w : World) (hl : LogIs B w bl l) (hn : l.length ≤ 1000000) :
    Calls Try.prog 11 #[.pointer (some ⟨bl, 0, none⟩), .int .u64 x] w fun e w' => ∃ v', e = .returned v' ∧ w'.ownsRow w.heap.size 30 4 v' (l.filter fun f => f.tk == x).length ((l.filter fun f => f.tk == x).flatMap firC) ∧ Below w.heap.size w w' := by
  obtain ⟨v, hbox, hown⟩ := hl
  have hblt := hbox.lt
  obtain ⟨w2, hw2⟩ : ∃ w2, w2 = ((w.alloc (.cells #[.int .u64 x] 28)).alloc (.cells #[.pointer (some ⟨bl, 0, none⟩)] 24)).alloc (.cells #[.func (.func 28) #[] #[.pointer (some ⟨w.heap.size, 0, none⟩)]] 46) := ⟨_, rfl⟩
  have hs2 : w2.heap.size = w.heap.size + 3 := by rw [hw2]; simp
  have hb2 : Below w.heap.size w w2 := by rw [hw2]; exact (((Below.refl _ _).alloc (Nat.le_refl _) _).alloc (by simp) _).alloc (by simp; omega) _
  have bx : Boxed w2 w.heap.size 28 (.int .u64 x) := by rw [hw2]; exact ((Boxed.new w _ _).alloc _).alloc _
  have bL : Boxed w2 (w.heap.size + 1) 24 (.pointer (some ⟨bl, 0, none⟩)) := by
    have := (Boxed.new (w.alloc (.cells #[.int .u64 x] 28)) 24 (.pointer (some ⟨bl, 0, none⟩))).alloc (.cells #[.func (.func 28) #[] #[.pointer (some ⟨w.heap.size, 0, none⟩)]] 46)
    rw [World.size_alloc] at this; rw [hw2]; exact this
  have bA : Boxed w2 (w.heap.size + 2) 46 (.func (.func 28) #[] #[.pointer (some ⟨w.heap.size, 0, none⟩)]) := by
    have := (Boxed.new ((w.alloc (.cells #[.int .u64 x] 28)).alloc (.cells #[.pointer (some ⟨bl, 0, none⟩)] 24)) 46 (.func (.func 28) #[] #[.pointer (some ⟨w.heap.size, 0, none⟩)]))
    rw [World.size_alloc, World.size_alloc] at this; rw [hw2]; exact this
  have hrd2 := (Reads.of_owns hown).below hb2 (Nat.le_refl _)
  have hT : ThoseAt w2 (w.heap.size + 1) (w.heap.size + 2) bl 28 #[.pointer (some ⟨w.heap.size, 0, none⟩)] (fun f => f.tk == x) v l := by
    intro W' hB
    refine ⟨(hB.cell (by simp; omega)).trans bL.cell, (hB.cell (by simp; omega)).trans bA.cell, (hB.cell (by simp; omega)).trans ((hb2.cell (by simp; omega)).trans hbox.cell), hrd2.below hB (Nat.le_refl _), fun f => ?_⟩
    exact atAsk_any f x w.heap.size W' ((hB.cell (by simp; omega)).trans bx.cell)
  have hcol := collect_any w2 36 #[.pointer (some ⟨w.heap.size + 1, 0, none⟩), .pointer (some ⟨w.heap.size + 2, 0, none⟩)] (l.filter fun f => f.tk == x) (by have := List.length_filter_le (fun f : Fir => f.tk == x) l; omega) _
    (fun n hn' => those_stops n hn' _ _ bl _ _ _ v l hn w2 (enters_of Try.func28 (by kernel_rfl) rfl) hT) (enters_of Try.func36 (by kernel_rfl) rfl)
  have HC := hid hcol
  have HS := hid hs2
  have HB2 := hid hb2
  have HW := hid hw2
  clear hcol hT hrd2 bL bA hs2 hb2 hw2 hbox hown
  go_enter Try.func11, Try.ntmps11
  go_wp2_with (go_at_call 27; refine (those_any _ _ rfl rfl _).mono ?_; rintro e w' ⟨rfl, rfl⟩)
  simp only [Nat.add_assoc, Nat.reduceAdd]
  rw [← HW.out]
  refine HC.out.mono ?_
  rintro e w3 ⟨v', rfl, hown', hb'⟩
  have hown2 := owns_base hown' (show w.heap.size ≤ w2.heap.size by rw [HS.out]; omega)
  have hb3 := HB2.out.trans (hb'.mono (show w.heap.size ≤ w2.heap.size by rw [HS.out]; omega))
  clear hown' hb'
  go_wp2
  go_ret
  exact ⟨_, rfl, hown2, hb3⟩

theorem all_any (B bl : Nat) (l : List Fir) (w : World) (hl : LogIs B w bl l) (hn : l.length ≤ 1000000) :
    Calls Try.prog 22 #[.pointer (some ⟨bl, 0, none⟩)] w fun e w' => ∃ v', e = .returned v' ∧ w'.ownsRow w.heap.size 30 4 v' l.length (l.flatMap firC) ∧ Below w.heap.size w w' := by
  obtain ⟨v, hbox, hown⟩ := hl
  have hblt := hbox.lt
  obtain ⟨w2, hw2⟩ : ∃ w2, w2 = (w.alloc (.cells #[.pointer (some ⟨bl, 0, none⟩)] 24)).alloc (.cells #[.func (.func 33) #[] #[]] 46) := ⟨_, rfl⟩
  have hs2 : w2.heap.size = w.heap.size + 2 := by rw [hw2]; simp
  have hb2 : Below w.heap.size w w2 := by rw [hw2]; exact ((Below.refl _ _).alloc (Nat.le_refl _) _).alloc (by simp) _
  have bL : Boxed w2 (w.heap.size) 24 (.pointer (some ⟨bl, 0, none⟩)) := by
    have := (Boxed.new w 24 (.pointer (some ⟨bl, 0, none⟩))).alloc (.cells #[.func (.func 33) #[] #[]] 46)
    rw [hw2]; exact this
  have bA : Boxed w2 (w.heap.size + 1) 46 (.func (.func 33) #[] #[]) := by
    have := (Boxed.new (w.alloc (.cells #[.pointer (some ⟨bl, 0, none⟩)] 24)) 46 (.func (.func 33) #[] #[]))
    rw [World.size_alloc] at this; rw [hw2]; exact this
  have hrd2 := (Reads.of_owns hown).below hb2 (Nat.le_refl _)
  have hT : ThoseAt w2 (w.heap.size) (w.heap.size + 1) bl 33 #[] (fun _ => true) v l := by
    intro W' hB
    refine ⟨(hB.cell (by simp; omega)).trans bL.cell, (hB.cell (by simp; omega)).trans bA.cell, (hB.cell (by simp; omega)).trans ((hb2.cell (by simp; omega)).trans hbox.cell), hrd2.below hB (Nat.le_refl _), fun f => ?_⟩
    exact allAsk_any f W'
  have hcol := collect_any w2 36 #[.pointer (some ⟨w.heap.size, 0, none⟩), .pointer (some ⟨w.heap.size + 1, 0, none⟩)] l hn _
    (fun n hn' => by have := those_stops n hn' _ _ bl _ _ _ v l hn w2 (enters_of Try.func33 (by kernel_rfl) rfl) hT; rw [filter_all] at this; exact this) (enters_of Try.func36 (by kernel_rfl) rfl)
  have HC := hid hcol
  have HS := hid hs2
  have HB2 := hid hb2
  have HW := hid hw2
  clear hcol hT hrd2 bL bA hs2 hb2 hw2 hbox hown
  go_enter Try.func22, Try.ntmps22
  go_wp2_with (go_at_call 27; refine (those_any _ _ rfl rfl _).mono ?_; rintro e w' ⟨rfl, rfl⟩)
  rw [← HW.out]
  refine HC.out.mono ?_
  rintro e w3 ⟨v', rfl, hown', hb'⟩
  have hown2 := owns_base hown' (show w.heap.size ≤ w2.heap.size by rw [HS.out]; omega)
  have hb3 := HB2.out.trans (hb'.mono (show w.heap.size ≤ w2.heap.size by rw [HS.out]; omega))
  clear hown' hb'
  go_wp2
  go_ret
  exact ⟨_, rfl, hown2, hb3⟩
end Go.Proofs.Ytofkjmhcddgeeaa
