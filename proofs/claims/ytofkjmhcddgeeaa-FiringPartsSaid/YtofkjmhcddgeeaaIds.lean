/- firing.Log: Ids, Len; and what no log tells: by their walks. -/
import Derived.Test.YtofkjmhcddgeeaaAlive12
import Derived.Test.YtofkjmhcddgeeaaKeysB
namespace Go.Proofs.Ytofkjmhcddgeeaa
open Go.RowKit Go.Shelf Go.Sort
attribute [local go_sem] Oper.semAt_some

/-! ### no log -/
set_option maxRecDepth 100000 in
set_option maxHeartbeats 1000000 in
theorem thoseNil_in (n : Nat) (l bL : Nat) (vA : Value) (W : World) (hL : W.cell? ⟨bL, 0, none⟩ = some (.pointer none)) :
    CallsIn Fence.wide n Try.prog 36 #[.func (.yield l) #[] #[], .pointer (some ⟨bL, 0, none⟩), vA] W fun e W' => (∃ v, e = .returned v) ∧ W = W' := by
  refine callsIn_of_wp Try.func36 rfl trivial ?_ rfl
  simp only [Try.ntmps36, List.size_toArray, List.length_cons, List.length_nil, Nat.reduceAdd, Nat.reduceSub, Array.replicate_succ, Array.replicate_zero, List.push_toArray, List.append_toArray, List.nil_append, List.cons_append]
  gi_wp2
  refine bodyPost_ret (results_none rfl _ _ _) rfl ?_
  exact ⟨⟨_, rfl⟩, rfl⟩

theorem thoseNil_stops (n : Nat) (bL : Nat) (vA : Value) (w : World) (hL : w.cell? ⟨bL, 0, none⟩ = some (.pointer none)) :
    SeqStopsK Fence.wide n Try.prog 36 #[.pointer (some ⟨bL, 0, none⟩), vA] (fun x => #[firV x]) (Below w.heap.size) (fun ys => ys = []) (fun _ => False) 0 w :=
  fun l J Jx W hW _ _ _ h0 => (thoseNil_in n l bL vA W ((hW.cell (World.block_lt_of_cell? w _ hL)).trans hL)).mono fun e W' ⟨he, hw⟩ => ⟨he, .inl ⟨[], rfl, by subst hw; exact h0⟩⟩

/-- A log, or none: what goes through it gives l. -/
def LogOr (w : World) (lp : Value) (l : List Fir) : Prop := (∃ B bl, lp = .pointer (some ⟨bl, 0, none⟩) ∧ LogIs B w bl l) ∨ (lp = .pointer none ∧ l = [])
theorem LogOr.later {w w' : World} {lp : Value} {l : List Fir} (h : LogOr w lp l) (hb : Below w.heap.size w w') : LogOr w' lp l := by
  rcases h with ⟨B, bl, rfl, h⟩ | ⟨rfl, rfl⟩
  · exact .inl ⟨B, bl, rfl, h.later hb⟩
  · exact .inr ⟨rfl, rfl⟩

theorem allOr_any (lp : Value) (l : List Fir) (w : World) (hl : LogOr w lp l) (hn : l.length ≤ 1000000) :
    Calls Try.prog 22 #[lp] w fun e w' => ∃ v', e = .returned v' ∧ w'.ownsRow w.heap.size 30 4 v' l.length (l.flatMap firC) ∧ Below w.heap.size w w' := by
  rcases hl with ⟨B, bl, rfl, h⟩ | ⟨rfl, rfl⟩
  · exact all_any B bl l w h hn
  obtain ⟨w2, hw2⟩ : ∃ w2, w2 = (w.alloc (.cells #[.pointer none] 24)).alloc (.cells #[.func (.func 33) #[] #[]] 46) := ⟨_, rfl⟩
  have hs2 : w2.heap.size = w.heap.size + 2 := by rw [hw2]; simp
  have hb2 : Below w.heap.size w w2 := by rw [hw2]; exact ((Below.refl _ _).alloc (Nat.le_refl _) _).alloc (by simp) _
  have bL : Boxed w2 (w.heap.size) 24 (.pointer none) := by
    have := (Boxed.new w 24 (.pointer none)).alloc (.cells #[.func (.func 33) #[] #[]] 46)
    rw [hw2]; exact this
  have hcol := collect_any w2 36 #[.pointer (some ⟨w.heap.size, 0, none⟩), .pointer (some ⟨w.heap.size + 1, 0, none⟩)] [] (by simp) _
    (fun n _ => thoseNil_stops n _ _ w2 bL.cell) (enters_of Try.func36 (by kernel_rfl) rfl)
  have HC := hid hcol
  have HS := hid hs2
  have HB2 := hid hb2
  have HW := hid hw2
  clear hcol bL hs2 hb2 hw2
  go_enter Try.func22, Try.ntmps22
  go_wp2_with (go_at_call 27; refine (those_any _ _ rfl rfl _).mono ?_; rintro e w' ⟨rfl, rfl⟩)
  rw [← HW.out]
  refine HC.out.mono ?_
  rintro e w3 ⟨v', rfl, hown', hb'⟩
  have hown2 := owns_base hown' (show w.heap.size ≤ w2.heap.size by rw [HS.out]; omega)
  have hb3 := HB2.out.trans (hb'.mono (show w.heap.size ≤ w2.heap.size by rw [HS.out]; omega))
  clear hown' hb'
  go_wp2
  go_ret
  exact ⟨_, rfl, hown2, hb3⟩

theorem ofNil_any (x : Int) (w : World) :
    Calls Try.prog 15 #[.pointer none, .int .u64 x] w fun e w' => ∃ v', e = .returned v' ∧ w'.ownsRow w.heap.size 30 4 v' 0 [] ∧ Below w.heap.size w w' := by
  obtain ⟨w2, hw2⟩ : ∃ w2, w2 = ((w.alloc (.cells #[.int .u64 x] 28)).alloc (.cells #[.pointer none] 24)).alloc (.cells #[.func (.func 29) #[] #[.pointer (some ⟨w.heap.size, 0, none⟩)]] 46) := ⟨_, rfl⟩
  have hs2 : w2.heap.size = w.heap.size + 3 := by rw [hw2]; simp
  have hb2 : Below w.heap.size w w2 := by rw [hw2]; exact (((Below.refl _ _).alloc (Nat.le_refl _) _).alloc (by simp) _).alloc (by simp; omega) _
  have bL : Boxed w2 (w.heap.size + 1) 24 (.pointer none) := by
    have := (Boxed.new (w.alloc (.cells #[.int .u64 x] 28)) 24 (.pointer none)).alloc (.cells #[.func (.func 29) #[] #[.pointer (some ⟨w.heap.size, 0, none⟩)]] 46)
    rw [World.size_alloc] at this; rw [hw2]; exact this
  have hcol := collect_any w2 36 #[.pointer (some ⟨w.heap.size + 1, 0, none⟩), .pointer (some ⟨w.heap.size + 2, 0, none⟩)] [] (by simp) _
    (fun n _ => thoseNil_stops n _ _ w2 bL.cell) (enters_of Try.func36 (by kernel_rfl) rfl)
  have HC := hid hcol
  have HS := hid hs2
  have HB2 := hid hb2
  have HW := hid hw2
  clear hcol bL hs2 hb2 hw2
  go_enter Try.func15, Try.ntmps15
  go_wp2_with (go_at_call 27; refine (those_any _ _ rfl rfl _).mono ?_; rintro e w' ⟨rfl, rfl⟩)
  simp only [World.size_alloc, Nat.add_assoc, Nat.reduceAdd]
  rw [← HW.out]
  refine HC.out.mono ?_
  rintro e w3 ⟨v', rfl, hown', hb'⟩
  have hown2 := owns_base hown' (show w.heap.size ≤ w2.heap.size by rw [HS.out]; omega)
  have hb3 := HB2.out.trans (hb'.mono (show w.heap.size ≤ w2.heap.size by rw [HS.out]; omega))
  clear hown' hb'
  go_wp2
  go_ret
  exact ⟨_, rfl, hown2, hb3⟩

theorem atNil_any (x : Int) (w : World) :
    Calls Try.prog 11 #[.pointer none, .int .u64 x] w fun e w' => ∃ v', e = .returned v' ∧ w'.ownsRow w.heap.size 30 4 v' 0 [] ∧ Below w.heap.size w w' := by
  obtain ⟨w2, hw2⟩ : ∃ w2, w2 = ((w.alloc (.cells #[.int .u64 x] 28)).alloc (.cells #[.pointer none] 24)).alloc (.cells #[.func (.func 28) #[] #[.pointer (some ⟨w.heap.size, 0, none⟩)]] 46) := ⟨_, rfl⟩
  have hs2 : w2.heap.size = w.heap.size + 3 := by rw [hw2]; simp
  have hb2 : Below w.heap.size w w2 := by rw [hw2]; exact (((Below.refl _ _).alloc (Nat.le_refl _) _).alloc (by simp) _).alloc (by simp; omega) _
  have bL : Boxed w2 (w.heap.size + 1) 24 (.pointer none) := by
    have := (Boxed.new (w.alloc (.cells #[.int .u64 x] 28)) 24 (.pointer none)).alloc (.cells #[.func (.func 28) #[] #[.pointer (some ⟨w.heap.size, 0, none⟩)]] 46)
    rw [World.size_alloc] at this; rw [hw2]; exact this
  have hcol := collect_any w2 36 #[.pointer (some ⟨w.heap.size + 1, 0, none⟩), .pointer (some ⟨w.heap.size + 2, 0, none⟩)] [] (by simp) _
    (fun n _ => thoseNil_stops n _ _ w2 bL.cell) (enters_of Try.func36 (by kernel_rfl) rfl)
  have HC := hid hcol
  have HS := hid hs2
  have HB2 := hid hb2
  have HW := hid hw2
  clear hcol bL hs2 hb2 hw2
  go_enter Try.func11, Try.ntmps11
  go_wp2_with (go_at_call 27; refine (those_any _ _ rfl rfl _).mono ?_; rintro e w' ⟨rfl, rfl⟩)
  simp only [World.size_alloc, Nat.add_assoc, Nat.reduceAdd]
  rw [← HW.out]
  refine HC.out.mono ?_
  rintro e w3 ⟨v', rfl, hown', hb'⟩
  have hown2 := owns_base hown' (show w.heap.size ≤ w2.heap.size by rw [HS.out]; omega)
  have hb3 := HB2.out.trans (hb'.mono (show w.heap.size ≤ w2.heap.size by rw [HS.out]; omega))
  clear hown' hb'
  go_wp2
  go_ret
  exact ⟨_, rfl, hown2, hb3⟩

theorem putNil_any (v : Value) (w : World) : Calls Try.prog 10 #[.pointer none, v] w fun e w' => e = .returned (.tuple #[]) ∧ w = w' := by
  go_enter Try.func10, Try.ntmps10
  go_wp2
  go_end0
  exact ⟨rfl, rfl⟩

/-! ### Ids -/
def idMap (l : List Fir) : List (Int × Bool) := l.foldl (fun m f => aput m f.id true) []
theorem idMap_snoc (l : List Fir) (f : Fir) : idMap (l ++ [f]) = aput (idMap l) f.id true := by simp [idMap]
theorem idMap_take (l : List Fir) (k : Nat) (h : k < l.length) : idMap (l.take (k + 1)) = aput (idMap (l.take k)) l[k].id true := by rw [take_snoc_list l k h, idMap_snoc]
theorem aput_length {κ ν : Type} [DecidableEq κ] (m : List (κ × ν)) (k : κ) (v : ν) : (aput m k v).length ≤ m.length + 1 := by
  have := congrArg List.length (aput_keys m k v)
  simp only [List.length_map] at this
  rw [this]
  split <;> simp
theorem aput_mem {κ ν : Type} [DecidableEq κ] (m : List (κ × ν)) (k x : κ) (v : ν) : x ∈ (aput m k v).map (·.1) ↔ x ∈ m.map (·.1) ∨ x = k := by
  rw [aput_keys]
  split
  · rename_i h
    constructor
    · exact .inl
    · rintro (h1 | rfl)
      · exact h1
      · exact h
  · rw [List.mem_append, List.mem_singleton]
theorem take_ind {α : Type} (P : List α → Prop) (h0 : P []) (h1 : ∀ l x, P l → P (l ++ [x])) (l : List α) : P l := by
  have key : ∀ r : List α, P r.reverse := by
    intro r
    induction r with
    | nil => exact h0
    | cons x r ih => rw [List.reverse_cons]; exact h1 _ _ ih
  have := key l.reverse
  rwa [List.reverse_reverse] at this
theorem idMap_props (l : List Fir) : ((idMap l).map (·.1)).Nodup ∧ (idMap l).length ≤ l.length ∧ ∀ x, x ∈ (idMap l).map (·.1) ↔ ∃ f ∈ l, f.id = x := by
  refine take_ind (fun l => ((idMap l).map (·.1)).Nodup ∧ (idMap l).length ≤ l.length ∧ ∀ x, x ∈ (idMap l).map (·.1) ↔ ∃ f ∈ l, f.id = x) ⟨by simp [idMap], by simp [idMap], by simp [idMap]⟩ ?_ l
  intro l f ⟨h1, h2, h3⟩
  rw [idMap_snoc]
  refine ⟨aput_nodup h1 _ _, by have := aput_length (idMap l) f.id true; simp; omega, fun x => ?_⟩
  rw [aput_mem, h3]
  constructor
  · rintro (⟨g, hg, e⟩ | rfl)
    · exact ⟨g, by simp [hg], e⟩
    · exact ⟨f, by simp, rfl⟩
  · rintro ⟨g, hg, e⟩
    rcases List.mem_append.1 hg with h | h
    · exact .inl ⟨g, h, e⟩
    · simp at h; subst h; exact .inr e.symm
def idsOf (l : List Fir) : List Int := asc ((idMap l).map (·.1))
theorem idsOf_mem (l : List Fir) (x : Int) : x ∈ idsOf l ↔ ∃ f ∈ l, f.id = x := by
  rw [← (idMap_props l).2.2 x]
  exact (List.mergeSort_perm _ _).mem_iff
theorem idsOf_len (l : List Fir) : (idsOf l).length = (idMap l).length := by simp [idsOf, asc_length]
theorem idsOf_le (l : List Fir) : (idsOf l).length ≤ l.length := by rw [idsOf_len]; exact (idMap_props l).2.1
theorem idsOf_lt (l : List Fir) : (idsOf l).Pairwise (· < ·) := by
  have h1 : (idsOf l).Pairwise (fun x y => decide (x ≤ y) = true) :=
    List.pairwise_mergeSort (fun a b c h1 h2 => by simp only [decide_eq_true_eq] at *; omega) (fun a b => by simp only [Bool.or_eq_true, decide_eq_true_eq]; omega) _
  have h2 : (idsOf l).Pairwise (· ≠ ·) := ((List.mergeSort_perm _ _).nodup_iff).2 (idMap_props l).1
  exact (h1.and h2).imp fun ⟨a, b⟩ => by simp only [decide_eq_true_eq] at a; omega

set_option maxHeartbeats 2000000 in
theorem idsOr_any (lp : Value) (l : List Fir) (w : World) (hl : LogOr w lp l) (hn : l.length ≤ 1000000) (hwf : ∀ f ∈ l, 0 ≤ f.id ∧ f.id ≤ 18446744073709551615) :
    Calls Try.prog 21 #[lp] w fun e w' => ∃ v', e = .returned v' ∧ w'.ownsRow w.heap.size 28 1 v' (idsOf l).length ((idsOf l).map encU) ∧ Below w.heap.size w w' := by
  have hmm := @run_makeMap Try.prog
  have HA := hid (allOr_any lp l (w.alloc (.map #[] 0)) (hl.later ((Below.refl _ _).alloc (Nat.le_refl _) _)) hn)
  have HWF := hid hwf
  clear hl hwf
  go_enter Try.func21, Try.ntmps21
  go_wp2_with (go_at_call 22; refine HA.out.mono ?_; rintro e w1 ⟨v1, rfl, hown1, hb1⟩; obtain ⟨ao1, c1, rfl⟩ := owns_shape hown1; have HO1 := hid hown1; have HB1 := hid hb1; clear hown1 hb1)
  have hM1 : MapIs encU Value.bool w1 w.heap.size ([] : List (Int × Bool)) := (MapIs.made w).kept (HB1.out.block _ (by simp))
  have hB0 : Below w.heap.size w w1 := ((Below.refl _ _).alloc (Nat.le_refl _) _).trans (HB1.out.mono (by simp))
  have HM1 := hid hM1
  have HB0 := hid hB0
  clear hM1 hB0
  go_loopw [10] (fun i wr => ∃ k : Nat, k ≤ l.length ∧ i = .int .i64 k ∧ wr.ownsRow (w.heap.size + 1) 30 4 (.slice ao1 l.length c1) l.length (l.flatMap firC) ∧ MapIs encU Value.bool wr w.heap.size (idMap (l.take k)) ∧ Below w.heap.size w wr) (fun i _ => l.length - (intOf i).toNat)
  case atStart => exact ⟨0, by omega, rfl, by simpa using HO1.out, by simpa [idMap] using HM1.out, HB0.out⟩
  case round =>
    obtain ⟨k, hk, rfl, hown, hM, hB⟩ := hrel
    have HB := hid hB
    have hsz := hB.size
    have hmlt := hM.lt
    clear hB
    by_cases hlt : k < l.length
    · obtain ⟨ao', c', hv', hx'⟩ := (Reads.of_owns hown).fir
      simp only [Value.slice.injEq] at hv'
      obtain ⟨rfl, _, rfl⟩ := hv'
      obtain ⟨b', o', rfl, p0, p1, p2, p3⟩ := hx' k _ (List.getElem?_eq_getElem hlt)
      clear hx'
      have hst := hid (idMap_take l k hlt)
      have hne : (Value.slice (some ⟨b', o', none⟩) l.length c1).ownBlock ≠ some w.heap.size := owns_not hown
      have hMa : MapIs encU Value.bool (wr.alloc (.cells #[.int .u64 l[k].id, .int .u64 l[k].gen, .int .u64 l[k].dl, .int .u64 l[k].tk] 30)) w.heap.size (idMap (l.take k)) := hM.kept (Below.heap_alloc _ _ _ hmlt)
      have hOa : (wr.alloc (.cells #[.int .u64 l[k].id, .int .u64 l[k].gen, .int .u64 l[k].dl, .int .u64 l[k].tk] 30)).ownsRow (w.heap.size + 1) 30 4 (.slice (some ⟨b', o', none⟩) l.length c1) l.length (l.flatMap firC) := hown.alloc _
      have hBa : Below w.heap.size w (wr.alloc (.cells #[.int .u64 l[k].id, .int .u64 l[k].gen, .int .u64 l[k].dl, .int .u64 l[k].tk] 30)) := HB.out.alloc hsz _
      have X := hid (And.intro hMa (And.intro hOa (And.intro hBa hne)))
      clear hM hown hMa hOa hBa hne
      go_wp2_with (at_mapUpdate; have hm6 := X.out.1; refine wpList_update _ rfl 27 _ _ _ rfl (keyLaw_int Try.underlying28) Try.underlying27 w.heap.size _ hm6 rfl l[k].id rfl true rfl ?_; intro wx hmx hgx hsx; have Y := hid (And.intro hmx (And.intro (X.out.2.1.kept hgx (.inr X.out.2.2.2)) (X.out.2.2.1.grown hgx X.out.2.2.1.size (fun j e => by cases e; exact Nat.le_refl _)))); clear hmx hgx hsx)
      go_roundw
      case rel => exact ⟨k + 1, by omega, by go_num, Y.out.2.1, by rw [hst.out]; exact Y.out.1, Y.out.2.2⟩
      case measure => simp [intOf]; omega
    · obtain rfl : k = l.length := by omega
      rw [List.take_length] at hM
      have hwf2 : ∀ p ∈ idMap l, (Lit.int .u64 p.1).wf = true := by
        intro p hp
        obtain ⟨f, hf, e⟩ := ((idMap_props l).2.2 p.1).1 (List.mem_map_of_mem hp)
        have := HWF.out f hf
        rw [← e]
        simp [Lit.wf, IntKind.min, IntKind.max, IntKind.bits, IntKind.signed]; omega
      have hlen2 := (idMap_props l).2.1
      have hK : ∀ W Bm, Below wr.heap.size wr W → W.cell? ⟨Bm, 0, none⟩ = some (.map (some w.heap.size)) → Calls Try.prog 31 #[.func (.func 40) #[] #[.pointer (some ⟨Bm, 0, none⟩)]] W fun e w' => ∃ v', e = .returned v' ∧ w'.ownsRow W.heap.size 28 1 v' (idsOf l).length ((idsOf l).map encU) ∧ Below W.heap.size W w' := by
        intro W Bm hW hm
        have h := sortedKeys_any w.heap.size Bm (idMap l) W (World.block_lt_of_cell? W _ hm) hm (hM.kept (hW.block _ hmlt)) hwf2 (by omega)
        rw [← idsOf_len l] at h
        exact h
      have HK := hid hK
      clear hK hM hown hwf2
      go_wp2_with (first | (go_at_call 32; refine (keys_any _ _).mono ?_; rintro e w' ⟨rfl, rfl⟩) | (go_at_call 31; refine (HK.out _ _ ((Below.refl _ _).alloc (Nat.le_refl _) _) (Boxed.new _ _ _).cell).mono ?_; rintro e w3 ⟨v3, rfl, hown3, hb3⟩; have H3 := hid hown3; have HB3 := hid hb3; clear hown3 hb3))
      go_ret
      exact ⟨_, rfl, owns_base H3.out (by simp; omega), (HB.out.alloc hsz _).trans (HB3.out.mono (by simp; omega))⟩

/-! ### Len -/
theorem lenAsk_any (f : Fir) (w : World) :
    Calls Try.prog 34 #[firV f] w fun e w' => e = .returned (.bool true) ∧ Below w.heap.size w w' := by
  go_enter Try.func34, Try.ntmps34
  go_wp2
  go_ret
  exact ⟨rfl, by first | exact Below.refl _ _ | exact (Below.refl _ _).alloc (Nat.le_refl _) _⟩
end Go.Proofs.Ytofkjmhcddgeeaa
