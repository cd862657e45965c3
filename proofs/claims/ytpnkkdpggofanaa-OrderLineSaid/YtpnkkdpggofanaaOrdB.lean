/- slices.Clone and order.sorted at []order.Op. -/
import Derived.Test.YtpnkkdpggofanaaOrdA
namespace Go.Proofs.Ytpnkkdpggofanaa
open Go.Shelf Go.RowKit Go.Lib Go.Sort Go.Proofs

theorem flatK_flatMap {α : Type} [Inhabited α] (enc : α → List Value) (k : Nat) (hk : ∀ x, (enc x).length = k) (hk0 : 0 < k) (l : List α) : (flatK enc k l.toArray).toList = l.flatMap enc := by
  apply List.ext_getElem?
  intro t
  by_cases ht : t < l.length * k
  · have e : t / k * k + t % k = t := Nat.div_add_mod' t k
    have hi : t / k < l.length := Nat.div_lt_of_lt_mul (by rw [Nat.mul_comm]; exact ht)
    have hr : t % k < k := Nat.mod_lt _ hk0
    have := flatMap_getElem? enc k hk l (t / k) l[t / k] (t % k) ((enc l[t / k])[t % k]'(by rw [hk]; exact hr)) (by simp [hi]) (by simp [hk, hr])
    rw [e] at this
    rw [this]
    simp [flatK, ht, hi, hk, hr]
  · rw [List.getElem?_eq_none (by simpa using ht), List.getElem?_eq_none (by rw [flatMap_length enc k hk]; omega)]

theorem op_holds {w : World} {g : Nat} {cur : Array Value} {e : TypeId} {xs : List OpD} (hb : w.heap[g]? = some (.cells cur e (0, 0))) (ht : cur.toList.take (xs.length * 6) = xs.flatMap opC) : HoldsK opC 6 w g 0 xs.toArray := by
  intro j hj
  have hj' : j < xs.length * 6 := by simpa using hj
  refine ⟨?_, by simp [World.frozen?, hb]⟩
  have h1 : (cur.toList.take (xs.length * 6))[j]? = (flatK opC 6 xs.toArray).toList[j]? := by rw [ht, flatK_flatMap opC 6 opC_len (by decide)]
  rw [List.getElem?_take_of_lt hj'] at h1
  simp only [World.cell?, hb, Nat.zero_add]
  simp only [Option.isSome_none, Bool.false_eq_true, if_false]
  rw [← Array.getElem?_toList, h1, Array.getElem?_toList, getElem!_pos _ j (by simpa using hj'), Array.getElem?_eq_getElem (by simpa using hj')]
  rfl

theorem op_row {w : World} {base g cap n : Nat} {e : TypeId} {os : Array Obj} {cur : Array Value} {xs ys : List OpD} (hl : ys.length = xs.length) (hbase : base ≤ g) (hb : w.heap[g]? = some (.cells cur e (0, 0)))
    (h1 : xs.length ≤ cap) (h2 : cap ≤ maxLen) (h3 : cur.size = cap * 6) :
    (sortWorldK opC 6 w g 0 n ys.toArray os).ownsRow base e 6 (.slice (some ⟨g, 0, none⟩) xs.length cap) xs.length (ys.flatMap opC) ∧ w.grownBy (sortWorldK opC 6 w g 0 n ys.toArray os) (some g) := by
  have hg : g < w.heap.size := (Array.getElem?_eq_some_iff.1 hb).1
  have hF : (flatK opC 6 ys.toArray).size = xs.length * 6 := by simp [hl]
  have hE := flatK_flatMap opC 6 opC_len (by decide) ys
  unfold sortWorldK putRowK
  generalize flatK opC 6 ys.toArray = F at hF hE ⊢
  rw [← hE]
  refine ⟨⟨by simp [hF], .inr ⟨g, cap, putCells id 0 F cur, rfl, hbase, ?_, h1, h2, by simp [putCells, h3], ?_⟩⟩, rfl, rfl, rfl, by simp, fun k hk hne => ?_⟩
  · rw [heap_grow_old _ _ (by simpa using hg)]
    simp [putRow, mapBlock, Sort.ahead, Array.getElem?_modify, hb, onCells]
  · apply List.ext_getElem?
    intro j
    by_cases hj : j < xs.length * 6
    · rw [List.getElem?_take_of_lt hj, Array.getElem?_toList]
      have h6 : xs.length * 6 ≤ cap * 6 := Nat.mul_le_mul_right 6 h1
      simp [putCells, hF, hj, show j < cur.size by omega]
    · rw [List.getElem?_take_eq_none (by omega), List.getElem?_eq_none (by simp; omega)]
  · rw [heap_grow_old _ _ (by simpa using hk)]
    have : g ≠ k := fun e => hne (by rw [e])
    simp [putRow, mapBlock, Sort.ahead, Array.getElem?_modify, this]

theorem op_info : (Try.prog.info? 40).map (fun i => (i.zero, i.size, i.bytes)) = some (some (.agg #[.int .i64 0, .int .i64 0, .int .i64 0, .int .i64 0, .int .i64 0, .int .i64 0]), 6, 48) := by kernel_rfl
theorem owns_empty (w : World) (e : TypeId) (size : Nat) : (w.alloc (.cells #[] e)).ownsRow w.heap.size e size (.slice (some ⟨w.heap.size, 0, none⟩) 0 0) 0 [] :=
  ⟨by simp, .inr ⟨w.heap.size, 0, #[], rfl, Nat.le_refl _, heap_alloc_new w _, Nat.le_refl _, by unfold maxLen; omega, by simp, by simp⟩⟩
theorem ops_one (l : List OpD) : ∀ u ∈ l.flatMap opC, u.oneCell' = true := by
  intro u hu
  obtain ⟨o, _, ho⟩ := List.mem_flatMap.1 hu
  exact opC_one o u ho

theorem slnil_eq (w : World) : (binOp .eql 33 (.slice none 0 0) (.slice none 0 0)).run Try.prog w = .ok (.bool true) w := by kernel_rfl
theorem slnil_ne (ad : Addr) (n c : Nat) (w : World) : (binOp .eql 33 (.slice (some ad) n c) (.slice none 0 0)).run Try.prog w = .ok (.bool false) w := by kernel_rfl
set_option maxHeartbeats 2000000 in
set_option maxRecDepth 1000000 in
theorem clone_nil (w : World) : Calls Try.prog 65 #[.slice none 0 0] w fun e w' => e = .returned (.slice none 0 0) ∧ w' = w := by
  have q1 := slnil_eq
  have q2 := slnil_ne
  go_enter Try.func65, Try.ntmps65
  go_wp2
  go_ret
  exact ⟨rfl, rfl⟩

set_option maxHeartbeats 2000000 in
set_option maxRecDepth 1000000 in
theorem clone_any (l : List OpD) (ad : Addr) (c : Nat) (w : World) (h : Reads w (.slice (some ad) l.length c) l.length (l.flatMap opC)) (hn : l.length ≤ 1000000) :
    Calls Try.prog 65 #[.slice (some ad) l.length c] w fun e w' => ∃ v', e = .returned v' ∧ w'.ownsRow w.heap.size 40 6 v' l.length (l.flatMap opC) ∧ Below w.heap.size w w' := by
  obtain ⟨i0, hi, hz0, hz1, hz2⟩ := info_parts op_info
  have HR := hid h
  clear h
  have q1 := slnil_eq
  have q2 := slnil_ne
  go_enter Try.func65, Try.ntmps65
  go_wp2_with (at_builtin; refine wpList_append_any _ rfl _ _ 33 rfl w.heap.size 40 i0 _ 6 48 Try.underlying33 hi hz0 hz1 hz2 rfl (by decide) _ 0 [] rfl (owns_empty w 40 6) _ l.length (l.flatMap opC) rfl ((Chg.alloc (fun _ => False) w _).reads HR.out (fun _ _ _ _ h => h)) (flatMap_length opC 6 opC_len l) (ops_one l) (by unfold maxLen; omega) (by omega) (by simp) ?_; intro bo cap w1 hown' hgrow; have HO1 := hid hown'; have HB1 := hid ((Below.alloc (Below.refl _ w) (Nat.le_refl _) _).grown hgrow (by simp) (fun k hk => by cases hk; exact Nat.le_refl _)); clear hown' hgrow)
  go_ret
  refine ⟨_, rfl, ?_, HB1.out⟩
  have := HO1.out
  simpa using this
end Go.Proofs.Ytpnkkdpggofanaa
