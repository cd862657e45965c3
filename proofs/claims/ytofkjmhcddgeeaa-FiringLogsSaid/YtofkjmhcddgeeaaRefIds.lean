/- vergeref12.Ids: each time the least one above the last one: by its walk. -/
import Derived.Test.YtofkjmhcddgeeaaIds
namespace Go.Proofs.Ytofkjmhcddgeeaa
open Go.RowKit Go.Sort

def aboveB (lo : Option Int) (x : Int) : Bool := match lo with | none => true | some y => decide (y < x)
def bstStep (lo acc : Option Int) (x : Int) : Option Int := if aboveB lo x && (match acc with | none => true | some b => decide (x < b)) then some x else acc
def bst (lo : Option Int) (l : List Int) : Option Int := l.foldl (bstStep lo) none
theorem bst_snoc (lo : Option Int) (l : List Int) (x : Int) : bst lo (l ++ [x]) = bstStep lo (bst lo l) x := by simp [bst]
theorem bst_spec (lo : Option Int) (l : List Int) : (bst lo l = none → ∀ x ∈ l, aboveB lo x = false) ∧ ∀ b, bst lo l = some b → b ∈ l ∧ aboveB lo b = true ∧ ∀ x ∈ l, aboveB lo x = true → b ≤ x := by
  refine take_ind (fun l => (bst lo l = none → ∀ x ∈ l, aboveB lo x = false) ∧ ∀ b, bst lo l = some b → b ∈ l ∧ aboveB lo b = true ∧ ∀ x ∈ l, aboveB lo x = true → b ≤ x) ⟨by simp, by simp [bst]⟩ ?_ l
  intro l x ⟨h1, h2⟩
  rw [bst_snoc]
  unfold bstStep
  cases ha : aboveB lo x with
  | false =>
    simp only [Bool.false_and, Bool.false_eq_true, if_false]
    refine ⟨fun h y hy => ?_, fun b hb => ?_⟩
    · rcases List.mem_append.1 hy with hy | hy
      · exact h1 h y hy
      · simp at hy; subst hy; exact ha
    · obtain ⟨g1, g2, g3⟩ := h2 b hb
      refine ⟨by simp [g1], g2, fun y hy hay => ?_⟩
      rcases List.mem_append.1 hy with hy | hy
      · exact g3 y hy hay
      · simp at hy; subst hy; rw [ha] at hay; cases hay
  | true =>
    cases hb : bst lo l with
    | none =>
      simp only [Bool.true_and, if_true]
      refine ⟨fun h => (by cases h), fun b e => ?_⟩
      cases e
      refine ⟨by simp, ha, fun y hy hay => ?_⟩
      rcases List.mem_append.1 hy with hy | hy
      · rw [h1 hb y hy] at hay; cases hay
      · simp at hy; omega
    | some b0 =>
      obtain ⟨g1, g2, g3⟩ := h2 b0 hb
      by_cases hx : x < b0
      · simp only [Bool.true_and, hx, decide_true, if_true]
        refine ⟨fun h => (by cases h), fun b e => ?_⟩
        cases e
        refine ⟨by simp, ha, fun y hy hay => ?_⟩
        rcases List.mem_append.1 hy with hy | hy
        · have := g3 y hy hay; omega
        · simp at hy; omega
      · simp only [Bool.true_and, hx, decide_false, Bool.false_eq_true, if_false]
        refine ⟨fun h => (by cases h), fun b e => ?_⟩
        cases e
        refine ⟨by simp [g1], g2, fun y hy hay => ?_⟩
        rcases List.mem_append.1 hy with hy | hy
        · exact g3 y hy hay
        · simp at hy; omega
/-- The last of the first k. -/
def lastOf (s : List Int) (k : Nat) : Option Int := if k = 0 then none else s[k - 1]?
theorem bst_next {s l : List Int} (hs : s.Pairwise (· < ·)) (hm : ∀ x, x ∈ s ↔ x ∈ l) (k : Nat) (hk : k ≤ s.length) : bst (lastOf s k) l = s[k]? := by
  have hget : ∀ i j (hi : i < s.length) (hj : j < s.length), i < j → s[i] < s[j] := fun i j hi hj h => List.pairwise_iff_getElem.1 hs i j hi hj h
  have hab : ∀ j (hj : j < s.length), aboveB (lastOf s k) s[j] = decide (k ≤ j) := by
    intro j hj
    unfold lastOf
    by_cases h0 : k = 0
    · subst h0; simp [aboveB]
    · rw [if_neg h0, List.getElem?_eq_getElem (by omega)]
      simp only [aboveB]
      by_cases hkj : k ≤ j
      · have := hget (k - 1) j (by omega) hj (by omega); simp [hkj, this]
      · have : ¬ s[k - 1] < s[j] := by
          by_cases e : j = k - 1
          · subst e; omega
          · have := hget j (k - 1) hj (by omega) (by omega); omega
        simp [hkj, this]
  obtain ⟨h1, h2⟩ := bst_spec (lastOf s k) l
  by_cases hlt : k < s.length
  · rw [List.getElem?_eq_getElem hlt]
    cases hb : bst (lastOf s k) l with
    | none =>
      have := h1 hb s[k] ((hm _).1 (List.getElem_mem hlt))
      rw [hab k hlt] at this; simp at this
    | some b =>
      obtain ⟨g1, g2, g3⟩ := h2 b hb
      obtain ⟨j, hj, rfl⟩ := List.getElem_of_mem ((hm _).2 g1)
      rw [hab j hj] at g2
      have hkj : k ≤ j := by simpa using g2
      have h3 := g3 s[k] ((hm _).1 (List.getElem_mem hlt)) (by rw [hab k hlt]; simp)
      by_cases e : j = k
      · subst e; rfl
      · have := hget k j hlt hj (by omega); omega
  · rw [List.getElem?_eq_none (by omega)]
    cases hb : bst (lastOf s k) l with
    | none => rfl
    | some b =>
      obtain ⟨g1, g2, _⟩ := h2 b hb
      obtain ⟨j, hj, rfl⟩ := List.getElem_of_mem ((hm _).2 g1)
      rw [hab j hj] at g2
      simp at g2; omega
def lenV : Value → Nat | .slice _ n _ => n | _ => 0
def fids (l : List Fir) : List Int := l.map (·.id)
theorem fids_take (l : List Fir) (j : Nat) (h : j < l.length) (lo : Option Int) : bst lo (fids (l.take (j + 1))) = bstStep lo (bst lo (fids (l.take j))) l[j].id := by
  rw [take_snoc_list l j h]; simp only [fids, List.map_append, List.map_cons, List.map_nil]; exact bst_snoc _ _ _

set_option maxHeartbeats 4000000 in
theorem refIds_any (l : List Fir) (v : Value) (w : World) (h1 : Reads w v l.length (l.flatMap firC)) (hn : l.length ≤ 1000000) :
    Calls Try.prog 24 #[v] w fun e w' => ∃ v', e = .returned v' ∧ w'.ownsRow w.heap.size 28 1 v' (idsOf l).length ((idsOf l).map encU) ∧ Below w.heap.size w w' := by
  have hrd := hid h1
  obtain ⟨a1, c1, rfl, g1⟩ := h1.fir
  clear g1 h1
  have HN := hid (fun k hk => bst_next (idsOf_lt l) (l := fids l) (fun x => by rw [idsOf_mem]; simp [fids]) k hk)
  have hle := idsOf_le l
  generalize hs : idsOf l = s at HN hle ⊢
  clear hs
  obtain ⟨i0, hi, hz0, hz1, hz2⟩ := info_parts u64_info
  go_enter Try.func24, Try.ntmps24
  go_wp2
  go_loopw [3] (fun o wr => ∃ k : Nat, k ≤ s.length ∧ wr.ownsRow w.heap.size 28 1 o k ((s.take k).map encU) ∧ Below w.heap.size w wr) (fun o _ => s.length - lenV o)
  case atStart => exact ⟨0, by omega, World.ownsRow_nil _ _ _ _, Below.refl _ _⟩
  case round =>
    obtain ⟨k, hk, hown, hb⟩ := hrel
    obtain ⟨ao, cap, rfl⟩ := owns_shape hown
    have HB := hid hb
    have HO := hid hown
    have hsz := hb.size
    have hlast : Hid (1 ≤ k → ∃ b o y, ao = some ⟨b, o, none⟩ ∧ wr.cell? ⟨b, o + (k - 1), none⟩ = some (.int .u64 y) ∧ lastOf s k = some y) := hid (fun h => by
      have hrr : Reads wr (.slice ao k cap) (s.take k).length ((s.take k).map (Value.int .u64)) := by
        have := Reads.of_owns hown
        rwa [show (s.take k).length = k by simp; omega]
      obtain ⟨ao', c', hv', hx'⟩ := hrr.ints
      simp only [Value.slice.injEq] at hv'
      obtain ⟨rfl, _, rfl⟩ := hv'
      obtain ⟨b, o, hao, hc⟩ := hx' (k - 1) s[k - 1] (by rw [List.getElem?_take_of_lt (by omega), List.getElem?_eq_getElem (by omega)])
      exact ⟨b, o, s[k - 1], hao, hc, by unfold lastOf; rw [if_neg (by omega), List.getElem?_eq_getElem (by omega)]⟩)
    clear hb hown
    go_wp2
    obtain ⟨wo, hwo⟩ : ∃ wo : World, wo = wr := ⟨_, rfl⟩
    subst hwo
    have HNk := hid (HN.out k hk)
    go_loop [4, 5, 6] (fun bv sv i => ∃ j : Nat, j ≤ l.length ∧ i = .int .i64 j ∧ bv = .int .u64 ((bst (lastOf s k) (fids (l.take j))).getD 0) ∧ sv = .bool (bst (lastOf s k) (fids (l.take j))).isSome) (fun _ _ i => l.length - (intOf i).toNat)
    case atStart => exact ⟨0, by omega, rfl, rfl, rfl⟩
    case round =>
      obtain ⟨j, hj, rfl, rfl, rfl⟩ := hrel
      by_cases hlt : j < l.length
      · obtain ⟨ao', c', hv', hx'⟩ := (hrd.out.below HB.out (Nat.le_refl _)).fir
        simp only [Value.slice.injEq] at hv'
        obtain ⟨rfl, _, rfl⟩ := hv'
        obtain ⟨b', o', rfl, p0, p1, p2, p3⟩ := hx' j _ (List.getElem?_eq_getElem hlt)
        clear hx' p1 p2 p3
        have hst := hid (fids_take l j hlt (lastOf s k))
        generalize bst (lastOf s k) (fids (l.take j)) = acc at hst
        generalize hxx : l[j].id = x at hst p0
        clear hxx
        by_cases hk0 : k = 0
        · subst hk0
          have hlo : lastOf s 0 = none := rfl
          have HLO := hid hlo
          clear hlo
          cases acc with
          | none =>
            go_wp2
            all_goals
              go_round
              case rel => exact ⟨j + 1, by omega, by go_num, by rw [hst.out, HLO.out]; rfl, by rw [hst.out, HLO.out]; rfl⟩
              case measure => simp [intOf]; omega
          | some y0 =>
            by_cases hxy : x < y0
            · have hxy' : decide (x < y0) = true := by simpa using hxy
              simp only [Option.getD_some, Option.isSome_some]
              go_wp2
              go_round
              case rel => exact ⟨j + 1, by omega, by go_num, by rw [hst.out, HLO.out]; simp [bstStep, aboveB, hxy], by rw [hst.out, HLO.out]; simp [bstStep, aboveB, hxy]⟩
              case measure => simp [intOf]; omega
            · have hxy' : decide (x < y0) = false := by simpa using hxy
              simp only [Option.getD_some, Option.isSome_some]
              go_wp2
              go_round
              case rel => exact ⟨j + 1, by omega, by go_num, by rw [hst.out, HLO.out]; simp [bstStep, aboveB, hxy], by rw [hst.out, HLO.out]; simp [bstStep, aboveB, hxy]⟩
              case measure => simp [intOf]; omega
        · obtain ⟨b, o, y, rfl, hcy, hly⟩ := hlast.out (by omega)
          have HLO := hid hly
          clear hly
          have hk1 : ((k : Int) == 0) = false := by simp; omega
          have hk2 : 0 < k := by omega
          by_cases hab : y < x
          · have hab' : decide (y < x) = true := by simpa using hab
            cases acc with
            | none =>
              simp only [Option.getD_none, Option.isSome_none]
              go_wp2
              all_goals
                go_round
                case rel => exact ⟨j + 1, by omega, by go_num, by rw [hst.out, HLO.out]; simp [bstStep, aboveB, hab], by rw [hst.out, HLO.out]; simp [bstStep, aboveB, hab]⟩
                case measure => simp [intOf]; omega
            | some y0 =>
              simp only [Option.getD_some, Option.isSome_some]
              by_cases hxy : x < y0
              · have hxy' : decide (x < y0) = true := by simpa using hxy
                go_wp2
                all_goals
                  go_round
                  case rel => exact ⟨j + 1, by omega, by go_num, by rw [hst.out, HLO.out]; simp [bstStep, aboveB, hab, hxy], by rw [hst.out, HLO.out]; simp [bstStep, aboveB, hab, hxy]⟩
                  case measure => simp [intOf]; omega
              · have hxy' : decide (x < y0) = false := by simpa using hxy
                go_wp2
                all_goals
                  go_round
                  case rel => exact ⟨j + 1, by omega, by go_num, by rw [hst.out, HLO.out]; simp [bstStep, aboveB, hab, hxy], by rw [hst.out, HLO.out]; simp [bstStep, aboveB, hab, hxy]⟩
                  case measure => simp [intOf]; omega
          · have hab' : decide (y < x) = false := by simpa using hab
            have hst2 : Hid (bst (lastOf s k) (fids (l.take (j + 1))) = acc) := hid (by rw [hst.out, HLO.out]; simp [bstStep, aboveB, hab])
            go_wp2
            all_goals
              go_round
              case rel => exact ⟨j + 1, by omega, by go_num, by rw [hst2.out], by rw [hst2.out]⟩
              case measure => simp [intOf]; omega
      · obtain rfl : j = l.length := by omega
        rw [List.take_length, HNk.out]
        by_cases hlt2 : k < s.length
        · have hst := hid (take_snoc_list s k hlt2)
          rw [List.getElem?_eq_getElem hlt2]
          simp only [Option.getD_some, Option.isSome_some]
          generalize hx : s[k] = x at hst
          clear hx hlast
          go_wp2_with (at_builtin; refine wpList_append_own _ rfl _ _ 39 rfl w.heap.size 28 i0 _ 1 8 Try.underlying39 hi hz0 hz1 hz2 rfl (by decide) _ _ _ rfl (HO.out.alloc _) ⟨wo.heap.size, 0, none⟩ 1 1 [encU x] rfl rfl (cells_new _ _ _) (by intro u hu; simp at hu; subst hu; rfl) (by unfold maxLen; omega) (by omega) (by simp; omega) ?_; intro v' w1 hown' hgrow _; obtain ⟨ao2, cap2, rfl⟩ := owns_shape hown'; have Y := hid (And.intro hown' (below_appended HB.out hsz HO.out hgrow)); clear hown' hgrow)
          go_roundw
          case rel => exact ⟨k + 1, by omega, by rw [hst.out, List.map_append]; exact Y.out.1, Y.out.2⟩
          case measure => simp [lenV]; omega
        · rw [List.getElem?_eq_none (by omega)]
          simp only [Option.isSome_none]
          have hks : k = s.length := by omega
          clear hlast
          go_wp2
          go_ret
          subst hks
          exact ⟨_, rfl, by have := HO.out; rwa [List.take_length] at this, HB.out⟩
end Go.Proofs.Ytofkjmhcddgeeaa
