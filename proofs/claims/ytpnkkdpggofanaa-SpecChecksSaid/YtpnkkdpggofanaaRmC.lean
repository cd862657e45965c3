/- The live timers, rising: the plain side of Live's walk. No program in sight. The document's machine: Live by its walk. -/
import Derived.Test.YtpnkkdpggofanaaRmStep
import Derived.Test.YtpnkkdpggofanaaRmA
namespace Go.Proofs.Ytpnkkdpggofanaa

/-- Does a number stand above all that were taken? -/
def above (L : List Int) (x : Int) : Bool := match L.getLast? with | none => true | some y => decide (y < x)
/-- What the round behind k timers knows. -/
def BestOf (T : List RT) (L : List Int) (k : Nat) (best : Int) (some : Bool) : Prop :=
  (some = false → ∀ j (hj : j < T.length), j < k → ¬ (T[j].live = true ∧ above L T[j].id = true)) ∧
  (some = true → (∃ j, ∃ hj : j < T.length, j < k ∧ T[j].live = true ∧ above L T[j].id = true ∧ T[j].id = best) ∧ ∀ j (hj : j < T.length), j < k → T[j].live = true → above L T[j].id = true → best ≤ T[j].id)
/-- What stands of the list that is being made. -/
structure Rising (T : List RT) (L : List Int) : Prop where
  up : L.Pairwise (· < ·)
  sub : ∀ x ∈ L, x ∈ rlives T
  low : ∀ x ∈ rlives T, x ∈ L ∨ above L x = true

theorem mem_rlives {T : List RT} {x : Int} : x ∈ rlives T ↔ ∃ j, ∃ hj : j < T.length, T[j].live = true ∧ T[j].id = x := by
  unfold rlives
  rw [List.mem_map]
  constructor
  · rintro ⟨t, ht, rfl⟩
    obtain ⟨h1, h2⟩ := List.mem_filter.1 ht
    obtain ⟨j, hj, rfl⟩ := List.mem_iff_getElem.1 h1
    exact ⟨j, hj, h2, rfl⟩
  · rintro ⟨j, hj, h1, h2⟩
    exact ⟨T[j], List.mem_filter.2 ⟨List.getElem_mem hj, h1⟩, h2⟩
theorem best_none (T : List RT) (L : List Int) (b : Int) : BestOf T L 0 b false := ⟨fun _ j _ h => absurd h (by omega), fun h => nomatch h⟩
theorem best_skip {T : List RT} {L : List Int} {k : Nat} {b : Int} {s : Bool} (hk : k < T.length) (h : BestOf T L k b s) (hn : ¬ (T[k].live = true ∧ above L T[k].id = true)) : BestOf T L (k + 1) b s := by
  refine ⟨fun hs j hj hjk => ?_, fun hs => ?_⟩
  · rcases Nat.lt_or_ge j k with h1 | h1
    · exact h.1 hs j hj h1
    · obtain rfl : j = k := by omega
      exact hn
  · obtain ⟨⟨j, hj, a, b, c, d⟩, h2⟩ := h.2 hs
    refine ⟨⟨j, hj, by omega, b, c, d⟩, fun i hi hik hl ha => ?_⟩
    rcases Nat.lt_or_ge i k with h1 | h1
    · exact h2 i hi h1 hl ha
    · obtain rfl : i = k := by omega
      exact absurd ⟨hl, ha⟩ hn
theorem best_keep {T : List RT} {L : List Int} {k : Nat} {b : Int} (hk : k < T.length) (h : BestOf T L k b true) (hn : b ≤ T[k].id) : BestOf T L (k + 1) b true := by
  refine ⟨fun hs => (nomatch hs), fun hs => ?_⟩
  obtain ⟨⟨j, hj, a, b, c, d⟩, h2⟩ := h.2 hs
  refine ⟨⟨j, hj, by omega, b, c, d⟩, fun i hi hik hl ha => ?_⟩
  rcases Nat.lt_or_ge i k with h1 | h1
  · exact h2 i hi h1 hl ha
  · obtain rfl : i = k := by omega
    exact hn
theorem best_take {T : List RT} {L : List Int} {k : Nat} {b : Int} {s : Bool} (hk : k < T.length) (h : BestOf T L k b s) (hl : T[k].live = true) (ha : above L T[k].id = true) (hn : s = true → T[k].id < b) : BestOf T L (k + 1) T[k].id true := by
  refine ⟨fun hs => (nomatch hs), fun _ => ⟨⟨k, hk, by omega, hl, ha, rfl⟩, fun i hi hik hl2 ha2 => ?_⟩⟩
  rcases Nat.lt_or_ge i k with h1 | h1
  · cases s with
    | false => exact absurd ⟨hl2, ha2⟩ (h.1 rfl i hi h1)
    | true => have := (h.2 rfl).2 i hi h1 hl2 ha2; have := hn rfl; omega
  · obtain rfl : i = k := by omega
    exact Int.le_refl _

theorem above_last (L : List Int) (y x : Int) : above (L ++ [y]) x = decide (y < x) := by unfold above; simp
theorem rising_nil (T : List RT) : Rising T [] := ⟨List.Pairwise.nil, fun _ h => by simp at h, fun _ _ => .inr rfl⟩
theorem above_all {L : List Int} (h : L.Pairwise (· < ·)) {x : Int} (ha : above L x = true) : ∀ y ∈ L, y < x := by
  intro y hy
  unfold above at ha
  rcases List.eq_nil_or_concat L with rfl | ⟨M, z, rfl⟩
  · simp at hy
  · simp only [List.concat_eq_append, List.getLast?_append, List.getLast?_singleton, Option.some_or, decide_eq_true_eq] at ha hy h
    rcases List.mem_append.1 hy with h1 | h1
    · have := (List.pairwise_append.1 h).2.2 y h1 z (by simp)
      omega
    · simp at h1; omega
/-- A round that found one. -/
theorem Rising.push {T : List RT} {L : List Int} {b : Int} (R : Rising T L) (h : BestOf T L T.length b true) : Rising T (L ++ [b]) := by
  obtain ⟨⟨j, hj, _, hl, ha, rfl⟩, h2⟩ := h.2 rfl
  refine ⟨?_, ?_, ?_⟩
  · rw [List.pairwise_append]
    exact ⟨R.up, by simp, fun y hy z hz => by simp at hz; subst hz; exact above_all R.up ha y hy⟩
  · intro x hx
    rcases List.mem_append.1 hx with h1 | h1
    · exact R.sub x h1
    · simp at h1; exact mem_rlives.2 ⟨j, hj, hl, h1.symm⟩
  · intro x hx
    rw [above_last]
    rcases R.low x hx with h1 | h1
    · exact .inl (List.mem_append.2 (.inl h1))
    · obtain ⟨i, hi, hl2, rfl⟩ := mem_rlives.1 hx
      have h3 := h2 i hi hi hl2 h1
      rcases Int.lt_or_eq_of_le h3 with h4 | h4
      · exact .inr (by simp [h4])
      · exact .inl (by simp [h4])
/-- A round that found none: all are there. -/
theorem Rising.full {T : List RT} {L : List Int} {b : Int} (R : Rising T L) (h : BestOf T L T.length b false) : ∀ x, x ∈ L ↔ x ∈ rlives T := by
  intro x
  refine ⟨R.sub x, fun hx => ?_⟩
  rcases R.low x hx with h1 | h1
  · exact h1
  · obtain ⟨i, hi, hl2, rfl⟩ := mem_rlives.1 hx
    exact absurd ⟨hl2, h1⟩ (h.1 rfl i hi hi)
theorem len_sub {α : Type} [BEq α] [LawfulBEq α] : ∀ {L M : List α}, L.Nodup → (∀ x ∈ L, x ∈ M) → L.length ≤ M.length := by
  intro L
  induction L with
  | nil => intro M _ _; simp
  | cons a L ih =>
    intro M hn hs
    obtain ⟨h1, h2⟩ := List.nodup_cons.1 hn
    have ha : a ∈ M := hs a (by simp)
    have := @ih (M.erase a) h2 (fun x hx => (List.mem_erase_of_ne (fun e => h1 (by rw [← e]; exact hx))).2 (hs x (by simp [hx])))
    rw [List.length_erase_of_mem ha] at this
    have := List.length_pos_of_mem ha
    simp; omega
theorem rlives_len (T : List RT) : (rlives T).length ≤ T.length := by
  unfold rlives; rw [List.length_map]; exact List.length_filter_le _ _
theorem up_nodup {L : List Int} (h : L.Pairwise (· < ·)) : L.Nodup := h.imp (fun h e => by omega)
theorem Rising.len {T : List RT} {L : List Int} (R : Rising T L) : L.length ≤ T.length := Nat.le_trans (len_sub (up_nodup R.up) R.sub) (rlives_len T)
/-- What Live answers. -/
structure IsUp (T : List RT) (L : List Int) : Prop where
  up : L.Pairwise (· < ·)
  all : ∀ x, x ∈ L ↔ x ∈ rlives T
theorem IsUp.len {T : List RT} {L : List Int} (h : IsUp T L) (hn : (rlives T).Nodup) : L.length = (rlives T).length :=
  Nat.le_antisymm (len_sub (up_nodup h.up) (fun x hx => (h.all x).1 hx)) (len_sub hn (fun x hx => (h.all x).2 hx))
end Go.Proofs.Ytpnkkdpggofanaa

namespace Go.Proofs.Ytpnkkdpggofanaa
open Go.RowKit

theorem rm_u64_info : (Try.prog.info? 29).map (fun i => (i.zero, i.size, i.bytes)) = some (some (.int .u64 0), 1, 8) := by kernel_rfl
def lenV : Value → Nat | .slice _ n _ => n | _ => 0

set_option maxRecDepth 100000 in
set_option maxHeartbeats 4000000 in
theorem rlive_any (T : List RT) (bm : Nat) (vt : Value) (w : World) (hm : w.cell? ⟨bm, 6, none⟩ = some vt) (h1 : Reads w vt T.length (T.flatMap rtC)) (hn : T.length ≤ 1000000) :
    Calls Try.prog 37 #[ptrV bm] w fun x w' => ∃ v' L, x = .returned v' ∧ IsUp T L ∧ w'.ownsRow w.heap.size 29 1 v' L.length (L.map (Value.int .u64)) ∧ Below w.heap.size w w' := by
  have HRD := hid h1
  have HM := hid hm
  obtain ⟨at0, ct, rfl, _⟩ := h1.enc (sz := 8) (fun _ => rfl) (by decide)
  clear h1 hm
  obtain ⟨i0, hi, hz0, hz1, hz2⟩ := info_parts rm_u64_info
  go_enter Try.func37, Try.ntmps37
  go_wp2
  go_loopw [3] (fun o wr => ∃ L : List Int, Hid (Rising T L) ∧ wr.ownsRow w.heap.size 29 1 o L.length (L.map (Value.int .u64)) ∧ Below w.heap.size w wr) (fun o _ => T.length - lenV o)
  case atStart => exact ⟨[], rising_nil T, World.ownsRow_nil _ _ _ _, Below.refl _ _⟩
  case round =>
    obtain ⟨L, RI, hown, hb⟩ := hrel
    obtain ⟨ao, cap, rfl⟩ := owns_shape hown
    have hLT := RI.out.len
    obtain ⟨wo, hwo⟩ : ∃ wo : World, wo = wr := ⟨_, rfl⟩
    subst hwo
    have HO := hid hown
    have HB0 := hid hb
    clear hown hb
    go_wp2
    go_loopw [4, 5, 6] (fun bv sv i wi => ∃ j : Nat, ∃ b : Int, ∃ s : Bool, j ≤ T.length ∧ i = .int .i64 j ∧ bv = .int .u64 b ∧ sv = .bool s ∧ Hid (BestOf T L j b s) ∧ wi.ownsRow w.heap.size 29 1 (.slice ao L.length cap) L.length (L.map (Value.int .u64)) ∧ Below w.heap.size w wi) (fun _ _ i _ => T.length - (intOf i).toNat)
    case atStart => exact ⟨0, 0, false, by omega, rfl, rfl, rfl, hid (best_none T L 0), HO.out, HB0.out⟩
    case round =>
      obtain ⟨j, b, s, hj, rfl, rfl, rfl, BO, hown, hb⟩ := hrel
      have HB := hid hb
      have HO1 := hid hown
      have hm : wr.cell? ⟨bm, 6, none⟩ = some (.slice at0 T.length ct) := (HB.out.cell (World.block_lt_of_cell? w _ HM.out)).trans HM.out
      clear hb hown
      by_cases hlt : j < T.length
      · obtain ⟨at1, ct1, hv1, hx⟩ := (HRD.out.below HB.out (Nat.le_refl _)).enc (sz := 8) (fun _ => rfl) (by decide)
        simp only [Value.slice.injEq, true_and] at hv1
        obtain ⟨rfl, rfl⟩ := hv1
        obtain ⟨bt, ot, rfl, hc⟩ := hx j _ (List.getElem?_eq_getElem hlt)
        clear hx
        have q0 : wr.cell? ⟨bt, ot + j * 8, none⟩ = some (.int .u64 T[j].id) := hc 0 _ rfl
        have q1 : wr.cell? ⟨bt, ot + j * 8 + 1, none⟩ = some (.bool T[j].live) := hc 1 _ rfl
        have q2 : wr.cell? ⟨bt, ot + j * 8 + 2, none⟩ = some (.int .u64 T[j].gen) := hc 2 _ rfl
        have q3 : wr.cell? ⟨bt, ot + j * 8 + 3, none⟩ = some (.int .u64 T[j].dl) := hc 3 _ rfl
        have q4 : wr.cell? ⟨bt, ot + j * 8 + 4, none⟩ = some (.int .u64 T[j].per) := hc 4 _ rfl
        have q5 : wr.cell? ⟨bt, ot + j * 8 + 5, none⟩ = some (.bool T[j].last) := hc 5 _ rfl
        have q6 : wr.cell? ⟨bt, ot + j * 8 + 6, none⟩ = some (.bool T[j].armed) := hc 6 _ rfl
        have q7 : wr.cell? ⟨bt, ot + j * 8 + 7, none⟩ = some (.bool T[j].btw) := hc 7 _ rfl
        clear hc
        go_wp2
        obtain ⟨W2, hW2⟩ : ∃ W2, W2 = wr.alloc (.cells #[.int .u64 T[j].id, .bool T[j].live, .int .u64 T[j].gen, .int .u64 T[j].dl, .int .u64 T[j].per, .bool T[j].last, .bool T[j].armed, .bool T[j].btw] 105) := ⟨_, rfl⟩
        obtain ⟨bt2, hbt2⟩ : ∃ x, x = wr.heap.size := ⟨_, rfl⟩
        have hK2 : Blk W2 bt2 105 (rtC T[j]) := by rw [hW2, hbt2]; exact Blk.new _ _ _
        have HO2 : Hid (W2.ownsRow w.heap.size 29 1 (.slice ao L.length cap) L.length (L.map (Value.int .u64))) := hid (by rw [hW2]; exact HO1.out.alloc _)
        have HB2 : Hid (Below w.heap.size w W2) := hid (by rw [hW2]; exact HB.out.alloc HB.out.size _)
        rw [← hW2, ← hbt2]
        clear q0 q1 q2 q3 q4 q5 q6 q7 hW2 hbt2 hm
        have p0 : W2.cell? ⟨bt2, 0, none⟩ = some (.int .u64 T[j].id) := hK2.cell 0 rfl
        have p1 : W2.cell? ⟨bt2, 1, none⟩ = some (.bool T[j].live) := hK2.cell 1 rfl
        clear hK2
        by_cases kl : T[j].live = true
        · have KL := hid kl
          rw [kl] at p1
          clear kl
          by_cases h0 : L.length = 0
          · have h0' : ((L.length : Int) == 0) = true := by simp [h0]
            have HL0 := hid h0
            clear h0
            have HAB := hid (show above L T[j].id = true by rw [List.eq_nil_of_length_eq_zero HL0.out]; rfl)
            cases s with
            | false =>
              go_quiet (fail)
              go_wp2
              all_goals
                go_roundw
                case rel => exact ⟨j + 1, T[j].id, true, by omega, by go_num, rfl, rfl, hid (best_take hlt BO.out KL.out HAB.out (fun h => nomatch h)), HO2.out, below_drewN HB2.out _⟩
                case measure => simp [intOf]; omega
            | true =>
              by_cases hxb : T[j].id < b
              · have HXB := hid hxb
                have hxb' : decide (T[j].id < b) = true := decide_eq_true hxb
                clear hxb
                go_quiet (fail)
                go_wp2
                all_goals
                  go_roundw
                  case rel => exact ⟨j + 1, T[j].id, true, by omega, by go_num, rfl, rfl, hid (best_take hlt BO.out KL.out HAB.out (fun _ => HXB.out)), HO2.out, below_drewN HB2.out _⟩
                  case measure => simp [intOf]; omega
              · have HXB := hid hxb
                have hxb' : decide (T[j].id < b) = false := decide_eq_false hxb
                clear hxb
                go_quiet (fail)
                go_wp2
                all_goals
                  go_roundw
                  case rel => exact ⟨j + 1, b, true, by omega, by go_num, rfl, rfl, hid (best_keep hlt BO.out (by have := HXB.out; omega)), HO2.out, below_drewN HB2.out _⟩
                  case measure => simp [intOf]; omega
          · have h0' : ((L.length : Int) == 0) = false := beq_eq_false_iff_ne.2 (by omega)
            obtain ⟨ao3, cap3, hv3, hx3⟩ := (Reads.of_owns HO2.out).ints
            simp only [Value.slice.injEq, true_and] at hv3
            obtain ⟨rfl, rfl⟩ := hv3
            have hl1 : L.length - 1 < L.length := by omega
            obtain ⟨b3, o3, rfl, hc3⟩ := hx3 (L.length - 1) _ (List.getElem?_eq_getElem hl1)
            have HAV := hid (show ∀ x, above L x = decide (L[L.length - 1] < x) from fun x => by unfold above; rw [List.getLast?_eq_getElem?, List.getElem?_eq_getElem hl1])
            generalize L[L.length - 1] = y at hc3 HAV
            clear hx3
            have hlp : 0 < L.length := by omega
            clear h0
            by_cases hy : y < T[j].id
            · have HY := hid hy
              have hy' : decide (y < T[j].id) = true := decide_eq_true hy
              clear hy
              have HAB := hid (show above L T[j].id = true by rw [HAV.out]; exact decide_eq_true HY.out)
              cases s with
              | false =>
                go_quiet (fail)
                go_wp2
                all_goals
                  go_roundw
                  case rel => exact ⟨j + 1, T[j].id, true, by omega, by go_num, rfl, rfl, hid (best_take hlt BO.out KL.out HAB.out (fun h => nomatch h)), HO2.out, below_drewN HB2.out _⟩
                  case measure => simp [intOf]; omega
              | true =>
                by_cases hxb : T[j].id < b
                · have HXB := hid hxb
                  have hxb' : decide (T[j].id < b) = true := decide_eq_true hxb
                  clear hxb
                  go_quiet (fail)
                  go_wp2
                  all_goals
                    go_roundw
                    case rel => exact ⟨j + 1, T[j].id, true, by omega, by go_num, rfl, rfl, hid (best_take hlt BO.out KL.out HAB.out (fun _ => HXB.out)), HO2.out, below_drewN HB2.out _⟩
                    case measure => simp [intOf]; omega
                · have HXB := hid hxb
                  have hxb' : decide (T[j].id < b) = false := decide_eq_false hxb
                  clear hxb
                  go_quiet (fail)
                  go_wp2
                  all_goals
                    go_roundw
                    case rel => exact ⟨j + 1, b, true, by omega, by go_num, rfl, rfl, hid (best_keep hlt BO.out (by have := HXB.out; omega)), HO2.out, below_drewN HB2.out _⟩
                    case measure => simp [intOf]; omega
            · have HY := hid hy
              have hy' : decide (y < T[j].id) = false := decide_eq_false hy
              clear hy
              have HAB := hid (show ¬ (T[j].live = true ∧ above L T[j].id = true) by rw [HAV.out, decide_eq_true_eq]; exact fun h => HY.out h.2)
              go_quiet (fail)
              go_wp2
              all_goals
                go_roundw
                case rel => exact ⟨j + 1, b, s, by omega, by go_num, rfl, rfl, hid (best_skip hlt BO.out HAB.out), HO2.out, below_drewN HB2.out _⟩
                case measure => simp [intOf]; omega
        · have KL := hid kl
          have kl' : T[j].live = false := by simpa using kl
          rw [kl'] at p1
          clear kl kl'
          go_quiet (fail)
          go_wp2
          all_goals
            go_roundw
            case rel => exact ⟨j + 1, b, s, by omega, by go_num, rfl, rfl, hid (best_skip hlt BO.out (fun h => KL.out h.1)), HO2.out, below_drewN HB2.out _⟩
            case measure => simp [intOf]; omega
      · obtain rfl : j = T.length := by omega
        cases s with
        | false =>
          go_wp2
          go_ret
          exact ⟨_, L, rfl, ⟨RI.out.up, RI.out.full BO.out⟩, HO1.out, HB.out⟩
        | true =>
          have HP := hid (RI.out.push BO.out)
          have hP := HP.out.len
          have hsz := hid HB.out.size
          go_wp2_with (at_builtin; refine wpList_append_own _ rfl _ _ 62 rfl w.heap.size 29 i0 _ 1 8 Try.underlying62 hi hz0 hz1 hz2 rfl (by decide) _ _ _ rfl (HO1.out.alloc _) ⟨wr.heap.size, 0, none⟩ 1 1 [.int .u64 b] rfl rfl (cells_new _ _ _) (by intro u hu; simp at hu; subst hu; rfl) (by unfold maxLen; omega) (by omega) (by have := hsz.out; simp; omega) ?_; intro v' w1 hown' hgrow _; obtain ⟨ao2, cap2, rfl⟩ := owns_shape hown'; have Y := hid (And.intro hown' (below_appended HB.out hsz.out HO1.out hgrow)); clear hown' hgrow)
          go_roundw
          case rel => exact ⟨L ++ [b], HP, by rw [List.length_append, List.map_append]; exact Y.out.1, Y.out.2⟩
          case measure => simp [lenV]; simp at hP; omega
end Go.Proofs.Ytpnkkdpggofanaa
