/- SpecFires by its walk. -/
import Derived.Test.YtpnkkdpggofanaaSpecBeginsW
import Derived.Test.YtpnkkdpggofanaaCancelLaw
import Derived.Test.YtpnkkdpggofanaaFaultsS
import Derived.Test.YtpnkkdpggofanaaFired
namespace Go.Proofs.Ytpnkkdpggofanaa
open Go.RowKit

theorem no_faults {lr : List Ev} (hp1 : ∀ e ∈ lr, e.kind = 5 → e.tk = e.dl) (hp2 : lr.Pairwise (fun a b => a.kind = 5 → b.kind = 5 → a.id = b.id → a.gen < b.gen)) : faultsTo (firsOf lr) (firsOf lr).length = [] := by
  have hf1 : ∀ f ∈ firsOf lr, f.tk = f.dl := by
    intro f hf
    obtain ⟨e, he, rfl⟩ := List.mem_map.1 hf
    obtain ⟨h1, h2⟩ := List.mem_filter.1 he
    exact hp1 e h1 (by simpa using h2)
  have hf2 : (firsOf lr).Pairwise (fun a b => a.id = b.id → a.gen < b.gen) := by
    unfold firsOf
    rw [List.pairwise_map]
    refine (hp2.filter _).imp_of_mem ?_
    intro a b ha hb h hid
    exact h (by simpa using (List.mem_filter.1 ha).2) (by simpa using (List.mem_filter.1 hb).2) hid
  generalize firsOf lr = f at hf1 hf2
  unfold faultsTo
  rw [List.filter_eq_nil_iff.2]
  · rfl
  · intro i hi
    have hlt : i < f.length := by simpa using hi
    have hbad : badAt f i = (decide (f[i].tk < f[i].dl) || (f.take i).any (fun g => decide ((g.id, g.gen) = (f[i].id, f[i].gen)))) := by simp [badAt, hlt]
    rw [hbad]
    have h1 := hf1 f[i] (List.getElem_mem hlt)
    have h2 : (f.take i).any (fun g => decide ((g.id, g.gen) = (f[i].id, f[i].gen))) = false := by
      rw [List.any_eq_false]
      intro g hg
      obtain ⟨j, hj, rfl⟩ := List.mem_iff_getElem.1 hg
      rw [List.length_take] at hj
      have hjl : j < f.length := by omega
      have hji : j < i := by omega
      have := List.pairwise_iff_getElem.1 hf2 j i hjl hlt hji
      rw [List.getElem_take]
      simp only [Prod.mk.injEq, decide_eq_true_eq, not_and]
      intro he hge
      have := this he
      omega
    rw [h2, h1]
    simp

def MetG (l : List Ev) (k : Nat) (m : List (Int × Int)) : Prop := ∀ q g, aget m q = some g → ∃ i x, i < k ∧ l[i]? = some x ∧ x.id = q ∧ (x.kind = 5 ∨ x.kind = 6) ∧ x.gen = g
theorem MetG.next {l : List Ev} {k : Nat} {m : List (Int × Int)} (h : MetG l k m) : MetG l (k + 1) m := fun q g hq => by
  obtain ⟨i, x, hi, r⟩ := h q g hq
  exact ⟨i, x, by omega, r⟩
theorem MetG.put {l : List Ev} {k : Nat} {m : List (Int × Int)} (h : MetG l k m) (hk : k < l.length) (hkd : l[k].kind = 5 ∨ l[k].kind = 6) : MetG l (k + 1) (aput m l[k].id l[k].gen) := by
  intro q g hq
  rw [aget_put] at hq
  by_cases he : q = l[k].id
  · rw [if_pos he] at hq
    cases hq
    exact ⟨k, l[k], by omega, List.getElem?_eq_getElem hk, he.symm, hkd, rfl⟩
  · rw [if_neg he] at hq
    exact h.next q g hq
theorem u64_zero (w : World) : (zeroValue 29).run Try.prog w = .ok (.int .u64 0) w := by kernel_rfl

set_option maxRecDepth 4000 in
set_option maxHeartbeats 8000000 in
theorem fires_walk (n : Int) (l : List Ev) (ao : Option Addr) (c : Nat) (w : World) (h1 : Reads w (.slice ao l.length c) l.length (l.flatMap evC)) (hwf : ∀ e ∈ l, e.wf) (hcap : l.length ≤ c) (hn1 : l.length ≤ 9223372036854775807) :
    Calls Try.prog 7 #[.int .i64 n, .slice ao l.length c] w fun x w' => x = .returned (.bool true) ∧ Below w.heap.size w w' := by
  have hrd := hid h1
  have HW := hid hwf
  obtain ⟨ao', c', hv, g1⟩ := h1.evs
  simp only [Value.slice.injEq] at hv
  obtain ⟨rfl, _, rfl⟩ := hv
  have H1 := hid g1
  clear h1 hwf g1
  by_cases hbig : 100 < l.length
  · have hbig' : decide (100 < (l.length : Int)) = true := decide_eq_true (by omega)
    go_enter Try.func7, Try.ntmps7
    go_wp2_with (go_at_call 14; refine (alive21_any _).mono ?_; rintro e w1 ⟨rfl, hb1⟩; have HB1 := hid hb1; clear hb1)
    go_ret
    exact ⟨rfl, HB1.out⟩
  have hbig' : decide (100 < (l.length : Int)) = false := decide_eq_false (by omega)
  have hle := playM_le (new n) l
  have hall : All (new n) (l.take (playM (new n) l).2) := by unfold All; rw [playM_take (Nat.le_refl _), List.length_take, Nat.min_eq_left hle]
  have hrt := fun W h => right_any n l ao c W h HW.out (by omega) hcap
  generalize hr : (playM (new n) l).2 = r at *
  have hget : ∀ i, i < r → (l.take r)[i]? = l[i]? := fun i hi => by rw [List.getElem?_take, if_pos hi]
  have LAW := hid (fun (k : Nat) (hk : k < r) => fires_law (n := n) hall (k := k) (b := l[k]) (by rw [hget k hk]; exact List.getElem?_eq_getElem (by omega)))
  have hlr : (l.take r).length = r := by rw [List.length_take, Nat.min_eq_left hle]
  have hff : faultsTo (firsOf (l.take r)) (firsOf (l.take r)).length = [] := by
    refine no_faults ?_ ?_
    · intro e he h5
      obtain ⟨k, hk, rfl⟩ := List.mem_iff_getElem.1 he
      exact (fires_law (n := n) hall (k := k) (List.getElem?_eq_getElem hk) h5).1
    · rw [List.pairwise_iff_getElem]
      intro i j hi hj hij h5 h5' hid
      exact (((fires_law (n := n) hall (k := j) (List.getElem?_eq_getElem hj) h5').2 i _ hij (List.getElem?_eq_getElem hi)) hid).1 h5
  have HFF := hid hff
  have HGET := hid hget
  have hHR := hid hrt
  have hfl := firsOf_len (l.take r)
  rw [hlr] at hfl
  have HTK := hid (fun (W : World) (h : Reads W (.slice ao l.length c) l.length (l.flatMap evC)) => (show Reads W (.slice ao r c) (l.take r).length ((l.take r).flatMap evC) from by rw [hlr]; exact Reads.take h r (by omega)))
  have HFD := hid (fun W h => fired_any (l.take r) (.slice ao r c) W h (by rw [hlr]; omega))
  have HFA := hid (fun v W h => faults_any (firsOf (l.take r)) v W h (by omega))
  have hmm := @run_makeMap Try.prog
  clear hall hrt hr hget hff hlr
  go_enter Try.func7, Try.ntmps7
  go_wp2_with (first
    | (go_at_call 14; refine (alive21_any _).mono ?_; rintro e w1 ⟨rfl, hb1⟩; have HB1 := hid hb1; clear hb1)
    | (go_at_call 15; refine (hHR.out w1 (hrd.out.below HB1.out (Nat.le_refl _))).mono ?_; rintro e w2 ⟨rfl, hb2⟩; have HB2 := hid (HB1.out.trans (hb2.mono HB1.out.size)); clear hb2)
    | (go_at_call 21; refine (HFD.out w2 (HTK.out w2 (hrd.out.below HB2.out (Nat.le_refl _)))).mono ?_; rintro e w3 ⟨v3, rfl, hown, hb3⟩; have HO3 := hid hown; have HB3 := hid (HB2.out.trans (hb3.mono HB2.out.size)); clear hb3 hown)
    | (go_at_call 22; refine (HFA.out v3 w3 (Reads.of_owns HO3.out)).mono ?_; rintro e w4 ⟨v4, rfl, hown4, hb4⟩; rw [HFF.out] at hown4; obtain ⟨bo4, cap4, rfl⟩ := owns_shape hown4; have HB4 := hid (HB3.out.trans (hb4.mono HB3.out.size)); clear hb4 hown4))
  have hbm : w.heap.size ≤ w4.heap.size := HB4.out.size
  have HMA := hid (MapIs.made (enc := Value.int .u64) (encV := Value.int .u64) w4)
  have HBA := hid (HB4.out.alloc hbm (.map #[] 0))
  generalize w4.alloc (.map #[] 0) = w5 at *
  generalize w4.heap.size = bm at *
  go_loopw [8] (fun iv wr => ∃ k : Nat, k ≤ r ∧ iv = .int .i64 k ∧ Below w.heap.size w wr ∧ ∃ m, MapIs (Value.int .u64) (Value.int .u64) wr bm m ∧ MetG l k m) (fun iv _ => r - (intOf iv).toNat)
  case atStart => exact ⟨0, by omega, rfl, HBA.out, [], HMA.out, fun q g h => by simp [aget] at h⟩
  case round =>
    obtain ⟨k, hk, rfl, hb, m, hm, hmet⟩ := hrel
    have HB := hid hb
    have HM := hid hm
    have HMET := hid hmet
    have hlw : w.heap.size ≤ wr.heap.size := hb.size
    clear hb hm hmet
    by_cases hlt : k < r
    · have hlk : k < l.length := by omega
      obtain ⟨b, o, hao, hcp⟩ := H1.out k l[k] (List.getElem?_eq_getElem hlk)
      obtain rfl := hao
      have HCP := hid hcp
      clear hcp
      have p0 : wr.cell? ⟨b, o + k * 10, none⟩ = some (.int .i64 l[k].kind) := (HB.out.cell (World.block_lt_of_cell? _ _ (HCP.out 0 _ rfl))).trans (HCP.out 0 _ rfl)
      have p4 : wr.cell? ⟨b, o + k * 10 + 4, none⟩ = some (.int .u64 l[k].id) := (HB.out.cell (World.block_lt_of_cell? _ _ (HCP.out 4 _ rfl))).trans (HCP.out 4 _ rfl)
      have p5 : wr.cell? ⟨b, o + k * 10 + 5, none⟩ = some (.int .u64 l[k].gen) := (HB.out.cell (World.block_lt_of_cell? _ _ (HCP.out 5 _ rfl))).trans (HCP.out 5 _ rfl)
      have p6 : wr.cell? ⟨b, o + k * 10 + 6, none⟩ = some (.int .u64 l[k].dl) := (HB.out.cell (World.block_lt_of_cell? _ _ (HCP.out 6 _ rfl))).trans (HCP.out 6 _ rfl)
      have p8 : wr.cell? ⟨b, o + k * 10 + 8, none⟩ = some (.int .u64 l[k].tk) := (HB.out.cell (World.block_lt_of_cell? _ _ (HCP.out 8 _ rfl))).trans (HCP.out 8 _ rfl)
      by_cases h6 : l[k].kind = 6
      · have h6' : (l[k].kind == 6) = true := by simp [h6]
        have h5' : (l[k].kind == 5) = false := by simp [h6]
        have MG := hid (HMET.out.put hlk (.inr h6))
        clear h6
        go_wp2
        go_still_tail 11, (by kernel_rfl)
        refine (show wpList _ _ _ _ _ wr.drew from ?_)
        generalize hW6 : wr.drew = w7
        have HM7 := hid (show MapIs (Value.int .u64) (Value.int .u64) w7 bm m from hW6 ▸ HM.out)
        have HB7 := hid (show Below w.heap.size w w7 from hW6 ▸ HB.out.drew); have hlw7 : w.heap.size ≤ w7.heap.size := HB7.out.size
        clear hW6
        clear p0 p4 p5 p6 p8
        go_wp2_with (refine wpList_update _ rfl 48 _ _ _ rfl (keyLaw_int Try.underlying29) Try.underlying48 bm m HM7.out rfl l[k].id rfl l[k].gen rfl ?_; intro w8 hm8 hg8 hs8; have HM8 := hid hm8; have HB8 := hid (HB7.out.grown hg8 HB7.out.size (fun j e => by cases e; exact hbm)); clear hm8 hg8 hs8; have p0 : w8.cell? ⟨b, o + k * 10, none⟩ = some (.int .i64 l[k].kind) := (HB8.out.cell (World.block_lt_of_cell? _ _ (HCP.out 0 _ rfl))).trans (HCP.out 0 _ rfl); have p4 : w8.cell? ⟨b, o + k * 10 + 4, none⟩ = some (.int .u64 l[k].id) := (HB8.out.cell (World.block_lt_of_cell? _ _ (HCP.out 4 _ rfl))).trans (HCP.out 4 _ rfl); have p5 : w8.cell? ⟨b, o + k * 10 + 5, none⟩ = some (.int .u64 l[k].gen) := (HB8.out.cell (World.block_lt_of_cell? _ _ (HCP.out 5 _ rfl))).trans (HCP.out 5 _ rfl); have p6 : w8.cell? ⟨b, o + k * 10 + 6, none⟩ = some (.int .u64 l[k].dl) := (HB8.out.cell (World.block_lt_of_cell? _ _ (HCP.out 6 _ rfl))).trans (HCP.out 6 _ rfl); have p8 : w8.cell? ⟨b, o + k * 10 + 8, none⟩ = some (.int .u64 l[k].tk) := (HB8.out.cell (World.block_lt_of_cell? _ _ (HCP.out 8 _ rfl))).trans (HCP.out 8 _ rfl))
        go_round
        case rel => exact ⟨k + 1, by omega, by go_num, HB8.out, _, HM8.out, MG.out⟩
        case measure => simp [intOf]; omega
      · have h6' : (l[k].kind == 6) = false := by simp [h6]
        clear h6
        by_cases h5 : l[k].kind = 5
        · have h5' : (l[k].kind == 5) = true := by simp [h5]
          have MG := hid (HMET.out.put hlk (.inl h5))
          have law := LAW.out k hlt h5
          have htk : (l[k].tk != l[k].dl) = false := by simp [law.1]
          have hg0 : 0 ≤ l[k].gen := (HW.out _ (List.getElem_mem hlk)).gen.1
          obtain ⟨g, hgd⟩ : ∃ g, Hid ((aget m l[k].id).getD 0 = g) := ⟨_, hid rfl⟩
          have hlg : g ≤ l[k].gen := by
            rw [← hgd.out]
            cases hag : aget m l[k].id with
            | none => exact hg0
            | some g' =>
              obtain ⟨i, x, hik, hx, hxi, hxk, hxg⟩ := HMET.out _ _ hag
              have h0 := law.2 i x hik (by rw [HGET.out i (by omega)]; exact hx) hxi
              show g' ≤ _
              rcases hxk with h | h
              · have := h0.1 h; omega
              · have := h0.2 h; omega
          have hlg' : decide (l[k].gen < g) = false := decide_eq_false (by omega)
          have hl : ∀ n, (Instr.lookup 48 (.map (some bm)) (.int .u64 l[k].id) false).run Try.prog (wr.drewN n) = .ok (.int .u64 g) (wr.drewN n) := by
            intro n
            have := (show MapIs (Value.int .u64) (Value.int .u64) (wr.drewN n) bm m from HM.out).run_lookup (keyLaw_int Try.underlying29) Try.underlying48 u64_zero l[k].id false
            rw [this, ← hgd.out]
            cases aget m l[k].id <;> rfl
          clear h5 law hlg hg0
          go_wp2
          go_quiet (fail)
          clear hl hlg' htk
          generalize hW4 : wr.drewN _ = w6
          have HM6 := hid (show MapIs (Value.int .u64) (Value.int .u64) w6 bm m from hW4 ▸ HM.out)
          have HB6 := hid (show Below w.heap.size w w6 from hW4 ▸ below_drewN HB.out _)
          clear hW4
          replace hlw : w.heap.size ≤ w6.heap.size := HB6.out.size
          replace p0 : w6.cell? ⟨b, o + k * 10, none⟩ = some (.int .i64 l[k].kind) := (HB6.out.cell (World.block_lt_of_cell? _ _ (HCP.out 0 _ rfl))).trans (HCP.out 0 _ rfl)
          replace p4 : w6.cell? ⟨b, o + k * 10 + 4, none⟩ = some (.int .u64 l[k].id) := (HB6.out.cell (World.block_lt_of_cell? _ _ (HCP.out 4 _ rfl))).trans (HCP.out 4 _ rfl)
          replace p5 : w6.cell? ⟨b, o + k * 10 + 5, none⟩ = some (.int .u64 l[k].gen) := (HB6.out.cell (World.block_lt_of_cell? _ _ (HCP.out 5 _ rfl))).trans (HCP.out 5 _ rfl)
          replace p6 : w6.cell? ⟨b, o + k * 10 + 6, none⟩ = some (.int .u64 l[k].dl) := (HB6.out.cell (World.block_lt_of_cell? _ _ (HCP.out 6 _ rfl))).trans (HCP.out 6 _ rfl)
          replace p8 : w6.cell? ⟨b, o + k * 10 + 8, none⟩ = some (.int .u64 l[k].tk) := (HB6.out.cell (World.block_lt_of_cell? _ _ (HCP.out 8 _ rfl))).trans (HCP.out 8 _ rfl)
          go_wp2
          go_still_tail 11, (by kernel_rfl)
          refine (show wpList _ _ _ _ _ w6.drew from ?_)
          generalize hW6 : w6.drew = w7
          have HM7 := hid (show MapIs (Value.int .u64) (Value.int .u64) w7 bm m from hW6 ▸ HM6.out)
          have HB7 := hid (show Below w.heap.size w w7 from hW6 ▸ HB6.out.drew)
          clear hW6
          clear p0 p4 p5 p6 p8
          go_wp2_with (refine wpList_update _ rfl 48 _ _ _ rfl (keyLaw_int Try.underlying29) Try.underlying48 bm m HM7.out rfl l[k].id rfl l[k].gen rfl ?_; intro w8 hm8 hg8 hs8; have HM8 := hid hm8; have HB8 := hid (HB7.out.grown hg8 HB7.out.size (fun j e => by cases e; exact hbm)); clear hm8 hg8 hs8; have p0 : w8.cell? ⟨b, o + k * 10, none⟩ = some (.int .i64 l[k].kind) := (HB8.out.cell (World.block_lt_of_cell? _ _ (HCP.out 0 _ rfl))).trans (HCP.out 0 _ rfl); have p4 : w8.cell? ⟨b, o + k * 10 + 4, none⟩ = some (.int .u64 l[k].id) := (HB8.out.cell (World.block_lt_of_cell? _ _ (HCP.out 4 _ rfl))).trans (HCP.out 4 _ rfl); have p5 : w8.cell? ⟨b, o + k * 10 + 5, none⟩ = some (.int .u64 l[k].gen) := (HB8.out.cell (World.block_lt_of_cell? _ _ (HCP.out 5 _ rfl))).trans (HCP.out 5 _ rfl); have p6 : w8.cell? ⟨b, o + k * 10 + 6, none⟩ = some (.int .u64 l[k].dl) := (HB8.out.cell (World.block_lt_of_cell? _ _ (HCP.out 6 _ rfl))).trans (HCP.out 6 _ rfl); have p8 : w8.cell? ⟨b, o + k * 10 + 8, none⟩ = some (.int .u64 l[k].tk) := (HB8.out.cell (World.block_lt_of_cell? _ _ (HCP.out 8 _ rfl))).trans (HCP.out 8 _ rfl))
          go_round
          case rel => exact ⟨k + 1, by omega, by go_num, HB8.out, _, HM8.out, MG.out⟩
          case measure => simp [intOf]; omega
        · have h5' : (l[k].kind == 5) = false := by simp [h5]
          clear h5
          go_wp2
          go_round
          case rel => exact ⟨k + 1, by omega, by go_num, HB.out, _, HM.out, HMET.out.next⟩
          case measure => simp [intOf]; omega
    · go_wp2
      go_ret
      exact ⟨rfl, HB.out⟩
end Go.Proofs.Ytpnkkdpggofanaa
