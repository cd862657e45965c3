/- SpecRhythm by its walk. -/
import Derived.Test.YtpnkkdpggofanaaSpecBeginsW
import Derived.Test.YtpnkkdpggofanaaRhythmLaw
import Derived.Test.YtpnkkdpggofanaaRhythmS
import Derived.Test.YtpnkkdpggofanaaFired
import Derived.Test.YtpnkkdpggofanaaOrder2
namespace Go.Proofs.Ytpnkkdpggofanaa
open Go.RowKit

def firE (x : Int) (h : List Ev) : List Fir := (ownE x h).map fireOf
theorem firE_len (x : Int) (h : List Ev) : (firE x h).length ≤ h.length := by unfold firE ownE; rw [List.length_map]; exact List.length_filter_le _ _
theorem rhy_of_chain {o : List Ev} {p : Int} (hc : ChainE p o) (hg : ∀ e ∈ o, 0 ≤ e.gen) (hd : ∀ e ∈ o, e.dl ≤ 18446744073709551615) (h0 : 0 < o.length) : rhyTo (o.map fireOf) o[0].dl p (o.map fireOf).length = true := by
  have hdl : ∀ (j : Nat) (h : j < o.length), o[j].dl = o[0].dl + (j : Int) * p := by
    intro j
    induction j with
    | zero => intro h; simp
    | succ j ih =>
      intro h
      have h1 := hc j o[j] o[j + 1] (List.getElem?_eq_getElem (by omega)) (List.getElem?_eq_getElem h)
      rw [h1.1, ih (by omega), rhy_step]
  unfold rhyTo
  rw [List.all_eq_true]
  intro j hj
  have hj : j < (o.map fireOf).length := by simpa using hj
  have hjo : j < o.length := by simpa using hj
  cases j with
  | zero =>
    rw [rhyAt_zero _ _ _ hj (hd _ (List.getElem_mem _))]
    simp [fireOf]
  | succ j =>
    have h1 := hc j o[j] o[j + 1] (List.getElem?_eq_getElem (by omega)) (List.getElem?_eq_getElem hjo)
    have h2 := hdl (j + 1) hjo
    have h3 := hg o[j] (List.getElem_mem _)
    rw [rhyAt_succ _ _ _ _ hj]
    simp only [List.getElem_map, fireOf, Bool.and_eq_true, decide_eq_true_eq]
    rw [Int.natCast_add] at h2
    exact ⟨⟨h2, by rw [show o[0].dl + ((j : Int) + 1) * p = o[j + 1].dl from h2.symm]; exact h1.2.1⟩, by omega, by omega⟩
theorem ownE_take {l : List Ev} {x : Int} {k : Nat} (h : k < l.length) : firE x (l.take (k + 1)) = firE x (l.take k) ++ if l[k].id == x && l[k].kind == 5 then [fireOf l[k]] else [] := by
  unfold firE
  rw [take_snoc_list l k h, ownE_snoc, List.map_append]
  congr 1
  split <;> rfl
theorem rstE_take {l : List Ev} {x : Int} {k : Nat} (h : k < l.length) : rstE x (l.take (k + 1)) = (rstE x (l.take k) || (l[k].id == x && l[k].kind == 6)) := by rw [take_snoc_list l k h, rstE_snoc]
theorem behE_take {l : List Ev} {x : Int} {k : Nat} (h : k < l.length) : behE x (l.take (k + 1)) = behF x (behE x (l.take k)) l[k] := by rw [take_snoc_list l k h, behE_snoc]
theorem behE_le (x : Int) (l : List Ev) (k : Nat) (h : k ≤ l.length) : (behE x (l.take k)).2 ≤ k := by
  induction k with
  | zero => simp [behE]
  | succ k ih =>
    rw [behE_take (by omega)]
    have := ih (by omega)
    unfold behF
    split
    · split
      · show (behE x (l.take k)).2 ≤ k + 1; omega
      · split
        · show (behE x (l.take k)).2 + 1 ≤ k + 1; omega
        · omega
    · omega

set_option maxRecDepth 4000 in
set_option maxHeartbeats 8000000 in
theorem rhythmLaw_walk (n : Int) (l : List Ev) (ao : Option Addr) (c : Nat) (w : World) (h1 : Reads w (.slice ao l.length c) l.length (l.flatMap evC)) (hwf : ∀ e ∈ l, e.wf) (hcap : l.length ≤ c) (hn1 : l.length ≤ 9223372036854775807) :
    Calls Try.prog 6 #[.int .i64 n, .slice ao l.length c] w fun x w' => x = .returned (.bool true) ∧ Below w.heap.size w w' := by
  have hrd := hid h1
  have HW := hid hwf
  obtain ⟨ao', c', hv, g1⟩ := h1.evs
  simp only [Value.slice.injEq] at hv
  obtain ⟨rfl, _, rfl⟩ := hv
  have H1 := hid g1
  clear h1 hwf g1
  by_cases hbig : 100 < l.length
  · have hbig' : decide (100 < (l.length : Int)) = true := decide_eq_true (by omega)
    go_enter Try.func6, Try.ntmps6
    go_wp2_with (go_at_call 14; refine (alive21_any _).mono ?_; rintro e w1 ⟨rfl, hb1⟩; have HB1 := hid hb1; clear hb1)
    go_ret
    exact ⟨rfl, HB1.out⟩
  have hbig' : decide (100 < (l.length : Int)) = false := decide_eq_false (by omega)
  have hle := playM_le (new n) l
  have hall : All (new n) (l.take (playM (new n) l).2) := by unfold All; rw [playM_take (Nat.le_refl _), List.length_take, Nat.min_eq_left hle]
  have hrt := fun W h => right_any n l ao c W h HW.out (by omega) hcap
  generalize hr : (playM (new n) l).2 = r at *
  have LAW := hid (fun (i : Nat) (hi : i < r) => rhythm_law (n := n) hall (a := l[i]) (List.mem_of_getElem? (i := i) (by rw [List.getElem?_take, if_pos hi]; exact List.getElem?_eq_getElem (by omega))))
  have hHR := hid hrt
  obtain ⟨i0, hi0, hz0, hz1, hz2⟩ := info_parts fir_info'
  have HI := hid (And.intro hi0 (And.intro hz0 (And.intro hz1 hz2)))
  clear hall hrt hr hi0 hz0 hz1 hz2
  go_enter Try.func6, Try.ntmps6
  go_wp2_with (first
    | (go_at_call 14; refine (alive21_any _).mono ?_; rintro e w1 ⟨rfl, hb1⟩; have HB1 := hid hb1; clear hb1)
    | (go_at_call 15; refine (hHR.out w1 (hrd.out.below HB1.out (Nat.le_refl _))).mono ?_; rintro e w2 ⟨rfl, hb2⟩; have HB2 := hid (HB1.out.trans (hb2.mono HB1.out.size)); clear hb2))
  go_loopw [6] (fun iv wr => ∃ i : Nat, i ≤ r ∧ iv = .int .i64 i ∧ Below w.heap.size w wr) (fun iv _ => r - (intOf iv).toNat)
  case atStart => exact ⟨0, by omega, rfl, HB2.out⟩
  case round =>
    obtain ⟨i, hi, rfl, hbi⟩ := hrel
    by_cases hlt : i < r
    · have hli : i < l.length := by omega
      obtain ⟨b, o, hao, hcp⟩ := H1.out i l[i] (List.getElem?_eq_getElem hli)
      obtain rfl := hao
      have p0 : wr.cell? ⟨b, o + i * 10, none⟩ = some (.int .i64 l[i].kind) := (hbi.cell (World.block_lt_of_cell? _ _ (hcp 0 _ rfl))).trans (hcp 0 _ rfl)
      have HCP := hid hcp
      have HBI := hid hbi
      clear hcp hbi
      by_cases h3 : l[i].kind = 3
      · have h3' : (l[i].kind != 3) = false := by simp [h3]
        have law := hid (LAW.out i hlt h3)
        clear h3
        go_wp2
        clear p0
        go_loopw [7, 8, 9, 10, 11] (fun own rst beh stp kv wr => ∃ k : Nat, k ≤ r ∧ kv = .int .i64 k ∧ wr.ownsRow w.heap.size 44 4 own (firE l[i].id (l.take k)).length ((firE l[i].id (l.take k)).flatMap firC) ∧ rst = .bool (rstE l[i].id (l.take k)) ∧ beh = .int .i64 ((behE l[i].id (l.take k)).2 : Int) ∧ stp = .bool (behE l[i].id (l.take k)).1 ∧ Below w.heap.size w wr) (fun _ _ _ _ kv _ => r - (intOf kv).toNat)
        case atStart => exact ⟨0, by omega, rfl, by simpa [firE, ownE] using World.ownsRow_nil _ _ _ _, by simp [rstE], by simp [behE], by simp [behE], HBI.out⟩
        case round =>
          obtain ⟨k, hk, rfl, hown0, rfl, rfl, rfl, hbk⟩ := hrel
          by_cases hltk : k < r
          · have hlk : k < l.length := by omega
            obtain ⟨b', o', hao, hcq⟩ := H1.out k l[k] (List.getElem?_eq_getElem hlk)
            simp only [Option.some.injEq, Addr.mk.injEq] at hao
            obtain ⟨rfl, rfl, _⟩ := hao
            have HCQ := hid hcq
            have p4 : wr.cell? ⟨b, o + i * 10 + 4, none⟩ = some (.int .u64 l[i].id) := (hbk.cell (World.block_lt_of_cell? _ _ (HCP.out 4 _ rfl))).trans (HCP.out 4 _ rfl)
            have q0 : wr.cell? ⟨b, o + k * 10, none⟩ = some (.int .i64 l[k].kind) := (hbk.cell (World.block_lt_of_cell? _ _ (HCQ.out 0 _ rfl))).trans (HCQ.out 0 _ rfl)
            have q4 : wr.cell? ⟨b, o + k * 10 + 4, none⟩ = some (.int .u64 l[k].id) := (hbk.cell (World.block_lt_of_cell? _ _ (HCQ.out 4 _ rfl))).trans (HCQ.out 4 _ rfl)
            have q5 : wr.cell? ⟨b, o + k * 10 + 5, none⟩ = some (.int .u64 l[k].gen) := (hbk.cell (World.block_lt_of_cell? _ _ (HCQ.out 5 _ rfl))).trans (HCQ.out 5 _ rfl)
            have q6 : wr.cell? ⟨b, o + k * 10 + 6, none⟩ = some (.int .u64 l[k].dl) := (hbk.cell (World.block_lt_of_cell? _ _ (HCQ.out 6 _ rfl))).trans (HCQ.out 6 _ rfl)
            have q8 : wr.cell? ⟨b, o + k * 10 + 8, none⟩ = some (.int .u64 l[k].tk) := (hbk.cell (World.block_lt_of_cell? _ _ (HCQ.out 8 _ rfl))).trans (HCQ.out 8 _ rfl)
            have HBK := hid hbk
            have HOW := hid hown0
            have hcle := behE_le l[i].id l k (Nat.le_of_lt hlk)
            clear hbk hcq hown0
            by_cases hidd : l[k].id = l[i].id
            · have hidb : (l[k].id == l[i].id) = true := by simp [hidd]
              have hidn : (l[k].id != l[i].id) = false := by simp [hidd]
              clear hidd
              generalize hrs : rstE l[i].id (l.take k) = rs
              generalize hbe : behE l[i].id (l.take k) = be
              rw [hbe] at hcle
              obtain ⟨st, cnt⟩ := be
              have HRS := hid hrs
              have HBE := hid hbe
              have hcl : cnt ≤ k := hcle
              clear hrs hbe hcle
              cases rs
              · cases st
                · by_cases hk5 : l[k].kind = 5
                  · have k5 : (l[k].kind == 5) = true := by simp [hk5]
                    have k6 : (l[k].kind == 6) = false := by simp [hk5]
                    have k8 : (l[k].kind == 8) = false := by simp [hk5]
                    have HR1 := hid (show rstE l[i].id (l.take (k + 1)) = false by rw [rstE_take hlk, HRS.out]; simp [hidb, k6])
                    have HB1k := hid (show behE l[i].id (l.take (k + 1)) = (false, cnt) by rw [behE_take hlk, HBE.out]; unfold behF; simp [hidb, k5, k8])
                    have HO1 := hid (ownE_take (x := l[i].id) hlk)
                    rw [hidb, k5] at HO1
                    clear hk5
                    go_wp2
                    go_quiet (fail)
                    generalize hW4 : wr.drewN _ = w4
                    have hc4 : ∀ a, w4.cell? a = wr.cell? a := fun a => by rw [← hW4]; rfl
                    replace p4 := (hc4 _).trans p4
                    replace q0 := (hc4 _).trans q0
                    replace q4 := (hc4 _).trans q4
                    replace q5 := (hc4 _).trans q5
                    replace q6 := (hc4 _).trans q6
                    replace q8 := (hc4 _).trans q8
                    replace HBK := hid (show Below w.heap.size w w4 from hW4 ▸ below_drewN HBK.out _)
                    replace HOW := hid (show w4.ownsRow w.heap.size 44 4 u7 (firE l[i].id (l.take k)).length ((firE l[i].id (l.take k)).flatMap firC) from (by rw [← hW4]; exact HOW.out))
                    clear hW4 hc4
                    have hsz := HBK.out.size
                    have hfl := firE_len l[i].id (l.take k)
                    rw [List.length_take, Nat.min_eq_left (Nat.le_of_lt hlk)] at hfl
                    obtain ⟨v5, w5, hr5, hown5, hg5, _, _⟩ := run_append_own_at (P := Try.prog) (w4.alloc (.cells (firC (fireOf l[k])).toArray 44)).drew w.heap.size 42 42 44 i0 _ 4 32 Try.underlying42 HI.out.1 HI.out.2.1 HI.out.2.2.1 HI.out.2.2.2 rfl (by decide) u7 _ _ (HOW.out.alloc _).drew ⟨w4.heap.size, 0, none⟩ 1 1 (firC (fireOf l[k])) rfl (cells_new w4 (firC (fireOf l[k])) 44) (firC_one' _) (by unfold maxLen; omega) (by omega) (Nat.le_trans hsz (by simp))
                    obtain ⟨bo5, cap5, rfl⟩ := owns_shape hown5
                    replace hr5 : (Builtin.append_ #[42, 42] 42 #[u7, .slice (some ⟨w4.heap.size, 0, none⟩) 1 1]).run Try.prog (w4.alloc (.cells #[.int .u64 l[k].id, .int .u64 l[k].gen, .int .u64 l[k].dl, .int .u64 l[k].tk] 44)).drew = .ok (.slice bo5 ((firE l[i].id (l.take k)).length + 1) cap5) w5 := hr5
                    have HO5 := hid hown5
                    have HB5 := hid ((((HBK.out.alloc hsz (.cells (firC (fireOf l[k])).toArray 44)).drew).grown hg5 (Nat.le_trans hsz (by simp)) (fun j hj => (HOW.out.lt j hj).1)))
                    clear hown5 hg5
                    go_wp2
                    refine wp_region_held_drew (S := fun W => Below w.heap.size w W) (by kernel_rfl) HBK.out.drew (fun hS => ?_)
                    show wpAnyH _ _ _ _ _ 25 _ _ w4.drew
                    refine wpAnyH_take (i := 0) (v := u7) rfl (by kernel_rfl) (by kernel_rfl) (by kernel_rfl) (fun _ _ _ h => h) (Or.inl ⟨by rfl, fun W hSw => (by go_simp)⟩) hS ?_
                    refine wpAnyH_take (i := 1) (v := .slice (some ⟨b, o, none⟩) r c) rfl (by kernel_rfl) (by kernel_rfl) (by kernel_rfl) (fun _ _ _ h => h) (Or.inl ⟨by rfl, fun W hSw => (by go_simp)⟩) hS ?_
                    refine wpAnyH_take (i := 2) (v := .int .i64 k) rfl (by kernel_rfl) (by kernel_rfl) (by kernel_rfl) (fun _ _ _ h => h) (Or.inl ⟨by rfl, fun W hSw => (by go_simp)⟩) hS ?_
                    refine wpAnyH_take (i := 3) (v := .pointer (some ⟨b, o + k * 10, none⟩)) rfl (by kernel_rfl) (by kernel_rfl) (by kernel_rfl) (fun _ _ _ h => h) (Or.inl ⟨by rfl, fun W hSw => (by go_simp)⟩) hS ?_
                    refine wpAnyH_take (i := 4) (v := .pointer (some ⟨b, o + k * 10 + 4, none⟩)) rfl (by kernel_rfl) (by kernel_rfl) (by kernel_rfl) (fun _ _ _ h => h) (Or.inl ⟨by rfl, fun W hSw => (by go_simp)⟩) hS ?_
                    refine wpAnyH_take (i := 5) (v := .int .u64 l[k].id) rfl (by kernel_rfl) (by kernel_rfl) (by kernel_rfl) (fun _ _ _ h => h) (Or.inl ⟨by rfl, fun W hSw => (by have qq := (hSw.cell (World.block_lt_of_cell? _ _ (HCQ.out 4 _ rfl))).trans (HCQ.out 4 _ rfl); go_simp)⟩) hS ?_
                    refine wpAnyH_take (i := 6) (v := .slice (some ⟨b, o, none⟩) r c) rfl (by kernel_rfl) (by kernel_rfl) (by kernel_rfl) (fun _ _ _ h => h) (Or.inl ⟨by rfl, fun W hSw => (by go_simp)⟩) hS ?_
                    refine wpAnyH_take (i := 7) (v := .int .i64 k) rfl (by kernel_rfl) (by kernel_rfl) (by kernel_rfl) (fun _ _ _ h => h) (Or.inl ⟨by rfl, fun W hSw => (by go_simp)⟩) hS ?_
                    refine wpAnyH_take (i := 8) (v := .pointer (some ⟨b, o + k * 10, none⟩)) rfl (by kernel_rfl) (by kernel_rfl) (by kernel_rfl) (fun _ _ _ h => h) (Or.inl ⟨by rfl, fun W hSw => (by go_simp)⟩) hS ?_
                    refine wpAnyH_take (i := 9) (v := .pointer (some ⟨b, o + k * 10 + 5, none⟩)) rfl (by kernel_rfl) (by kernel_rfl) (by kernel_rfl) (fun _ _ _ h => h) (Or.inl ⟨by rfl, fun W hSw => (by go_simp)⟩) hS ?_
                    refine wpAnyH_take (i := 10) (v := .int .u64 l[k].gen) rfl (by kernel_rfl) (by kernel_rfl) (by kernel_rfl) (fun _ _ _ h => h) (Or.inl ⟨by rfl, fun W hSw => (by have qq := (hSw.cell (World.block_lt_of_cell? _ _ (HCQ.out 5 _ rfl))).trans (HCQ.out 5 _ rfl); go_simp)⟩) hS ?_
                    refine wpAnyH_take (i := 11) (v := .slice (some ⟨b, o, none⟩) r c) rfl (by kernel_rfl) (by kernel_rfl) (by kernel_rfl) (fun _ _ _ h => h) (Or.inl ⟨by rfl, fun W hSw => (by go_simp)⟩) hS ?_
                    refine wpAnyH_take (i := 12) (v := .int .i64 k) rfl (by kernel_rfl) (by kernel_rfl) (by kernel_rfl) (fun _ _ _ h => h) (Or.inl ⟨by rfl, fun W hSw => (by go_simp)⟩) hS ?_
                    refine wpAnyH_take (i := 13) (v := .pointer (some ⟨b, o + k * 10, none⟩)) rfl (by kernel_rfl) (by kernel_rfl) (by kernel_rfl) (fun _ _ _ h => h) (Or.inl ⟨by rfl, fun W hSw => (by go_simp)⟩) hS ?_
                    refine wpAnyH_take (i := 14) (v := .pointer (some ⟨b, o + k * 10 + 6, none⟩)) rfl (by kernel_rfl) (by kernel_rfl) (by kernel_rfl) (fun _ _ _ h => h) (Or.inl ⟨by rfl, fun W hSw => (by go_simp)⟩) hS ?_
                    refine wpAnyH_take (i := 15) (v := .int .u64 l[k].dl) rfl (by kernel_rfl) (by kernel_rfl) (by kernel_rfl) (fun _ _ _ h => h) (Or.inl ⟨by rfl, fun W hSw => (by have qq := (hSw.cell (World.block_lt_of_cell? _ _ (HCQ.out 6 _ rfl))).trans (HCQ.out 6 _ rfl); go_simp)⟩) hS ?_
                    refine wpAnyH_take (i := 16) (v := .slice (some ⟨b, o, none⟩) r c) rfl (by kernel_rfl) (by kernel_rfl) (by kernel_rfl) (fun _ _ _ h => h) (Or.inl ⟨by rfl, fun W hSw => (by go_simp)⟩) hS ?_
                    refine wpAnyH_take (i := 17) (v := .int .i64 k) rfl (by kernel_rfl) (by kernel_rfl) (by kernel_rfl) (fun _ _ _ h => h) (Or.inl ⟨by rfl, fun W hSw => (by go_simp)⟩) hS ?_
                    refine wpAnyH_take (i := 18) (v := .pointer (some ⟨b, o + k * 10, none⟩)) rfl (by kernel_rfl) (by kernel_rfl) (by kernel_rfl) (fun _ _ _ h => h) (Or.inl ⟨by rfl, fun W hSw => (by go_simp)⟩) hS ?_
                    refine wpAnyH_take (i := 19) (v := .pointer (some ⟨b, o + k * 10 + 8, none⟩)) rfl (by kernel_rfl) (by kernel_rfl) (by kernel_rfl) (fun _ _ _ h => h) (Or.inl ⟨by rfl, fun W hSw => (by go_simp)⟩) hS ?_
                    refine wpAnyH_take (i := 20) (v := .int .u64 l[k].tk) rfl (by kernel_rfl) (by kernel_rfl) (by kernel_rfl) (fun _ _ _ h => h) (Or.inl ⟨by rfl, fun W hSw => (by have qq := (hSw.cell (World.block_lt_of_cell? _ _ (HCQ.out 8 _ rfl))).trans (HCQ.out 8 _ rfl); go_simp)⟩) hS ?_
                    refine wpAnyH_take (i := 21) (v := .agg #[.int .u64 l[k].id, .int .u64 l[k].gen, .int .u64 l[k].dl, .int .u64 l[k].tk]) rfl (by kernel_rfl) (by kernel_rfl) (by kernel_rfl) (fun _ _ _ h => h) (Or.inl ⟨by rfl, fun W hSw => (by go_simp)⟩) hS ?_
                    refine wpAnyH_one (k := 22) (by kernel_rfl) rfl (fun K hK => ?_)
                    go_simp
                    refine hK.out _ _ (HBK.out.drew.alloc hsz _) ?_
                    clear hK K
                    refine wpAnyH_append (k := 23) (by kernel_rfl) rfl rfl rfl rfl rfl hr5 HB5.out ?_
                    refine wpAnyH_one (k := 24) (by kernel_rfl) rfl (fun K hK => ?_)
                    go_simp
                    refine hK.out _ _ HB5.out ?_
                    clear hK K
                    refine wpAnyH_done (by kernel_rfl) ?_ _
                    go_wp2
                    go_round
                    case rel => exact ⟨k + 1, by omega, by go_num, by rw [HO1.out]; simpa using HO5.out, by rw [HR1.out], by first | (rw [HB1k.out]; done) | (rw [HB1k.out]; go_num), by rw [HB1k.out], HB5.out⟩
                    case measure => simp [intOf]; omega
                  · by_cases hk6 : l[k].kind = 6
                    · clear hk5
                      have k5 : (l[k].kind == 5) = false := by simp [hk6]
                      have k6 : (l[k].kind == 6) = true := by simp [hk6]
                      have k8 : (l[k].kind == 8) = false := by simp [hk6]
                      have HR1 := hid (show rstE l[i].id (l.take (k + 1)) = true by rw [rstE_take hlk, HRS.out]; simp [hidb, k6])
                      have HB1k := hid (show behE l[i].id (l.take (k + 1)) = (false, cnt) by rw [behE_take hlk, HBE.out]; unfold behF; simp [hidb, k5, k8])
                      have HO1 := hid (ownE_take (x := l[i].id) hlk)
                      rw [hidb, k5] at HO1
                      clear hk6
                      go_wp2
                      go_quiet (fail)
                      generalize hW4 : wr.drewN _ = w4
                      have hc4 : ∀ a, w4.cell? a = wr.cell? a := fun a => by rw [← hW4]; rfl
                      replace p4 := (hc4 _).trans p4
                      replace q0 := (hc4 _).trans q0
                      replace q4 := (hc4 _).trans q4
                      replace q5 := (hc4 _).trans q5
                      replace q6 := (hc4 _).trans q6
                      replace q8 := (hc4 _).trans q8
                      replace HBK := hid (show Below w.heap.size w w4 from hW4 ▸ below_drewN HBK.out _)
                      replace HOW := hid (show w4.ownsRow w.heap.size 44 4 u7 (firE l[i].id (l.take k)).length ((firE l[i].id (l.take k)).flatMap firC) from (by rw [← hW4]; exact HOW.out))
                      clear hW4 hc4
                      go_wp2
                      go_round
                      case rel => exact ⟨k + 1, by omega, by go_num, by rw [HO1.out]; simpa using HOW.out, by rw [HR1.out], by first | (rw [HB1k.out]; done) | (rw [HB1k.out]; go_num), by rw [HB1k.out], HBK.out⟩
                      case measure => simp [intOf]; omega
                    · by_cases hk8 : l[k].kind = 8
                      · clear hk5 hk6
                        have k5 : (l[k].kind == 5) = false := by simp [hk8]
                        have k6 : (l[k].kind == 6) = false := by simp [hk8]
                        have k8 : (l[k].kind == 8) = true := by simp [hk8]
                        have HR1 := hid (show rstE l[i].id (l.take (k + 1)) = false by rw [rstE_take hlk, HRS.out]; simp [hidb, k6])
                        have HB1k := hid (show behE l[i].id (l.take (k + 1)) = (true, cnt) by rw [behE_take hlk, HBE.out]; unfold behF; simp [hidb, k5, k8])
                        have HO1 := hid (ownE_take (x := l[i].id) hlk)
                        rw [hidb, k5] at HO1
                        clear hk8
                        go_wp2
                        go_quiet (fail)
                        generalize hW4 : wr.drewN _ = w4
                        have hc4 : ∀ a, w4.cell? a = wr.cell? a := fun a => by rw [← hW4]; rfl
                        replace p4 := (hc4 _).trans p4
                        replace q0 := (hc4 _).trans q0
                        replace q4 := (hc4 _).trans q4
                        replace q5 := (hc4 _).trans q5
                        replace q6 := (hc4 _).trans q6
                        replace q8 := (hc4 _).trans q8
                        replace HBK := hid (show Below w.heap.size w w4 from hW4 ▸ below_drewN HBK.out _)
                        replace HOW := hid (show w4.ownsRow w.heap.size 44 4 u7 (firE l[i].id (l.take k)).length ((firE l[i].id (l.take k)).flatMap firC) from (by rw [← hW4]; exact HOW.out))
                        clear hW4 hc4
                        go_wp2
                        go_round
                        case rel => exact ⟨k + 1, by omega, by go_num, by rw [HO1.out]; simpa using HOW.out, by rw [HR1.out], by first | (rw [HB1k.out]; done) | (rw [HB1k.out]; go_num), by rw [HB1k.out], HBK.out⟩
                        case measure => simp [intOf]; omega
                      · have k5 : (l[k].kind == 5) = false := by simp [hk5]
                        have k6 : (l[k].kind == 6) = false := by simp [hk6]
                        have k8 : (l[k].kind == 8) = false := by simp [hk8]
                        have HR1 := hid (show rstE l[i].id (l.take (k + 1)) = false by rw [rstE_take hlk, HRS.out]; simp [hidb, k6])
                        have HB1k := hid (show behE l[i].id (l.take (k + 1)) = (false, cnt) by rw [behE_take hlk, HBE.out]; unfold behF; simp [hidb, k5, k8])
                        have HO1 := hid (ownE_take (x := l[i].id) hlk)
                        rw [hidb, k5] at HO1
                        clear hk5 hk6 hk8
                        go_wp2
                        go_quiet (fail)
                        generalize hW4 : wr.drewN _ = w4
                        have hc4 : ∀ a, w4.cell? a = wr.cell? a := fun a => by rw [← hW4]; rfl
                        replace p4 := (hc4 _).trans p4
                        replace q0 := (hc4 _).trans q0
                        replace q4 := (hc4 _).trans q4
                        replace q5 := (hc4 _).trans q5
                        replace q6 := (hc4 _).trans q6
                        replace q8 := (hc4 _).trans q8
                        replace HBK := hid (show Below w.heap.size w w4 from hW4 ▸ below_drewN HBK.out _)
                        replace HOW := hid (show w4.ownsRow w.heap.size 44 4 u7 (firE l[i].id (l.take k)).length ((firE l[i].id (l.take k)).flatMap firC) from (by rw [← hW4]; exact HOW.out))
                        clear hW4 hc4
                        go_wp2
                        go_round
                        case rel => exact ⟨k + 1, by omega, by go_num, by rw [HO1.out]; simpa using HOW.out, by rw [HR1.out], by first | (rw [HB1k.out]; done) | (rw [HB1k.out]; go_num), by rw [HB1k.out], HBK.out⟩
                        case measure => simp [intOf]; omega
                · by_cases hk5 : l[k].kind = 5
                  · have k5 : (l[k].kind == 5) = true := by simp [hk5]
                    have k6 : (l[k].kind == 6) = false := by simp [hk5]
                    have k8 : (l[k].kind == 8) = false := by simp [hk5]
                    have HR1 := hid (show rstE l[i].id (l.take (k + 1)) = false by rw [rstE_take hlk, HRS.out]; simp [hidb, k6])
                    have HB1k := hid (show behE l[i].id (l.take (k + 1)) = (true, cnt + 1) by rw [behE_take hlk, HBE.out]; unfold behF; simp [hidb, k5, k8])
                    have HO1 := hid (ownE_take (x := l[i].id) hlk)
                    rw [hidb, k5] at HO1
                    clear hk5
                    go_wp2
                    go_quiet (fail)
                    generalize hW4 : wr.drewN _ = w4
                    have hc4 : ∀ a, w4.cell? a = wr.cell? a := fun a => by rw [← hW4]; rfl
                    replace p4 := (hc4 _).trans p4
                    replace q0 := (hc4 _).trans q0
                    replace q4 := (hc4 _).trans q4
                    replace q5 := (hc4 _).trans q5
                    replace q6 := (hc4 _).trans q6
                    replace q8 := (hc4 _).trans q8
                    replace HBK := hid (show Below w.heap.size w w4 from hW4 ▸ below_drewN HBK.out _)
                    replace HOW := hid (show w4.ownsRow w.heap.size 44 4 u7 (firE l[i].id (l.take k)).length ((firE l[i].id (l.take k)).flatMap firC) from (by rw [← hW4]; exact HOW.out))
                    clear hW4 hc4
                    have hsz := HBK.out.size
                    have hfl := firE_len l[i].id (l.take k)
                    rw [List.length_take, Nat.min_eq_left (Nat.le_of_lt hlk)] at hfl
                    obtain ⟨v5, w5, hr5, hown5, hg5, _, _⟩ := run_append_own_at (P := Try.prog) (w4.alloc (.cells (firC (fireOf l[k])).toArray 44)).drew w.heap.size 42 42 44 i0 _ 4 32 Try.underlying42 HI.out.1 HI.out.2.1 HI.out.2.2.1 HI.out.2.2.2 rfl (by decide) u7 _ _ (HOW.out.alloc _).drew ⟨w4.heap.size, 0, none⟩ 1 1 (firC (fireOf l[k])) rfl (cells_new w4 (firC (fireOf l[k])) 44) (firC_one' _) (by unfold maxLen; omega) (by omega) (Nat.le_trans hsz (by simp))
                    obtain ⟨bo5, cap5, rfl⟩ := owns_shape hown5
                    replace hr5 : (Builtin.append_ #[42, 42] 42 #[u7, .slice (some ⟨w4.heap.size, 0, none⟩) 1 1]).run Try.prog (w4.alloc (.cells #[.int .u64 l[k].id, .int .u64 l[k].gen, .int .u64 l[k].dl, .int .u64 l[k].tk] 44)).drew = .ok (.slice bo5 ((firE l[i].id (l.take k)).length + 1) cap5) w5 := hr5
                    have HO5 := hid hown5
                    have HB5 := hid ((((HBK.out.alloc hsz (.cells (firC (fireOf l[k])).toArray 44)).drew).grown hg5 (Nat.le_trans hsz (by simp)) (fun j hj => (HOW.out.lt j hj).1)))
                    clear hown5 hg5
                    go_wp2
                    refine wp_region_held_drew (S := fun W => Below w.heap.size w W) (by kernel_rfl) HBK.out.drew (fun hS => ?_)
                    show wpAnyH _ _ _ _ _ 25 _ _ w4.drew
                    refine wpAnyH_take (i := 0) (v := u7) rfl (by kernel_rfl) (by kernel_rfl) (by kernel_rfl) (fun _ _ _ h => h) (Or.inl ⟨by rfl, fun W hSw => (by go_simp)⟩) hS ?_
                    refine wpAnyH_take (i := 1) (v := .slice (some ⟨b, o, none⟩) r c) rfl (by kernel_rfl) (by kernel_rfl) (by kernel_rfl) (fun _ _ _ h => h) (Or.inl ⟨by rfl, fun W hSw => (by go_simp)⟩) hS ?_
                    refine wpAnyH_take (i := 2) (v := .int .i64 k) rfl (by kernel_rfl) (by kernel_rfl) (by kernel_rfl) (fun _ _ _ h => h) (Or.inl ⟨by rfl, fun W hSw => (by go_simp)⟩) hS ?_
                    refine wpAnyH_take (i := 3) (v := .pointer (some ⟨b, o + k * 10, none⟩)) rfl (by kernel_rfl) (by kernel_rfl) (by kernel_rfl) (fun _ _ _ h => h) (Or.inl ⟨by rfl, fun W hSw => (by go_simp)⟩) hS ?_
                    refine wpAnyH_take (i := 4) (v := .pointer (some ⟨b, o + k * 10 + 4, none⟩)) rfl (by kernel_rfl) (by kernel_rfl) (by kernel_rfl) (fun _ _ _ h => h) (Or.inl ⟨by rfl, fun W hSw => (by go_simp)⟩) hS ?_
                    refine wpAnyH_take (i := 5) (v := .int .u64 l[k].id) rfl (by kernel_rfl) (by kernel_rfl) (by kernel_rfl) (fun _ _ _ h => h) (Or.inl ⟨by rfl, fun W hSw => (by have qq := (hSw.cell (World.block_lt_of_cell? _ _ (HCQ.out 4 _ rfl))).trans (HCQ.out 4 _ rfl); go_simp)⟩) hS ?_
                    refine wpAnyH_take (i := 6) (v := .slice (some ⟨b, o, none⟩) r c) rfl (by kernel_rfl) (by kernel_rfl) (by kernel_rfl) (fun _ _ _ h => h) (Or.inl ⟨by rfl, fun W hSw => (by go_simp)⟩) hS ?_
                    refine wpAnyH_take (i := 7) (v := .int .i64 k) rfl (by kernel_rfl) (by kernel_rfl) (by kernel_rfl) (fun _ _ _ h => h) (Or.inl ⟨by rfl, fun W hSw => (by go_simp)⟩) hS ?_
                    refine wpAnyH_take (i := 8) (v := .pointer (some ⟨b, o + k * 10, none⟩)) rfl (by kernel_rfl) (by kernel_rfl) (by kernel_rfl) (fun _ _ _ h => h) (Or.inl ⟨by rfl, fun W hSw => (by go_simp)⟩) hS ?_
                    refine wpAnyH_take (i := 9) (v := .pointer (some ⟨b, o + k * 10 + 5, none⟩)) rfl (by kernel_rfl) (by kernel_rfl) (by kernel_rfl) (fun _ _ _ h => h) (Or.inl ⟨by rfl, fun W hSw => (by go_simp)⟩) hS ?_
                    refine wpAnyH_take (i := 10) (v := .int .u64 l[k].gen) rfl (by kernel_rfl) (by kernel_rfl) (by kernel_rfl) (fun _ _ _ h => h) (Or.inl ⟨by rfl, fun W hSw => (by have qq := (hSw.cell (World.block_lt_of_cell? _ _ (HCQ.out 5 _ rfl))).trans (HCQ.out 5 _ rfl); go_simp)⟩) hS ?_
                    refine wpAnyH_take (i := 11) (v := .slice (some ⟨b, o, none⟩) r c) rfl (by kernel_rfl) (by kernel_rfl) (by kernel_rfl) (fun _ _ _ h => h) (Or.inl ⟨by rfl, fun W hSw => (by go_simp)⟩) hS ?_
                    refine wpAnyH_take (i := 12) (v := .int .i64 k) rfl (by kernel_rfl) (by kernel_rfl) (by kernel_rfl) (fun _ _ _ h => h) (Or.inl ⟨by rfl, fun W hSw => (by go_simp)⟩) hS ?_
                    refine wpAnyH_take (i := 13) (v := .pointer (some ⟨b, o + k * 10, none⟩)) rfl (by kernel_rfl) (by kernel_rfl) (by kernel_rfl) (fun _ _ _ h => h) (Or.inl ⟨by rfl, fun W hSw => (by go_simp)⟩) hS ?_
                    refine wpAnyH_take (i := 14) (v := .pointer (some ⟨b, o + k * 10 + 6, none⟩)) rfl (by kernel_rfl) (by kernel_rfl) (by kernel_rfl) (fun _ _ _ h => h) (Or.inl ⟨by rfl, fun W hSw => (by go_simp)⟩) hS ?_
                    refine wpAnyH_take (i := 15) (v := .int .u64 l[k].dl) rfl (by kernel_rfl) (by kernel_rfl) (by kernel_rfl) (fun _ _ _ h => h) (Or.inl ⟨by rfl, fun W hSw => (by have qq := (hSw.cell (World.block_lt_of_cell? _ _ (HCQ.out 6 _ rfl))).trans (HCQ.out 6 _ rfl); go_simp)⟩) hS ?_
                    refine wpAnyH_take (i := 16) (v := .slice (some ⟨b, o, none⟩) r c) rfl (by kernel_rfl) (by kernel_rfl) (by kernel_rfl) (fun _ _ _ h => h) (Or.inl ⟨by rfl, fun W hSw => (by go_simp)⟩) hS ?_
                    refine wpAnyH_take (i := 17) (v := .int .i64 k) rfl (by kernel_rfl) (by kernel_rfl) (by kernel_rfl) (fun _ _ _ h => h) (Or.inl ⟨by rfl, fun W hSw => (by go_simp)⟩) hS ?_
                    refine wpAnyH_take (i := 18) (v := .pointer (some ⟨b, o + k * 10, none⟩)) rfl (by kernel_rfl) (by kernel_rfl) (by kernel_rfl) (fun _ _ _ h => h) (Or.inl ⟨by rfl, fun W hSw => (by go_simp)⟩) hS ?_
                    refine wpAnyH_take (i := 19) (v := .pointer (some ⟨b, o + k * 10 + 8, none⟩)) rfl (by kernel_rfl) (by kernel_rfl) (by kernel_rfl) (fun _ _ _ h => h) (Or.inl ⟨by rfl, fun W hSw => (by go_simp)⟩) hS ?_
                    refine wpAnyH_take (i := 20) (v := .int .u64 l[k].tk) rfl (by kernel_rfl) (by kernel_rfl) (by kernel_rfl) (fun _ _ _ h => h) (Or.inl ⟨by rfl, fun W hSw => (by have qq := (hSw.cell (World.block_lt_of_cell? _ _ (HCQ.out 8 _ rfl))).trans (HCQ.out 8 _ rfl); go_simp)⟩) hS ?_
                    refine wpAnyH_take (i := 21) (v := .agg #[.int .u64 l[k].id, .int .u64 l[k].gen, .int .u64 l[k].dl, .int .u64 l[k].tk]) rfl (by kernel_rfl) (by kernel_rfl) (by kernel_rfl) (fun _ _ _ h => h) (Or.inl ⟨by rfl, fun W hSw => (by go_simp)⟩) hS ?_
                    refine wpAnyH_one (k := 22) (by kernel_rfl) rfl (fun K hK => ?_)
                    go_simp
                    refine hK.out _ _ (HBK.out.drew.alloc hsz _) ?_
                    clear hK K
                    refine wpAnyH_append (k := 23) (by kernel_rfl) rfl rfl rfl rfl rfl hr5 HB5.out ?_
                    refine wpAnyH_one (k := 24) (by kernel_rfl) rfl (fun K hK => ?_)
                    go_simp
                    refine hK.out _ _ HB5.out ?_
                    clear hK K
                    refine wpAnyH_done (by kernel_rfl) ?_ _
                    go_wp2
                    go_round
                    case rel => exact ⟨k + 1, by omega, by go_num, by rw [HO1.out]; simpa using HO5.out, by rw [HR1.out], by first | (rw [HB1k.out]; done) | (rw [HB1k.out]; go_num), by rw [HB1k.out], HB5.out⟩
                    case measure => simp [intOf]; omega
                  · by_cases hk6 : l[k].kind = 6
                    · clear hk5
                      have k5 : (l[k].kind == 5) = false := by simp [hk6]
                      have k6 : (l[k].kind == 6) = true := by simp [hk6]
                      have k8 : (l[k].kind == 8) = false := by simp [hk6]
                      have HR1 := hid (show rstE l[i].id (l.take (k + 1)) = true by rw [rstE_take hlk, HRS.out]; simp [hidb, k6])
                      have HB1k := hid (show behE l[i].id (l.take (k + 1)) = (true, cnt) by rw [behE_take hlk, HBE.out]; unfold behF; simp [hidb, k5, k8])
                      have HO1 := hid (ownE_take (x := l[i].id) hlk)
                      rw [hidb, k5] at HO1
                      clear hk6
                      go_wp2
                      go_quiet (fail)
                      generalize hW4 : wr.drewN _ = w4
                      have hc4 : ∀ a, w4.cell? a = wr.cell? a := fun a => by rw [← hW4]; rfl
                      replace p4 := (hc4 _).trans p4
                      replace q0 := (hc4 _).trans q0
                      replace q4 := (hc4 _).trans q4
                      replace q5 := (hc4 _).trans q5
                      replace q6 := (hc4 _).trans q6
                      replace q8 := (hc4 _).trans q8
                      replace HBK := hid (show Below w.heap.size w w4 from hW4 ▸ below_drewN HBK.out _)
                      replace HOW := hid (show w4.ownsRow w.heap.size 44 4 u7 (firE l[i].id (l.take k)).length ((firE l[i].id (l.take k)).flatMap firC) from (by rw [← hW4]; exact HOW.out))
                      clear hW4 hc4
                      go_wp2
                      go_round
                      case rel => exact ⟨k + 1, by omega, by go_num, by rw [HO1.out]; simpa using HOW.out, by rw [HR1.out], by first | (rw [HB1k.out]; done) | (rw [HB1k.out]; go_num), by rw [HB1k.out], HBK.out⟩
                      case measure => simp [intOf]; omega
                    · by_cases hk8 : l[k].kind = 8
                      · clear hk5 hk6
                        have k5 : (l[k].kind == 5) = false := by simp [hk8]
                        have k6 : (l[k].kind == 6) = false := by simp [hk8]
                        have k8 : (l[k].kind == 8) = true := by simp [hk8]
                        have HR1 := hid (show rstE l[i].id (l.take (k + 1)) = false by rw [rstE_take hlk, HRS.out]; simp [hidb, k6])
                        have HB1k := hid (show behE l[i].id (l.take (k + 1)) = (true, cnt) by rw [behE_take hlk, HBE.out]; unfold behF; simp [hidb, k5, k8])
                        have HO1 := hid (ownE_take (x := l[i].id) hlk)
                        rw [hidb, k5] at HO1
                        clear hk8
                        go_wp2
                        go_quiet (fail)
                        generalize hW4 : wr.drewN _ = w4
                        have hc4 : ∀ a, w4.cell? a = wr.cell? a := fun a => by rw [← hW4]; rfl
                        replace p4 := (hc4 _).trans p4
                        replace q0 := (hc4 _).trans q0
                        replace q4 := (hc4 _).trans q4
                        replace q5 := (hc4 _).trans q5
                        replace q6 := (hc4 _).trans q6
                        replace q8 := (hc4 _).trans q8
                        replace HBK := hid (show Below w.heap.size w w4 from hW4 ▸ below_drewN HBK.out _)
                        replace HOW := hid (show w4.ownsRow w.heap.size 44 4 u7 (firE l[i].id (l.take k)).length ((firE l[i].id (l.take k)).flatMap firC) from (by rw [← hW4]; exact HOW.out))
                        clear hW4 hc4
                        go_wp2
                        go_round
                        case rel => exact ⟨k + 1, by omega, by go_num, by rw [HO1.out]; simpa using HOW.out, by rw [HR1.out], by first | (rw [HB1k.out]; done) | (rw [HB1k.out]; go_num), by rw [HB1k.out], HBK.out⟩
                        case measure => simp [intOf]; omega
                      · have k5 : (l[k].kind == 5) = false := by simp [hk5]
                        have k6 : (l[k].kind == 6) = false := by simp [hk6]
                        have k8 : (l[k].kind == 8) = false := by simp [hk8]
                        have HR1 := hid (show rstE l[i].id (l.take (k + 1)) = false by rw [rstE_take hlk, HRS.out]; simp [hidb, k6])
                        have HB1k := hid (show behE l[i].id (l.take (k + 1)) = (true, cnt) by rw [behE_take hlk, HBE.out]; unfold behF; simp [hidb, k5, k8])
                        have HO1 := hid (ownE_take (x := l[i].id) hlk)
                        rw [hidb, k5] at HO1
                        clear hk5 hk6 hk8
                        go_wp2
                        go_quiet (fail)
                        generalize hW4 : wr.drewN _ = w4
                        have hc4 : ∀ a, w4.cell? a = wr.cell? a := fun a => by rw [← hW4]; rfl
                        replace p4 := (hc4 _).trans p4
                        replace q0 := (hc4 _).trans q0
                        replace q4 := (hc4 _).trans q4
                        replace q5 := (hc4 _).trans q5
                        replace q6 := (hc4 _).trans q6
                        replace q8 := (hc4 _).trans q8
                        replace HBK := hid (show Below w.heap.size w w4 from hW4 ▸ below_drewN HBK.out _)
                        replace HOW := hid (show w4.ownsRow w.heap.size 44 4 u7 (firE l[i].id (l.take k)).length ((firE l[i].id (l.take k)).flatMap firC) from (by rw [← hW4]; exact HOW.out))
                        clear hW4 hc4
                        go_wp2
                        go_round
                        case rel => exact ⟨k + 1, by omega, by go_num, by rw [HO1.out]; simpa using HOW.out, by rw [HR1.out], by first | (rw [HB1k.out]; done) | (rw [HB1k.out]; go_num), by rw [HB1k.out], HBK.out⟩
                        case measure => simp [intOf]; omega
              · cases st
                · by_cases hk5 : l[k].kind = 5
                  · have k5 : (l[k].kind == 5) = true := by simp [hk5]
                    have k6 : (l[k].kind == 6) = false := by simp [hk5]
                    have k8 : (l[k].kind == 8) = false := by simp [hk5]
                    have HR1 := hid (show rstE l[i].id (l.take (k + 1)) = true by rw [rstE_take hlk, HRS.out]; simp [hidb, k6])
                    have HB1k := hid (show behE l[i].id (l.take (k + 1)) = (false, cnt) by rw [behE_take hlk, HBE.out]; unfold behF; simp [hidb, k5, k8])
                    have HO1 := hid (ownE_take (x := l[i].id) hlk)
                    rw [hidb, k5] at HO1
                    clear hk5
                    go_wp2
                    go_quiet (fail)
                    generalize hW4 : wr.drewN _ = w4
                    have hc4 : ∀ a, w4.cell? a = wr.cell? a := fun a => by rw [← hW4]; rfl
                    replace p4 := (hc4 _).trans p4
                    replace q0 := (hc4 _).trans q0
                    replace q4 := (hc4 _).trans q4
                    replace q5 := (hc4 _).trans q5
                    replace q6 := (hc4 _).trans q6
                    replace q8 := (hc4 _).trans q8
                    replace HBK := hid (show Below w.heap.size w w4 from hW4 ▸ below_drewN HBK.out _)
                    replace HOW := hid (show w4.ownsRow w.heap.size 44 4 u7 (firE l[i].id (l.take k)).length ((firE l[i].id (l.take k)).flatMap firC) from (by rw [← hW4]; exact HOW.out))
                    clear hW4 hc4
                    have hsz := HBK.out.size
                    have hfl := firE_len l[i].id (l.take k)
                    rw [List.length_take, Nat.min_eq_left (Nat.le_of_lt hlk)] at hfl
                    obtain ⟨v5, w5, hr5, hown5, hg5, _, _⟩ := run_append_own_at (P := Try.prog) (w4.alloc (.cells (firC (fireOf l[k])).toArray 44)).drew w.heap.size 42 42 44 i0 _ 4 32 Try.underlying42 HI.out.1 HI.out.2.1 HI.out.2.2.1 HI.out.2.2.2 rfl (by decide) u7 _ _ (HOW.out.alloc _).drew ⟨w4.heap.size, 0, none⟩ 1 1 (firC (fireOf l[k])) rfl (cells_new w4 (firC (fireOf l[k])) 44) (firC_one' _) (by unfold maxLen; omega) (by omega) (Nat.le_trans hsz (by simp))
                    obtain ⟨bo5, cap5, rfl⟩ := owns_shape hown5
                    replace hr5 : (Builtin.append_ #[42, 42] 42 #[u7, .slice (some ⟨w4.heap.size, 0, none⟩) 1 1]).run Try.prog (w4.alloc (.cells #[.int .u64 l[k].id, .int .u64 l[k].gen, .int .u64 l[k].dl, .int .u64 l[k].tk] 44)).drew = .ok (.slice bo5 ((firE l[i].id (l.take k)).length + 1) cap5) w5 := hr5
                    have HO5 := hid hown5
                    have HB5 := hid ((((HBK.out.alloc hsz (.cells (firC (fireOf l[k])).toArray 44)).drew).grown hg5 (Nat.le_trans hsz (by simp)) (fun j hj => (HOW.out.lt j hj).1)))
                    clear hown5 hg5
                    go_wp2
                    refine wp_region_held_drew (S := fun W => Below w.heap.size w W) (by kernel_rfl) HBK.out.drew (fun hS => ?_)
                    show wpAnyH _ _ _ _ _ 25 _ _ w4.drew
                    refine wpAnyH_take (i := 0) (v := u7) rfl (by kernel_rfl) (by kernel_rfl) (by kernel_rfl) (fun _ _ _ h => h) (Or.inl ⟨by rfl, fun W hSw => (by go_simp)⟩) hS ?_
                    refine wpAnyH_take (i := 1) (v := .slice (some ⟨b, o, none⟩) r c) rfl (by kernel_rfl) (by kernel_rfl) (by kernel_rfl) (fun _ _ _ h => h) (Or.inl ⟨by rfl, fun W hSw => (by go_simp)⟩) hS ?_
                    refine wpAnyH_take (i := 2) (v := .int .i64 k) rfl (by kernel_rfl) (by kernel_rfl) (by kernel_rfl) (fun _ _ _ h => h) (Or.inl ⟨by rfl, fun W hSw => (by go_simp)⟩) hS ?_
                    refine wpAnyH_take (i := 3) (v := .pointer (some ⟨b, o + k * 10, none⟩)) rfl (by kernel_rfl) (by kernel_rfl) (by kernel_rfl) (fun _ _ _ h => h) (Or.inl ⟨by rfl, fun W hSw => (by go_simp)⟩) hS ?_
                    refine wpAnyH_take (i := 4) (v := .pointer (some ⟨b, o + k * 10 + 4, none⟩)) rfl (by kernel_rfl) (by kernel_rfl) (by kernel_rfl) (fun _ _ _ h => h) (Or.inl ⟨by rfl, fun W hSw => (by go_simp)⟩) hS ?_
                    refine wpAnyH_take (i := 5) (v := .int .u64 l[k].id) rfl (by kernel_rfl) (by kernel_rfl) (by kernel_rfl) (fun _ _ _ h => h) (Or.inl ⟨by rfl, fun W hSw => (by have qq := (hSw.cell (World.block_lt_of_cell? _ _ (HCQ.out 4 _ rfl))).trans (HCQ.out 4 _ rfl); go_simp)⟩) hS ?_
                    refine wpAnyH_take (i := 6) (v := .slice (some ⟨b, o, none⟩) r c) rfl (by kernel_rfl) (by kernel_rfl) (by kernel_rfl) (fun _ _ _ h => h) (Or.inl ⟨by rfl, fun W hSw => (by go_simp)⟩) hS ?_
                    refine wpAnyH_take (i := 7) (v := .int .i64 k) rfl (by kernel_rfl) (by kernel_rfl) (by kernel_rfl) (fun _ _ _ h => h) (Or.inl ⟨by rfl, fun W hSw => (by go_simp)⟩) hS ?_
                    refine wpAnyH_take (i := 8) (v := .pointer (some ⟨b, o + k * 10, none⟩)) rfl (by kernel_rfl) (by kernel_rfl) (by kernel_rfl) (fun _ _ _ h => h) (Or.inl ⟨by rfl, fun W hSw => (by go_simp)⟩) hS ?_
                    refine wpAnyH_take (i := 9) (v := .pointer (some ⟨b, o + k * 10 + 5, none⟩)) rfl (by kernel_rfl) (by kernel_rfl) (by kernel_rfl) (fun _ _ _ h => h) (Or.inl ⟨by rfl, fun W hSw => (by go_simp)⟩) hS ?_
                    refine wpAnyH_take (i := 10) (v := .int .u64 l[k].gen) rfl (by kernel_rfl) (by kernel_rfl) (by kernel_rfl) (fun _ _ _ h => h) (Or.inl ⟨by rfl, fun W hSw => (by have qq := (hSw.cell (World.block_lt_of_cell? _ _ (HCQ.out 5 _ rfl))).trans (HCQ.out 5 _ rfl); go_simp)⟩) hS ?_
                    refine wpAnyH_take (i := 11) (v := .slice (some ⟨b, o, none⟩) r c) rfl (by kernel_rfl) (by kernel_rfl) (by kernel_rfl) (fun _ _ _ h => h) (Or.inl ⟨by rfl, fun W hSw => (by go_simp)⟩) hS ?_
                    refine wpAnyH_take (i := 12) (v := .int .i64 k) rfl (by kernel_rfl) (by kernel_rfl) (by kernel_rfl) (fun _ _ _ h => h) (Or.inl ⟨by rfl, fun W hSw => (by go_simp)⟩) hS ?_
                    refine wpAnyH_take (i := 13) (v := .pointer (some ⟨b, o + k * 10, none⟩)) rfl (by kernel_rfl) (by kernel_rfl) (by kernel_rfl) (fun _ _ _ h => h) (Or.inl ⟨by rfl, fun W hSw => (by go_simp)⟩) hS ?_
                    refine wpAnyH_take (i := 14) (v := .pointer (some ⟨b, o + k * 10 + 6, none⟩)) rfl (by kernel_rfl) (by kernel_rfl) (by kernel_rfl) (fun _ _ _ h => h) (Or.inl ⟨by rfl, fun W hSw => (by go_simp)⟩) hS ?_
                    refine wpAnyH_take (i := 15) (v := .int .u64 l[k].dl) rfl (by kernel_rfl) (by kernel_rfl) (by kernel_rfl) (fun _ _ _ h => h) (Or.inl ⟨by rfl, fun W hSw => (by have qq := (hSw.cell (World.block_lt_of_cell? _ _ (HCQ.out 6 _ rfl))).trans (HCQ.out 6 _ rfl); go_simp)⟩) hS ?_
                    refine wpAnyH_take (i := 16) (v := .slice (some ⟨b, o, none⟩) r c) rfl (by kernel_rfl) (by kernel_rfl) (by kernel_rfl) (fun _ _ _ h => h) (Or.inl ⟨by rfl, fun W hSw => (by go_simp)⟩) hS ?_
                    refine wpAnyH_take (i := 17) (v := .int .i64 k) rfl (by kernel_rfl) (by kernel_rfl) (by kernel_rfl) (fun _ _ _ h => h) (Or.inl ⟨by rfl, fun W hSw => (by go_simp)⟩) hS ?_
                    refine wpAnyH_take (i := 18) (v := .pointer (some ⟨b, o + k * 10, none⟩)) rfl (by kernel_rfl) (by kernel_rfl) (by kernel_rfl) (fun _ _ _ h => h) (Or.inl ⟨by rfl, fun W hSw => (by go_simp)⟩) hS ?_
                    refine wpAnyH_take (i := 19) (v := .pointer (some ⟨b, o + k * 10 + 8, none⟩)) rfl (by kernel_rfl) (by kernel_rfl) (by kernel_rfl) (fun _ _ _ h => h) (Or.inl ⟨by rfl, fun W hSw => (by go_simp)⟩) hS ?_
                    refine wpAnyH_take (i := 20) (v := .int .u64 l[k].tk) rfl (by kernel_rfl) (by kernel_rfl) (by kernel_rfl) (fun _ _ _ h => h) (Or.inl ⟨by rfl, fun W hSw => (by have qq := (hSw.cell (World.block_lt_of_cell? _ _ (HCQ.out 8 _ rfl))).trans (HCQ.out 8 _ rfl); go_simp)⟩) hS ?_
                    refine wpAnyH_take (i := 21) (v := .agg #[.int .u64 l[k].id, .int .u64 l[k].gen, .int .u64 l[k].dl, .int .u64 l[k].tk]) rfl (by kernel_rfl) (by kernel_rfl) (by kernel_rfl) (fun _ _ _ h => h) (Or.inl ⟨by rfl, fun W hSw => (by go_simp)⟩) hS ?_
                    refine wpAnyH_one (k := 22) (by kernel_rfl) rfl (fun K hK => ?_)
                    go_simp
                    refine hK.out _ _ (HBK.out.drew.alloc hsz _) ?_
                    clear hK K
                    refine wpAnyH_append (k := 23) (by kernel_rfl) rfl rfl rfl rfl rfl hr5 HB5.out ?_
                    refine wpAnyH_one (k := 24) (by kernel_rfl) rfl (fun K hK => ?_)
                    go_simp
                    refine hK.out _ _ HB5.out ?_
                    clear hK K
                    refine wpAnyH_done (by kernel_rfl) ?_ _
                    go_wp2
                    go_round
                    case rel => exact ⟨k + 1, by omega, by go_num, by rw [HO1.out]; simpa using HO5.out, by rw [HR1.out], by first | (rw [HB1k.out]; done) | (rw [HB1k.out]; go_num), by rw [HB1k.out], HB5.out⟩
                    case measure => simp [intOf]; omega
                  · by_cases hk6 : l[k].kind = 6
                    · clear hk5
                      have k5 : (l[k].kind == 5) = false := by simp [hk6]
                      have k6 : (l[k].kind == 6) = true := by simp [hk6]
                      have k8 : (l[k].kind == 8) = false := by simp [hk6]
                      have HR1 := hid (show rstE l[i].id (l.take (k + 1)) = true by rw [rstE_take hlk, HRS.out]; simp [hidb, k6])
                      have HB1k := hid (show behE l[i].id (l.take (k + 1)) = (false, cnt) by rw [behE_take hlk, HBE.out]; unfold behF; simp [hidb, k5, k8])
                      have HO1 := hid (ownE_take (x := l[i].id) hlk)
                      rw [hidb, k5] at HO1
                      clear hk6
                      go_wp2
                      go_quiet (fail)
                      generalize hW4 : wr.drewN _ = w4
                      have hc4 : ∀ a, w4.cell? a = wr.cell? a := fun a => by rw [← hW4]; rfl
                      replace p4 := (hc4 _).trans p4
                      replace q0 := (hc4 _).trans q0
                      replace q4 := (hc4 _).trans q4
                      replace q5 := (hc4 _).trans q5
                      replace q6 := (hc4 _).trans q6
                      replace q8 := (hc4 _).trans q8
                      replace HBK := hid (show Below w.heap.size w w4 from hW4 ▸ below_drewN HBK.out _)
                      replace HOW := hid (show w4.ownsRow w.heap.size 44 4 u7 (firE l[i].id (l.take k)).length ((firE l[i].id (l.take k)).flatMap firC) from (by rw [← hW4]; exact HOW.out))
                      clear hW4 hc4
                      go_wp2
                      go_round
                      case rel => exact ⟨k + 1, by omega, by go_num, by rw [HO1.out]; simpa using HOW.out, by rw [HR1.out], by first | (rw [HB1k.out]; done) | (rw [HB1k.out]; go_num), by rw [HB1k.out], HBK.out⟩
                      case measure => simp [intOf]; omega
                    · by_cases hk8 : l[k].kind = 8
                      · clear hk5 hk6
                        have k5 : (l[k].kind == 5) = false := by simp [hk8]
                        have k6 : (l[k].kind == 6) = false := by simp [hk8]
                        have k8 : (l[k].kind == 8) = true := by simp [hk8]
                        have HR1 := hid (show rstE l[i].id (l.take (k + 1)) = true by rw [rstE_take hlk, HRS.out]; simp [hidb, k6])
                        have HB1k := hid (show behE l[i].id (l.take (k + 1)) = (true, cnt) by rw [behE_take hlk, HBE.out]; unfold behF; simp [hidb, k5, k8])
                        have HO1 := hid (ownE_take (x := l[i].id) hlk)
                        rw [hidb, k5] at HO1
                        clear hk8
                        go_wp2
                        go_quiet (fail)
                        generalize hW4 : wr.drewN _ = w4
                        have hc4 : ∀ a, w4.cell? a = wr.cell? a := fun a => by rw [← hW4]; rfl
                        replace p4 := (hc4 _).trans p4
                        replace q0 := (hc4 _).trans q0
                        replace q4 := (hc4 _).trans q4
                        replace q5 := (hc4 _).trans q5
                        replace q6 := (hc4 _).trans q6
                        replace q8 := (hc4 _).trans q8
                        replace HBK := hid (show Below w.heap.size w w4 from hW4 ▸ below_drewN HBK.out _)
                        replace HOW := hid (show w4.ownsRow w.heap.size 44 4 u7 (firE l[i].id (l.take k)).length ((firE l[i].id (l.take k)).flatMap firC) from (by rw [← hW4]; exact HOW.out))
                        clear hW4 hc4
                        go_wp2
                        go_round
                        case rel => exact ⟨k + 1, by omega, by go_num, by rw [HO1.out]; simpa using HOW.out, by rw [HR1.out], by first | (rw [HB1k.out]; done) | (rw [HB1k.out]; go_num), by rw [HB1k.out], HBK.out⟩
                        case measure => simp [intOf]; omega
                      · have k5 : (l[k].kind == 5) = false := by simp [hk5]
                        have k6 : (l[k].kind == 6) = false := by simp [hk6]
                        have k8 : (l[k].kind == 8) = false := by simp [hk8]
                        have HR1 := hid (show rstE l[i].id (l.take (k + 1)) = true by rw [rstE_take hlk, HRS.out]; simp [hidb, k6])
                        have HB1k := hid (show behE l[i].id (l.take (k + 1)) = (false, cnt) by rw [behE_take hlk, HBE.out]; unfold behF; simp [hidb, k5, k8])
                        have HO1 := hid (ownE_take (x := l[i].id) hlk)
                        rw [hidb, k5] at HO1
                        clear hk5 hk6 hk8
                        go_wp2
                        go_quiet (fail)
                        generalize hW4 : wr.drewN _ = w4
                        have hc4 : ∀ a, w4.cell? a = wr.cell? a := fun a => by rw [← hW4]; rfl
                        replace p4 := (hc4 _).trans p4
                        replace q0 := (hc4 _).trans q0
                        replace q4 := (hc4 _).trans q4
                        replace q5 := (hc4 _).trans q5
                        replace q6 := (hc4 _).trans q6
                        replace q8 := (hc4 _).trans q8
                        replace HBK := hid (show Below w.heap.size w w4 from hW4 ▸ below_drewN HBK.out _)
                        replace HOW := hid (show w4.ownsRow w.heap.size 44 4 u7 (firE l[i].id (l.take k)).length ((firE l[i].id (l.take k)).flatMap firC) from (by rw [← hW4]; exact HOW.out))
                        clear hW4 hc4
                        go_wp2
                        go_round
                        case rel => exact ⟨k + 1, by omega, by go_num, by rw [HO1.out]; simpa using HOW.out, by rw [HR1.out], by first | (rw [HB1k.out]; done) | (rw [HB1k.out]; go_num), by rw [HB1k.out], HBK.out⟩
                        case measure => simp [intOf]; omega
                · by_cases hk5 : l[k].kind = 5
                  · have k5 : (l[k].kind == 5) = true := by simp [hk5]
                    have k6 : (l[k].kind == 6) = false := by simp [hk5]
                    have k8 : (l[k].kind == 8) = false := by simp [hk5]
                    have HR1 := hid (show rstE l[i].id (l.take (k + 1)) = true by rw [rstE_take hlk, HRS.out]; simp [hidb, k6])
                    have HB1k := hid (show behE l[i].id (l.take (k + 1)) = (true, cnt + 1) by rw [behE_take hlk, HBE.out]; unfold behF; simp [hidb, k5, k8])
                    have HO1 := hid (ownE_take (x := l[i].id) hlk)
                    rw [hidb, k5] at HO1
                    clear hk5
                    go_wp2
                    go_quiet (fail)
                    generalize hW4 : wr.drewN _ = w4
                    have hc4 : ∀ a, w4.cell? a = wr.cell? a := fun a => by rw [← hW4]; rfl
                    replace p4 := (hc4 _).trans p4
                    replace q0 := (hc4 _).trans q0
                    replace q4 := (hc4 _).trans q4
                    replace q5 := (hc4 _).trans q5
                    replace q6 := (hc4 _).trans q6
                    replace q8 := (hc4 _).trans q8
                    replace HBK := hid (show Below w.heap.size w w4 from hW4 ▸ below_drewN HBK.out _)
                    replace HOW := hid (show w4.ownsRow w.heap.size 44 4 u7 (firE l[i].id (l.take k)).length ((firE l[i].id (l.take k)).flatMap firC) from (by rw [← hW4]; exact HOW.out))
                    clear hW4 hc4
                    have hsz := HBK.out.size
                    have hfl := firE_len l[i].id (l.take k)
                    rw [List.length_take, Nat.min_eq_left (Nat.le_of_lt hlk)] at hfl
                    obtain ⟨v5, w5, hr5, hown5, hg5, _, _⟩ := run_append_own_at (P := Try.prog) (w4.alloc (.cells (firC (fireOf l[k])).toArray 44)).drew w.heap.size 42 42 44 i0 _ 4 32 Try.underlying42 HI.out.1 HI.out.2.1 HI.out.2.2.1 HI.out.2.2.2 rfl (by decide) u7 _ _ (HOW.out.alloc _).drew ⟨w4.heap.size, 0, none⟩ 1 1 (firC (fireOf l[k])) rfl (cells_new w4 (firC (fireOf l[k])) 44) (firC_one' _) (by unfold maxLen; omega) (by omega) (Nat.le_trans hsz (by simp))
                    obtain ⟨bo5, cap5, rfl⟩ := owns_shape hown5
                    replace hr5 : (Builtin.append_ #[42, 42] 42 #[u7, .slice (some ⟨w4.heap.size, 0, none⟩) 1 1]).run Try.prog (w4.alloc (.cells #[.int .u64 l[k].id, .int .u64 l[k].gen, .int .u64 l[k].dl, .int .u64 l[k].tk] 44)).drew = .ok (.slice bo5 ((firE l[i].id (l.take k)).length + 1) cap5) w5 := hr5
                    have HO5 := hid hown5
                    have HB5 := hid ((((HBK.out.alloc hsz (.cells (firC (fireOf l[k])).toArray 44)).drew).grown hg5 (Nat.le_trans hsz (by simp)) (fun j hj => (HOW.out.lt j hj).1)))
                    clear hown5 hg5
                    go_wp2
                    refine wp_region_held_drew (S := fun W => Below w.heap.size w W) (by kernel_rfl) HBK.out.drew (fun hS => ?_)
                    show wpAnyH _ _ _ _ _ 25 _ _ w4.drew
                    refine wpAnyH_take (i := 0) (v := u7) rfl (by kernel_rfl) (by kernel_rfl) (by kernel_rfl) (fun _ _ _ h => h) (Or.inl ⟨by rfl, fun W hSw => (by go_simp)⟩) hS ?_
                    refine wpAnyH_take (i := 1) (v := .slice (some ⟨b, o, none⟩) r c) rfl (by kernel_rfl) (by kernel_rfl) (by kernel_rfl) (fun _ _ _ h => h) (Or.inl ⟨by rfl, fun W hSw => (by go_simp)⟩) hS ?_
                    refine wpAnyH_take (i := 2) (v := .int .i64 k) rfl (by kernel_rfl) (by kernel_rfl) (by kernel_rfl) (fun _ _ _ h => h) (Or.inl ⟨by rfl, fun W hSw => (by go_simp)⟩) hS ?_
                    refine wpAnyH_take (i := 3) (v := .pointer (some ⟨b, o + k * 10, none⟩)) rfl (by kernel_rfl) (by kernel_rfl) (by kernel_rfl) (fun _ _ _ h => h) (Or.inl ⟨by rfl, fun W hSw => (by go_simp)⟩) hS ?_
                    refine wpAnyH_take (i := 4) (v := .pointer (some ⟨b, o + k * 10 + 4, none⟩)) rfl (by kernel_rfl) (by kernel_rfl) (by kernel_rfl) (fun _ _ _ h => h) (Or.inl ⟨by rfl, fun W hSw => (by go_simp)⟩) hS ?_
                    refine wpAnyH_take (i := 5) (v := .int .u64 l[k].id) rfl (by kernel_rfl) (by kernel_rfl) (by kernel_rfl) (fun _ _ _ h => h) (Or.inl ⟨by rfl, fun W hSw => (by have qq := (hSw.cell (World.block_lt_of_cell? _ _ (HCQ.out 4 _ rfl))).trans (HCQ.out 4 _ rfl); go_simp)⟩) hS ?_
                    refine wpAnyH_take (i := 6) (v := .slice (some ⟨b, o, none⟩) r c) rfl (by kernel_rfl) (by kernel_rfl) (by kernel_rfl) (fun _ _ _ h => h) (Or.inl ⟨by rfl, fun W hSw => (by go_simp)⟩) hS ?_
                    refine wpAnyH_take (i := 7) (v := .int .i64 k) rfl (by kernel_rfl) (by kernel_rfl) (by kernel_rfl) (fun _ _ _ h => h) (Or.inl ⟨by rfl, fun W hSw => (by go_simp)⟩) hS ?_
                    refine wpAnyH_take (i := 8) (v := .pointer (some ⟨b, o + k * 10, none⟩)) rfl (by kernel_rfl) (by kernel_rfl) (by kernel_rfl) (fun _ _ _ h => h) (Or.inl ⟨by rfl, fun W hSw => (by go_simp)⟩) hS ?_
                    refine wpAnyH_take (i := 9) (v := .pointer (some ⟨b, o + k * 10 + 5, none⟩)) rfl (by kernel_rfl) (by kernel_rfl) (by kernel_rfl) (fun _ _ _ h => h) (Or.inl ⟨by rfl, fun W hSw => (by go_simp)⟩) hS ?_
                    refine wpAnyH_take (i := 10) (v := .int .u64 l[k].gen) rfl (by kernel_rfl) (by kernel_rfl) (by kernel_rfl) (fun _ _ _ h => h) (Or.inl ⟨by rfl, fun W hSw => (by have qq := (hSw.cell (World.block_lt_of_cell? _ _ (HCQ.out 5 _ rfl))).trans (HCQ.out 5 _ rfl); go_simp)⟩) hS ?_
                    refine wpAnyH_take (i := 11) (v := .slice (some ⟨b, o, none⟩) r c) rfl (by kernel_rfl) (by kernel_rfl) (by kernel_rfl) (fun _ _ _ h => h) (Or.inl ⟨by rfl, fun W hSw => (by go_simp)⟩) hS ?_
                    refine wpAnyH_take (i := 12) (v := .int .i64 k) rfl (by kernel_rfl) (by kernel_rfl) (by kernel_rfl) (fun _ _ _ h => h) (Or.inl ⟨by rfl, fun W hSw => (by go_simp)⟩) hS ?_
                    refine wpAnyH_take (i := 13) (v := .pointer (some ⟨b, o + k * 10, none⟩)) rfl (by kernel_rfl) (by kernel_rfl) (by kernel_rfl) (fun _ _ _ h => h) (Or.inl ⟨by rfl, fun W hSw => (by go_simp)⟩) hS ?_
                    refine wpAnyH_take (i := 14) (v := .pointer (some ⟨b, o + k * 10 + 6, none⟩)) rfl (by kernel_rfl) (by kernel_rfl) (by kernel_rfl) (fun _ _ _ h => h) (Or.inl ⟨by rfl, fun W hSw => (by go_simp)⟩) hS ?_
                    refine wpAnyH_take (i := 15) (v := .int .u64 l[k].dl) rfl (by kernel_rfl) (by kernel_rfl) (by kernel_rfl) (fun _ _ _ h => h) (Or.inl ⟨by rfl, fun W hSw => (by have qq := (hSw.cell (World.block_lt_of_cell? _ _ (HCQ.out 6 _ rfl))).trans (HCQ.out 6 _ rfl); go_simp)⟩) hS ?_
                    refine wpAnyH_take (i := 16) (v := .slice (some ⟨b, o, none⟩) r c) rfl (by kernel_rfl) (by kernel_rfl) (by kernel_rfl) (fun _ _ _ h => h) (Or.inl ⟨by rfl, fun W hSw => (by go_simp)⟩) hS ?_
                    refine wpAnyH_take (i := 17) (v := .int .i64 k) rfl (by kernel_rfl) (by kernel_rfl) (by kernel_rfl) (fun _ _ _ h => h) (Or.inl ⟨by rfl, fun W hSw => (by go_simp)⟩) hS ?_
                    refine wpAnyH_take (i := 18) (v := .pointer (some ⟨b, o + k * 10, none⟩)) rfl (by kernel_rfl) (by kernel_rfl) (by kernel_rfl) (fun _ _ _ h => h) (Or.inl ⟨by rfl, fun W hSw => (by go_simp)⟩) hS ?_
                    refine wpAnyH_take (i := 19) (v := .pointer (some ⟨b, o + k * 10 + 8, none⟩)) rfl (by kernel_rfl) (by kernel_rfl) (by kernel_rfl) (fun _ _ _ h => h) (Or.inl ⟨by rfl, fun W hSw => (by go_simp)⟩) hS ?_
                    refine wpAnyH_take (i := 20) (v := .int .u64 l[k].tk) rfl (by kernel_rfl) (by kernel_rfl) (by kernel_rfl) (fun _ _ _ h => h) (Or.inl ⟨by rfl, fun W hSw => (by have qq := (hSw.cell (World.block_lt_of_cell? _ _ (HCQ.out 8 _ rfl))).trans (HCQ.out 8 _ rfl); go_simp)⟩) hS ?_
                    refine wpAnyH_take (i := 21) (v := .agg #[.int .u64 l[k].id, .int .u64 l[k].gen, .int .u64 l[k].dl, .int .u64 l[k].tk]) rfl (by kernel_rfl) (by kernel_rfl) (by kernel_rfl) (fun _ _ _ h => h) (Or.inl ⟨by rfl, fun W hSw => (by go_simp)⟩) hS ?_
                    refine wpAnyH_one (k := 22) (by kernel_rfl) rfl (fun K hK => ?_)
                    go_simp
                    refine hK.out _ _ (HBK.out.drew.alloc hsz _) ?_
                    clear hK K
                    refine wpAnyH_append (k := 23) (by kernel_rfl) rfl rfl rfl rfl rfl hr5 HB5.out ?_
                    refine wpAnyH_one (k := 24) (by kernel_rfl) rfl (fun K hK => ?_)
                    go_simp
                    refine hK.out _ _ HB5.out ?_
                    clear hK K
                    refine wpAnyH_done (by kernel_rfl) ?_ _
                    go_wp2
                    go_round
                    case rel => exact ⟨k + 1, by omega, by go_num, by rw [HO1.out]; simpa using HO5.out, by rw [HR1.out], by first | (rw [HB1k.out]; done) | (rw [HB1k.out]; go_num), by rw [HB1k.out], HB5.out⟩
                    case measure => simp [intOf]; omega
                  · by_cases hk6 : l[k].kind = 6
                    · clear hk5
                      have k5 : (l[k].kind == 5) = false := by simp [hk6]
                      have k6 : (l[k].kind == 6) = true := by simp [hk6]
                      have k8 : (l[k].kind == 8) = false := by simp [hk6]
                      have HR1 := hid (show rstE l[i].id (l.take (k + 1)) = true by rw [rstE_take hlk, HRS.out]; simp [hidb, k6])
                      have HB1k := hid (show behE l[i].id (l.take (k + 1)) = (true, cnt) by rw [behE_take hlk, HBE.out]; unfold behF; simp [hidb, k5, k8])
                      have HO1 := hid (ownE_take (x := l[i].id) hlk)
                      rw [hidb, k5] at HO1
                      clear hk6
                      go_wp2
                      go_quiet (fail)
                      generalize hW4 : wr.drewN _ = w4
                      have hc4 : ∀ a, w4.cell? a = wr.cell? a := fun a => by rw [← hW4]; rfl
                      replace p4 := (hc4 _).trans p4
                      replace q0 := (hc4 _).trans q0
                      replace q4 := (hc4 _).trans q4
                      replace q5 := (hc4 _).trans q5
                      replace q6 := (hc4 _).trans q6
                      replace q8 := (hc4 _).trans q8
                      replace HBK := hid (show Below w.heap.size w w4 from hW4 ▸ below_drewN HBK.out _)
                      replace HOW := hid (show w4.ownsRow w.heap.size 44 4 u7 (firE l[i].id (l.take k)).length ((firE l[i].id (l.take k)).flatMap firC) from (by rw [← hW4]; exact HOW.out))
                      clear hW4 hc4
                      go_wp2
                      go_round
                      case rel => exact ⟨k + 1, by omega, by go_num, by rw [HO1.out]; simpa using HOW.out, by rw [HR1.out], by first | (rw [HB1k.out]; done) | (rw [HB1k.out]; go_num), by rw [HB1k.out], HBK.out⟩
                      case measure => simp [intOf]; omega
                    · by_cases hk8 : l[k].kind = 8
                      · clear hk5 hk6
                        have k5 : (l[k].kind == 5) = false := by simp [hk8]
                        have k6 : (l[k].kind == 6) = false := by simp [hk8]
                        have k8 : (l[k].kind == 8) = true := by simp [hk8]
                        have HR1 := hid (show rstE l[i].id (l.take (k + 1)) = true by rw [rstE_take hlk, HRS.out]; simp [hidb, k6])
                        have HB1k := hid (show behE l[i].id (l.take (k + 1)) = (true, cnt) by rw [behE_take hlk, HBE.out]; unfold behF; simp [hidb, k5, k8])
                        have HO1 := hid (ownE_take (x := l[i].id) hlk)
                        rw [hidb, k5] at HO1
                        clear hk8
                        go_wp2
                        go_quiet (fail)
                        generalize hW4 : wr.drewN _ = w4
                        have hc4 : ∀ a, w4.cell? a = wr.cell? a := fun a => by rw [← hW4]; rfl
                        replace p4 := (hc4 _).trans p4
                        replace q0 := (hc4 _).trans q0
                        replace q4 := (hc4 _).trans q4
                        replace q5 := (hc4 _).trans q5
                        replace q6 := (hc4 _).trans q6
                        replace q8 := (hc4 _).trans q8
                        replace HBK := hid (show Below w.heap.size w w4 from hW4 ▸ below_drewN HBK.out _)
                        replace HOW := hid (show w4.ownsRow w.heap.size 44 4 u7 (firE l[i].id (l.take k)).length ((firE l[i].id (l.take k)).flatMap firC) from (by rw [← hW4]; exact HOW.out))
                        clear hW4 hc4
                        go_wp2
                        go_round
                        case rel => exact ⟨k + 1, by omega, by go_num, by rw [HO1.out]; simpa using HOW.out, by rw [HR1.out], by first | (rw [HB1k.out]; done) | (rw [HB1k.out]; go_num), by rw [HB1k.out], HBK.out⟩
                        case measure => simp [intOf]; omega
                      · have k5 : (l[k].kind == 5) = false := by simp [hk5]
                        have k6 : (l[k].kind == 6) = false := by simp [hk6]
                        have k8 : (l[k].kind == 8) = false := by simp [hk8]
                        have HR1 := hid (show rstE l[i].id (l.take (k + 1)) = true by rw [rstE_take hlk, HRS.out]; simp [hidb, k6])
                        have HB1k := hid (show behE l[i].id (l.take (k + 1)) = (true, cnt) by rw [behE_take hlk, HBE.out]; unfold behF; simp [hidb, k5, k8])
                        have HO1 := hid (ownE_take (x := l[i].id) hlk)
                        rw [hidb, k5] at HO1
                        clear hk5 hk6 hk8
                        go_wp2
                        go_quiet (fail)
                        generalize hW4 : wr.drewN _ = w4
                        have hc4 : ∀ a, w4.cell? a = wr.cell? a := fun a => by rw [← hW4]; rfl
                        replace p4 := (hc4 _).trans p4
                        replace q0 := (hc4 _).trans q0
                        replace q4 := (hc4 _).trans q4
                        replace q5 := (hc4 _).trans q5
                        replace q6 := (hc4 _).trans q6
                        replace q8 := (hc4 _).trans q8
                        replace HBK := hid (show Below w.heap.size w w4 from hW4 ▸ below_drewN HBK.out _)
                        replace HOW := hid (show w4.ownsRow w.heap.size 44 4 u7 (firE l[i].id (l.take k)).length ((firE l[i].id (l.take k)).flatMap firC) from (by rw [← hW4]; exact HOW.out))
                        clear hW4 hc4
                        go_wp2
                        go_round
                        case rel => exact ⟨k + 1, by omega, by go_num, by rw [HO1.out]; simpa using HOW.out, by rw [HR1.out], by first | (rw [HB1k.out]; done) | (rw [HB1k.out]; go_num), by rw [HB1k.out], HBK.out⟩
                        case measure => simp [intOf]; omega
            · have hidb : (l[k].id == l[i].id) = false := by simp [hidd]
              have hidn : (l[k].id != l[i].id) = true := by simp [hidd]
              clear hidd
              have HR1 := hid (show rstE l[i].id (l.take (k + 1)) = rstE l[i].id (l.take k) by rw [rstE_take hlk]; simp [hidb])
              have HB1k := hid (show behE l[i].id (l.take (k + 1)) = behE l[i].id (l.take k) by rw [behE_take hlk]; unfold behF; simp [hidb])
              have HO1 := hid (ownE_take (x := l[i].id) hlk)
              rw [hidb] at HO1
              go_wp2
              go_quiet (fail)
              generalize hW4 : wr.drewN _ = w4
              have hc4 : ∀ a, w4.cell? a = wr.cell? a := fun a => by rw [← hW4]; rfl
              replace p4 := (hc4 _).trans p4
              replace q0 := (hc4 _).trans q0
              replace q4 := (hc4 _).trans q4
              replace q5 := (hc4 _).trans q5
              replace q6 := (hc4 _).trans q6
              replace q8 := (hc4 _).trans q8
              replace HBK := hid (show Below w.heap.size w w4 from hW4 ▸ below_drewN HBK.out _)
              replace HOW := hid (show w4.ownsRow w.heap.size 44 4 u7 (firE l[i].id (l.take k)).length ((firE l[i].id (l.take k)).flatMap firC) from (by rw [← hW4]; exact HOW.out))
              clear hW4 hc4
              go_wp2
              go_round
              case rel => exact ⟨k + 1, by omega, by go_num, by rw [HO1.out]; simpa using HOW.out, by rw [HR1.out], by rw [HB1k.out], by rw [HB1k.out], HBK.out⟩
              case measure => simp [intOf]; omega
          · obtain rfl : k = r := by omega
            have HBK := hid hbk
            have p4 : wr.cell? ⟨b, o + i * 10 + 7, none⟩ = some (.int .u64 l[i].per) := (hbk.cell (World.block_lt_of_cell? _ _ (HCP.out 7 _ rfl))).trans (HCP.out 7 _ rfl)
            obtain ⟨bo, cap, rfl⟩ := owns_shape hown0
            have HOW := hid hown0
            have hL := law.out
            have hfo : (firE l[i].id (l.take k)).length = (ownE l[i].id (l.take k)).length := by simp [firE]
            have hcnt : decide ((1 : Int) < ((behE l[i].id (l.take k)).2 : Int)) = false := decide_eq_false (by omega)
            have hcnt2 : decide (1 < (behE l[i].id (l.take k)).2) = false := decide_eq_false (by omega)
            have hrl := hid hL.2.2
            have hz := hL.2.1
            have hfl := firE_len l[i].id (l.take k)
            rw [List.length_take, Nat.min_eq_left (by omega)] at hfl
            generalize hlen : (firE l[i].id (l.take k)).length = len at *
            generalize hbe : (behE l[i].id (l.take k)).2 = cnt at *
            generalize (behE l[i].id (l.take k)).1 = st at *
            generalize hrs : rstE l[i].id (l.take k) = rs at *
            have HLEN := hid hlen
            have HFO := hid hfo
            clear hfo
            clear hL hbk hown0 hbe hlen
            by_cases hp : l[i].per = 0
            · cases rs
              · have hpb : (l[i].per == 0) = true := by simp [hp]
                have hl1 : decide ((1 : Int) < (len : Int)) = false := decide_eq_false (by have := hz hp; have := HFO.out; omega)
                have hl2 : decide (1 < len) = false := decide_eq_false (by have := hz hp; have := HFO.out; omega)
                clear hp hz
                by_cases h0 : 0 < len
                · have h0' : decide ((0 : Int) < (len : Int)) = true := decide_eq_true (by omega)
                  have h0'' : decide (0 < len) = true := decide_eq_true h0
                  have hch := hrl.out rfl
                  have hol : 0 < (ownE l[i].id (l.take k)).length := by have := HFO.out; omega
                  have hwfo : ∀ e ∈ ownE l[i].id (l.take k), e.wf := fun e he => HW.out e (List.mem_of_mem_take (List.mem_filter.1 he).1)
                  have hb0 := HBK.out.size
                  have HRT := hid (rhy_of_chain hch (fun e he => (hwfo e he).gen.1) (fun e he => (hwfo e he).dl.2) hol)
                  have hw0 := (hwfo _ (List.getElem_mem hol)).dl
                  have HWF := hid (show ∀ f ∈ firE l[i].id (l.take k), f.wf from fun f hf => by obtain ⟨e, he, rfl⟩ := List.mem_map.1 hf; have := hwfo e he; exact ⟨this.id, this.gen, this.dl, this.tk⟩)
                  obtain ⟨f0, hf0⟩ : ∃ f0, (firE l[i].id (l.take k))[0]? = some f0 := ⟨_, List.getElem?_eq_getElem (by rw [HLEN.out]; exact h0)⟩
                  have hf0d : (ownE l[i].id (l.take k))[0].dl = f0.dl := by
                    have h := hf0
                    unfold firE at h
                    rw [List.getElem?_map, List.getElem?_eq_getElem hol] at h
                    simp only [Option.map_some, Option.some.injEq] at h
                    rw [← h]; rfl
                  have hc2 := flatMap_getElem? firC 4 (fun _ => rfl) _ 0 f0 2 (.int .u64 f0.dl) hf0 rfl
                  have h00 := HOW.out
                  obtain ⟨g, rfl⟩ : ∃ g, bo = some ⟨g, 0, none⟩ := by
                    rcases h00.2 with ⟨_, h⟩ | ⟨g, cp, cur, h, _⟩
                    · omega
                    · simp at h; exact ⟨g, h.1⟩
                  have r2 : wr.cell? ⟨g, 2, none⟩ = some (.int .u64 f0.dl) := by
                    have h := HOW.out.cells (g := g) rfl 2 _ (by simpa using hc2)
                    rw [Addr.add_lit] at h; simpa using h
                  rw [hf0d] at HRT hw0
                  have HK : Hid (∀ W, Below wr.heap.size wr W → W.cell? ⟨g, 2, none⟩ = some (.int .u64 f0.dl) ∧ W.cell? ⟨b, o + i * 10 + 7, none⟩ = some (.int .u64 l[i].per) ∧ Below wr.heap.size wr W) := hid (fun W hB => ⟨(hB.cell (World.block_lt_of_cell? _ _ r2)).trans r2, (hB.cell (World.block_lt_of_cell? _ _ p4)).trans p4, hB⟩)
                  have HD0 := hid (show U64 f0.dl from hw0)
                  have HPE := hid (HW.out _ (List.getElem_mem hli)).per
                  have HSZ := hid hb0
                  have hfl2 : (firE l[i].id (l.take k)).length ≤ 1000000 := by rw [HLEN.out]; omega
                  have HFL := hid hfl2
                  have HRT2 := hid (show rhyTo (firE l[i].id (l.take k)) f0.dl l[i].per (firE l[i].id (l.take k)).length = true from HRT.out)
                  have HOR := hid (show Reads wr (.slice (some ⟨g, 0, none⟩) len cap) (firE l[i].id (l.take k)).length ((firE l[i].id (l.take k)).flatMap firC) from by rw [HLEN.out]; exact Reads.of_owns HOW.out)
                  clear hrl hch hol hwfo HRT hw0 hf0 hf0d hc2 h00 hb0 hfl2
                  have h0i : (0 : Int) < (len : Int) := by omega
                  go_wp2
                  clear r2 p4
                  go_region_held3 (fun W => W.cell? ⟨g, 2, none⟩ = some (.int .u64 f0.dl) ∧ W.cell? ⟨b, o + i * 10 + 7, none⟩ = some (.int .u64 l[i].per) ∧ Below wr.heap.size wr W) ((exact HK.out _ (by (repeat' (first | (with_reducible exact Below.refl _ _) | (with_reducible assumption) | (with_reducible refine Below.alloc ?_ ?_ _) | (with_reducible refine Below.drew ?_) | (with_reducible refine below_drewN ?_ _) | (with_reducible refine Below.trans ?_ (Below.mono (by assumption) ?_)) | (with_reducible exact Nat.le_refl _) | omega | (simp at *; omega) | (simp; done))))))
                    ((first | (go_at_call 20; refine (rhythm_any (firE l[i].id (l.take k)) _ f0.dl l[i].per _ (HOR.out.below (‹_ ∧ _ ∧ Below wr.heap.size wr _›.2.2) (Nat.le_refl _)) HFL.out HWF.out HD0.out.1 HD0.out.2 HPE.out.1 HPE.out.2).mono ?_; rintro e W1 ⟨rfl, hb1⟩; rw [HRT2.out])))
                  all_goals go_wp2
                  all_goals first | (go_round; (exact ⟨i + 1, by omega, by go_num, HBK.out.trans ((‹_ ∧ _ ∧ Below wr.heap.size wr _›.2.2).mono HSZ.out)⟩); (simp [intOf]; omega)) | exact ⟨⟨i + 1, by omega, by go_num, HBK.out.trans ((‹_ ∧ _ ∧ Below wr.heap.size wr _›.2.2).mono HSZ.out)⟩, by simp [intOf]; omega⟩
                · have h0' : decide ((0 : Int) < (len : Int)) = false := decide_eq_false (by omega)
                  have h0'' : decide (0 < len) = false := decide_eq_false h0
                  clear hrl h0
                  go_wp2
                  go_quiet (fail)
                  go_wp2
                  go_round
                  case rel => exact ⟨i + 1, by omega, by go_num, below_drewN HBK.out _⟩
                  case measure => simp [intOf]; omega
              · have hpb : (l[i].per == 0) = true := by simp [hp]
                have hl1 : decide ((1 : Int) < (len : Int)) = false := decide_eq_false (by have := hz hp; have := HFO.out; omega)
                have hl2 : decide (1 < len) = false := decide_eq_false (by have := hz hp; have := HFO.out; omega)
                clear hp hz
                clear hrl
                go_wp2
                go_quiet (fail)
                go_wp2
                go_round
                case rel => exact ⟨i + 1, by omega, by go_num, below_drewN HBK.out _⟩
                case measure => simp [intOf]; omega
            · cases rs
              · have hpb : (l[i].per == 0) = false := by simp [hp]
                clear hp hz
                by_cases h0 : 0 < len
                · have h0' : decide ((0 : Int) < (len : Int)) = true := decide_eq_true (by omega)
                  have h0'' : decide (0 < len) = true := decide_eq_true h0
                  have hch := hrl.out rfl
                  have hol : 0 < (ownE l[i].id (l.take k)).length := by have := HFO.out; omega
                  have hwfo : ∀ e ∈ ownE l[i].id (l.take k), e.wf := fun e he => HW.out e (List.mem_of_mem_take (List.mem_filter.1 he).1)
                  have hb0 := HBK.out.size
                  have HRT := hid (rhy_of_chain hch (fun e he => (hwfo e he).gen.1) (fun e he => (hwfo e he).dl.2) hol)
                  have hw0 := (hwfo _ (List.getElem_mem hol)).dl
                  have HWF := hid (show ∀ f ∈ firE l[i].id (l.take k), f.wf from fun f hf => by obtain ⟨e, he, rfl⟩ := List.mem_map.1 hf; have := hwfo e he; exact ⟨this.id, this.gen, this.dl, this.tk⟩)
                  obtain ⟨f0, hf0⟩ : ∃ f0, (firE l[i].id (l.take k))[0]? = some f0 := ⟨_, List.getElem?_eq_getElem (by rw [HLEN.out]; exact h0)⟩
                  have hf0d : (ownE l[i].id (l.take k))[0].dl = f0.dl := by
                    have h := hf0
                    unfold firE at h
                    rw [List.getElem?_map, List.getElem?_eq_getElem hol] at h
                    simp only [Option.map_some, Option.some.injEq] at h
                    rw [← h]; rfl
                  have hc2 := flatMap_getElem? firC 4 (fun _ => rfl) _ 0 f0 2 (.int .u64 f0.dl) hf0 rfl
                  have h00 := HOW.out
                  obtain ⟨g, rfl⟩ : ∃ g, bo = some ⟨g, 0, none⟩ := by
                    rcases h00.2 with ⟨_, h⟩ | ⟨g, cp, cur, h, _⟩
                    · omega
                    · simp at h; exact ⟨g, h.1⟩
                  have r2 : wr.cell? ⟨g, 2, none⟩ = some (.int .u64 f0.dl) := by
                    have h := HOW.out.cells (g := g) rfl 2 _ (by simpa using hc2)
                    rw [Addr.add_lit] at h; simpa using h
                  rw [hf0d] at HRT hw0
                  have HK : Hid (∀ W, Below wr.heap.size wr W → W.cell? ⟨g, 2, none⟩ = some (.int .u64 f0.dl) ∧ W.cell? ⟨b, o + i * 10 + 7, none⟩ = some (.int .u64 l[i].per) ∧ Below wr.heap.size wr W) := hid (fun W hB => ⟨(hB.cell (World.block_lt_of_cell? _ _ r2)).trans r2, (hB.cell (World.block_lt_of_cell? _ _ p4)).trans p4, hB⟩)
                  have HD0 := hid (show U64 f0.dl from hw0)
                  have HPE := hid (HW.out _ (List.getElem_mem hli)).per
                  have HSZ := hid hb0
                  have hfl2 : (firE l[i].id (l.take k)).length ≤ 1000000 := by rw [HLEN.out]; omega
                  have HFL := hid hfl2
                  have HRT2 := hid (show rhyTo (firE l[i].id (l.take k)) f0.dl l[i].per (firE l[i].id (l.take k)).length = true from HRT.out)
                  have HOR := hid (show Reads wr (.slice (some ⟨g, 0, none⟩) len cap) (firE l[i].id (l.take k)).length ((firE l[i].id (l.take k)).flatMap firC) from by rw [HLEN.out]; exact Reads.of_owns HOW.out)
                  clear hrl hch hol hwfo HRT hw0 hf0 hf0d hc2 h00 hb0 hfl2
                  have h0i : (0 : Int) < (len : Int) := by omega
                  go_wp2
                  clear r2 p4
                  go_region_held3 (fun W => W.cell? ⟨g, 2, none⟩ = some (.int .u64 f0.dl) ∧ W.cell? ⟨b, o + i * 10 + 7, none⟩ = some (.int .u64 l[i].per) ∧ Below wr.heap.size wr W) ((exact HK.out _ (by (repeat' (first | (with_reducible exact Below.refl _ _) | (with_reducible assumption) | (with_reducible refine Below.alloc ?_ ?_ _) | (with_reducible refine Below.drew ?_) | (with_reducible refine below_drewN ?_ _) | (with_reducible refine Below.trans ?_ (Below.mono (by assumption) ?_)) | (with_reducible exact Nat.le_refl _) | omega | (simp at *; omega) | (simp; done))))))
                    ((first | (go_at_call 20; refine (rhythm_any (firE l[i].id (l.take k)) _ f0.dl l[i].per _ (HOR.out.below (‹_ ∧ _ ∧ Below wr.heap.size wr _›.2.2) (Nat.le_refl _)) HFL.out HWF.out HD0.out.1 HD0.out.2 HPE.out.1 HPE.out.2).mono ?_; rintro e W1 ⟨rfl, hb1⟩; rw [HRT2.out])))
                  all_goals go_wp2
                  all_goals first | (go_round; (exact ⟨i + 1, by omega, by go_num, HBK.out.trans ((‹_ ∧ _ ∧ Below wr.heap.size wr _›.2.2).mono HSZ.out)⟩); (simp [intOf]; omega)) | exact ⟨⟨i + 1, by omega, by go_num, HBK.out.trans ((‹_ ∧ _ ∧ Below wr.heap.size wr _›.2.2).mono HSZ.out)⟩, by simp [intOf]; omega⟩
                · have h0' : decide ((0 : Int) < (len : Int)) = false := decide_eq_false (by omega)
                  have h0'' : decide (0 < len) = false := decide_eq_false h0
                  clear hrl h0
                  go_wp2
                  go_quiet (fail)
                  go_wp2
                  go_round
                  case rel => exact ⟨i + 1, by omega, by go_num, below_drewN HBK.out _⟩
                  case measure => simp [intOf]; omega
              · have hpb : (l[i].per == 0) = false := by simp [hp]
                clear hp hz
                clear hrl
                go_wp2
                go_quiet (fail)
                go_wp2
                go_round
                case rel => exact ⟨i + 1, by omega, by go_num, below_drewN HBK.out _⟩
                case measure => simp [intOf]; omega
      · have h3' : (l[i].kind != 3) = true := by simp [h3]
        clear h3
        go_wp2
        go_round
        case rel => exact ⟨i + 1, by omega, by go_num, HBI.out⟩
        case measure => simp [intOf]; omega
    · have HBI := hid hbi
      clear hbi
      go_wp2
      go_ret
      exact ⟨rfl, HBI.out⟩
end Go.Proofs.Ytpnkkdpggofanaa
