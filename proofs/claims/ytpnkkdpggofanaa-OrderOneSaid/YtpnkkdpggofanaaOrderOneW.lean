/- vergelaw24.OrderOne, by its walk. -/
import Derived.Test.YtpnkkdpggofanaaOneLaw
import Derived.Test.YtpnkkdpggofanaaSpecRight
import Derived.Test.YtpnkkdpggofanaaAlive24
namespace Go.Proofs.Ytpnkkdpggofanaa
open Go.RowKit Go.Shelf Go.Sort

set_option maxRecDepth 1000000 in
set_option maxHeartbeats 40000000 in
theorem one_walk (n : Int) (l : List Ev) (ao : Option Addr) (c : Nat) (w : World) (h1 : Reads w (.slice ao l.length c) l.length (l.flatMap evC)) (hwf : ∀ e ∈ l, e.wf) (hcap : l.length ≤ c) (hn : l.length ≤ 9223372036854775807) :
    Calls Try.prog 9 #[.int .i64 n, .slice ao l.length c] w fun x w' => x = .returned (.bool true) ∧ Below w.heap.size w w' := by
  by_cases h100 : 100 < l.length
  · have h100z : (100 : Int) < (l.length : Int) := by omega
    go_enter Try.func9, Try.ntmps9
    go_wp2_with (go_at_call 17; refine (alive24_any _).mono ?_; rintro e w1 ⟨rfl, hb1⟩; have HB1 := hid hb1; clear hb1)
    go_ret
    exact ⟨rfl, HB1.out⟩
  have h100z : ¬ (100 : Int) < (l.length : Int) := by omega
  have HRD := hid h1
  have HCHK := hid (fun W (h : Reads W (.slice ao l.length c) l.length (l.flatMap evC)) => check_any n l _ W h hwf (by omega))
  have hrl := may_len n l
  have hle := may_le n l
  have HR := hid (fun W (h : Reads W (.slice ao l.length c) l.length (l.flatMap evC)) => show Reads W (.slice ao (playM (new n) l).2 c) (may n l).length ((may n l).flatMap evC) from by rw [may_len]; exact Reads.take h _ hle)
  have hall := may_all n l
  have hsl := serialOf_len (may n l)
  obtain ⟨er, hcv0⟩ : ∃ er, chkV n l = .tuple #[.int .i64 ((playM (new n) l).2 : Int), .int .i64 er] := ⟨_, rfl⟩
  have hcv := hid hcv0
  clear hcv0
  generalize may n l = r at *
  generalize hp : (playM (new n) l).2 = p at *
  obtain ⟨hsall, htrip, _, _, _, hcnt⟩ := serial_law hall
  have HW := hid (fun k (h : k < r.length) => (pinv_of hall).ev k r[k] (List.getElem?_eq_getElem h))
  have HWS := hid (fun k (h : k < (serialOf r).length) => (pinv_of hsall).ev k (serialOf r)[k] (List.getElem?_eq_getElem h))
  have HOS := hid (fun k (h : k < (serialOf r).length) => open_step hsall htrip (List.getElem?_eq_getElem h))
  have HOE := hid (open_end hsall htrip)
  have HCT := hid hcnt
  have HEND := hid (fun o (ho : o ∈ opsOf r) (h0 : 0 ≤ o.fin) => op_end hall ho h0)
  have HDID := hid (fun o (ho : o ∈ opsOf r) (h0 : 0 ≤ o.did) => op_did hall ho h0)
  have hsl' : (serialOf r).length ≤ 300 := by omega
  have hol : (opsOf r).length ≤ 100 := by have := opsOf_len r; omega
  have HSER := hid (fun W (h : Reads W (.slice ao p c) r.length (r.flatMap evC)) => serial_any r _ W (by rw [hrl] at h ⊢; exact h) (by omega))
  have HOPS := hid (fun W (h : Reads W (.slice ao p c) r.length (r.flatMap evC)) => ops_any r _ W (by rw [hrl] at h ⊢; exact h) (by omega))
  have HRL := hid hrl
  generalize serialOf r = s at *
  generalize opsOf r = os at *
  have hz : ¬ ((p : Int) < 0) := by omega
  have hz2 : ¬ ((l.length : Int) < (p : Int)) := by omega
  have hz3 : (p : Int) ≤ (c : Int) := by omega
  have hz4 : ¬ ((c : Int) < (p : Int)) := by omega
  have hz5 : min (p : Int) (l.length : Int) = (p : Int) := by omega
  have hmm := @run_makeMap Try.prog
  clear h1 hwf hsl hp hall hsall htrip hcnt
  go_enter Try.func9, Try.ntmps9
  go_wp2_with (first
    | (go_at_call 17; refine (alive24_any _).mono ?_; rintro e w1 ⟨rfl, hb1⟩; have HB1 := hid hb1; clear hb1)
    | (go_at_call 16; refine (HCHK.out w1 (HRD.out.below HB1.out (Nat.le_refl _))).mono ?_; rintro x w2 ⟨rfl, hb2⟩; rw [hcv.out]; have HB2 := hid (HB1.out.trans (hb2.mono HB1.out.size)); clear hb2)
    | (go_at_call 32; refine (HSER.out w2 (HR.out w2 (HRD.out.below HB2.out (Nat.le_refl _)))).mono ?_; rintro x w3 ⟨v3, rfl, ho3, hb3⟩; obtain ⟨ao3, c3, rfl⟩ := owns_shape ho3; have HO3 := hid (Reads.of_owns ho3); have HB3 := hid (HB2.out.trans (hb3.mono HB2.out.size)); clear ho3 hb3)
    | fail)
  have HR3 := hid (HR.out w3 (HRD.out.below HB3.out (Nat.le_refl _)))
  have HCR : Hid (∀ k (h : k < r.length), ∃ b o, ao = some ⟨b, o, none⟩ ∧ ∀ j u, (evC r[k])[j]? = some u → w3.cell? ⟨b, o + k * 10 + j, none⟩ = some u) := by
    intro k h
    obtain ⟨ao', c', hv, hx⟩ := HR3.out.evs
    simp only [Value.slice.injEq] at hv
    obtain ⟨rfl, _, rfl⟩ := hv
    exact hx k _ (List.getElem?_eq_getElem h)
  have HCS : Hid (∀ k (h : k < s.length), ∃ b o, ao3 = some ⟨b, o, none⟩ ∧ ∀ j u, (evC s[k])[j]? = some u → w3.cell? ⟨b, o + k * 10 + j, none⟩ = some u) := by
    intro k h
    obtain ⟨ao', c', hv, hx⟩ := HO3.out.evs
    simp only [Value.slice.injEq] at hv
    obtain ⟨rfl, _, rfl⟩ := hv
    exact hx k _ (List.getElem?_eq_getElem h)
  obtain ⟨w4, hw4⟩ : ∃ w4, w4 = w3.alloc (.map #[] 0) := ⟨_, rfl⟩
  have hM4 := MapIs.made (enc := keyW) (encV := Value.int .i64) w3
  have hB4 := (Below.refl w3.heap.size w3).alloc (Nat.le_refl _) (.map #[] 0)
  rw [← hw4] at hM4 hB4
  rw [← hw4]
  have HM4 := hid hM4
  have HB4 := hid hB4
  clear hM4 hB4 hw4 HB1 HB2
  go_loopw [11] (fun iv wr => ∃ k : Nat, k ≤ p ∧ iv = .int .i64 k ∧ Below w3.heap.size w3 wr ∧ ∃ m, MapIs keyW (Value.int .i64) wr w3.heap.size m ∧ Cnt m (cntK r k)) (fun iv _ => p - (intOf iv).toNat)
  case atStart => exact ⟨0, by omega, rfl, HB4.out, [], HM4.out, Cnt.nil.eq (fun q => cntK_zero r q)⟩
  case round =>
  clear HM4 HB4
  obtain ⟨k, hk, rfl, hB, m, hM, hC⟩ := hrel
  have HB := hid hB
  have HM := hid hM
  have HCN := hid hC
  have hsz := hB.size
  clear hB hM hC
  by_cases hlt : k < p
  · have hlr : k < r.length := by omega
    obtain ⟨b, o, hao, hc⟩ := HCR.out k hlr
    obtain rfl := hao
    have HC := hid hc
    have HWX := hid (HW.out k hlr)
    have HNOT := hid (fun h => cntK_not (l := r) hlr h)
    have HANS := hid (fun h => cntK_ans (l := r) hlr h)
    have HCB := hid (cntK_bound r k (keyE r[k]))
    have q0 : wr.cell? ⟨b, o + k * 10, none⟩ = some (.int .i64 r[k].kind) := (HB.out.cell (World.block_lt_of_cell? _ _ (hc 0 _ rfl))).trans (hc 0 _ rfl)
    clear hc
    generalize r[k] = x at *
    by_cases h2 : x.kind = 2
    · have hk2 : (x.kind == 2) = true := by simp [h2]
      have HA := hid (HANS.out h2)
      obtain ⟨hw1, hw7⟩ : 1 ≤ x.what ∧ x.what ≤ 7 := by obtain ⟨_, _, _, _, _, _, h1, h2⟩ := HWX.out; exact ⟨h1, h2⟩
      obtain ⟨st, w5, he1, he2, he3, he4, he5⟩ := entry_cnt (W := wr.drew) (HM.out.kept rfl) HCN.out (keyE x)
      have hlk := look_cnt (W := wr.drew) (HM.out.kept rfl) HCN.out (keyE x)
      have hcb := HCB.out
      obtain ⟨cv, hcv⟩ : ∃ cv, cv = cntK r k (keyE x) := ⟨_, rfl⟩
      have HCV := hid hcv
      rw [← hcv] at he1 he2 hlk
      have hwv : IntKind.i64.wrap (cv + 1) = cv + 1 := by rw [IntKind.wrap_i64]; omega
      obtain ⟨w6, hf1, hf2, hf3, hf4⟩ := he5 (cv + 1)
      have hs5 : Below w3.heap.size w3 w5 := HB.out.drew.grown he3 hsz (fun j e => by cases e; exact Nat.le_refl _)
      have hs6 : Below w3.heap.size w3 w6 := hs5.grown hf3 hs5.size (fun j e => by cases e; exact Nat.le_refl _)
      have HLK := hid (show (Instr.lookup 56 (.map (some w3.heap.size)) (.agg #[.int .u64 x.what, .int .u64 x.id, .int .u64 x.gen]) false).run Try.prog wr.drew = .ok (.int .i64 cv) wr.drew from hlk)
      have HE1 := hid (show (Instr.mapEntry 56 (.map (some w3.heap.size)) (.agg #[.int .u64 x.what, .int .u64 x.id, .int .u64 x.gen])).run Try.prog wr.drew = .ok (.tuple #[.int .i64 cv, goInt st]) w5 from he1)
      have HE2 := hid (show (Instr.lookup 56 (.map (some w3.heap.size)) (.agg #[.int .u64 x.what, .int .u64 x.id, .int .u64 x.gen]) false).run Try.prog w5 = .ok (.int .i64 cv) w5 from he2)
      have HF1 := hid (show (Instr.entryStore 56 (.map (some w3.heap.size)) (.int .i64 (st : Int)) (.int .i64 (cv + 1))).run Try.prog w5 = .ok () w6 from hf1)
      have HS5 := hid hs5
      have HS6 := hid hs6
      have HM6 := hid hf2
      clear hlk he1 he2 he3 he4 he5 hf1 hf2 hf3 hf4 hs5 hs6 hcv
      have hwr : IntKind.u64.wrap x.what = x.what := by simp only [IntKind.wrap, IntKind.bits, IntKind.signed]; simp; omega
      clear h2
      go_wp2
      refine wp_region_held_drew (S := fun W => Below w3.heap.size w3 W) (by kernel_rfl) HB.out.drew (fun hS => ?_)
      show wpAnyH _ _ _ _ _ 23 _ _ wr.drew
      refine wpAnyH_take (i := 0) (v := .map (some w3.heap.size)) rfl (by kernel_rfl) (by kernel_rfl) (by kernel_rfl) (fun _ _ _ h => h) (Or.inl ⟨by rfl, fun W hSw => (by go_simp)⟩) hS ?_
      refine wpAnyH_take (i := 1) (v := .slice (some ⟨b, o, none⟩) p c) rfl (by kernel_rfl) (by kernel_rfl) (by kernel_rfl) (fun _ _ _ h => h) (Or.inl ⟨by rfl, fun W hSw => (by go_simp)⟩) hS ?_
      refine wpAnyH_take (i := 2) (v := .int .i64 k) rfl (by kernel_rfl) (by kernel_rfl) (by kernel_rfl) (fun _ _ _ h => h) (Or.inl ⟨by rfl, fun W hSw => (by go_simp)⟩) hS ?_
      refine wpAnyH_take (i := 3) (v := .pointer (some ⟨b, o + k * 10, none⟩)) rfl (by kernel_rfl) (by kernel_rfl) (by kernel_rfl) (fun _ _ _ h => h) (Or.inl ⟨by rfl, fun W hSw => (by go_simp)⟩) hS ?_
      refine wpAnyH_take (i := 4) (v := .pointer (some ⟨b, o + k * 10 + 3, none⟩)) rfl (by kernel_rfl) (by kernel_rfl) (by kernel_rfl) (fun _ _ _ h => h) (Or.inl ⟨by rfl, fun W hSw => (by go_simp)⟩) hS ?_
      refine wpAnyH_take (i := 5) (v := .int .i64 x.what) rfl (by kernel_rfl) (by kernel_rfl) (by kernel_rfl) (fun _ _ _ h => h) (Or.inl ⟨by rfl, fun W hSw => (by have qq := (show W.cell? ⟨b, o + k * 10 + 3, none⟩ = some (.int .i64 x.what) from (hSw.cell (World.block_lt_of_cell? _ _ (HC.out 3 _ rfl))).trans (HC.out 3 _ rfl)); go_simp)⟩) hS ?_
      refine wpAnyH_take (i := 6) (v := .int .u64 x.what) rfl (by kernel_rfl) (by kernel_rfl) (by kernel_rfl) (fun _ _ _ h => h) (Or.inl ⟨by rfl, fun W hSw => (by go_simp)⟩) hS ?_
      refine wpAnyH_take (i := 7) (v := .slice (some ⟨b, o, none⟩) p c) rfl (by kernel_rfl) (by kernel_rfl) (by kernel_rfl) (fun _ _ _ h => h) (Or.inl ⟨by rfl, fun W hSw => (by go_simp)⟩) hS ?_
      refine wpAnyH_take (i := 8) (v := .int .i64 k) rfl (by kernel_rfl) (by kernel_rfl) (by kernel_rfl) (fun _ _ _ h => h) (Or.inl ⟨by rfl, fun W hSw => (by go_simp)⟩) hS ?_
      refine wpAnyH_take (i := 9) (v := .pointer (some ⟨b, o + k * 10, none⟩)) rfl (by kernel_rfl) (by kernel_rfl) (by kernel_rfl) (fun _ _ _ h => h) (Or.inl ⟨by rfl, fun W hSw => (by go_simp)⟩) hS ?_
      refine wpAnyH_take (i := 10) (v := .pointer (some ⟨b, o + k * 10 + 4, none⟩)) rfl (by kernel_rfl) (by kernel_rfl) (by kernel_rfl) (fun _ _ _ h => h) (Or.inl ⟨by rfl, fun W hSw => (by go_simp)⟩) hS ?_
      refine wpAnyH_take (i := 11) (v := .int .u64 x.id) rfl (by kernel_rfl) (by kernel_rfl) (by kernel_rfl) (fun _ _ _ h => h) (Or.inl ⟨by rfl, fun W hSw => (by have qq := (show W.cell? ⟨b, o + k * 10 + 4, none⟩ = some (.int .u64 x.id) from (hSw.cell (World.block_lt_of_cell? _ _ (HC.out 4 _ rfl))).trans (HC.out 4 _ rfl)); go_simp)⟩) hS ?_
      refine wpAnyH_take (i := 12) (v := .slice (some ⟨b, o, none⟩) p c) rfl (by kernel_rfl) (by kernel_rfl) (by kernel_rfl) (fun _ _ _ h => h) (Or.inl ⟨by rfl, fun W hSw => (by go_simp)⟩) hS ?_
      refine wpAnyH_take (i := 13) (v := .int .i64 k) rfl (by kernel_rfl) (by kernel_rfl) (by kernel_rfl) (fun _ _ _ h => h) (Or.inl ⟨by rfl, fun W hSw => (by go_simp)⟩) hS ?_
      refine wpAnyH_take (i := 14) (v := .pointer (some ⟨b, o + k * 10, none⟩)) rfl (by kernel_rfl) (by kernel_rfl) (by kernel_rfl) (fun _ _ _ h => h) (Or.inl ⟨by rfl, fun W hSw => (by go_simp)⟩) hS ?_
      refine wpAnyH_take (i := 15) (v := .pointer (some ⟨b, o + k * 10 + 5, none⟩)) rfl (by kernel_rfl) (by kernel_rfl) (by kernel_rfl) (fun _ _ _ h => h) (Or.inl ⟨by rfl, fun W hSw => (by go_simp)⟩) hS ?_
      refine wpAnyH_take (i := 16) (v := .int .u64 x.gen) rfl (by kernel_rfl) (by kernel_rfl) (by kernel_rfl) (fun _ _ _ h => h) (Or.inl ⟨by rfl, fun W hSw => (by have qq := (show W.cell? ⟨b, o + k * 10 + 5, none⟩ = some (.int .u64 x.gen) from (hSw.cell (World.block_lt_of_cell? _ _ (HC.out 5 _ rfl))).trans (HC.out 5 _ rfl)); go_simp)⟩) hS ?_
      refine wpAnyH_take (i := 17) (v := .agg #[.int .u64 x.what, .int .u64 x.id, .int .u64 x.gen]) rfl (by kernel_rfl) (by kernel_rfl) (by kernel_rfl) (fun _ _ _ h => h) (Or.inl ⟨by rfl, fun W hSw => (by go_simp)⟩) hS ?_
      refine wpAnyH_two (i := 18) (k := 20) (by kernel_rfl) rfl rfl ?_ ?_
      · intro K hK
        have hff := HLK.out
        go_simp
        refine hK.out _ _ hS ?_
        clear hK K hff
        refine wpAnyH_take (i := 19) (v := .int .i64 (cv + 1)) rfl (by kernel_rfl) (by kernel_rfl) (by kernel_rfl) (fun _ _ _ h => h) (Or.inl ⟨by rfl, fun W hSw => (by go_simp)⟩) hS ?_
        refine wpAnyH_one (k := 20) (by kernel_rfl) rfl (fun K hK => ?_)
        have hff := HE1.out
        go_simp
        refine hK.out _ _ HS5.out ?_
        clear hK K hff
        refine wpAnyH_take (i := 21) (v := goInt st) rfl (by kernel_rfl) (by kernel_rfl) (by kernel_rfl) (fun _ _ _ h => h) (Or.inl ⟨by rfl, fun W hSw => (by go_simp)⟩) HS5.out ?_
        refine wpAnyH_one (k := 22) (by kernel_rfl) rfl (fun K hK => ?_)
        have hff := HF1.out
        go_simp
        refine hK.out _ _ HS6.out ?_
        clear hK K hff
        refine wpAnyH_done (by kernel_rfl) ?_ _
        go_wp2
        go_roundw
        case rel => exact ⟨k + 1, by omega, by go_num, HS6.out, _, HM6.out, HCN.out.put _ _ (fun q => by rw [HA.out, ← HCV.out])⟩
        case measure => simp [intOf]; omega
      · intro K hK
        have hff := HE1.out
        go_simp
        refine hK.out _ _ HS5.out ?_
        clear hK K hff
        refine wpAnyH_take (i := 21) (v := goInt st) rfl (by kernel_rfl) (by kernel_rfl) (by kernel_rfl) (fun _ _ _ h => h) (Or.inl ⟨by rfl, fun W hSw => (by go_simp)⟩) HS5.out ?_
        refine wpAnyH_one (k := 18) (by kernel_rfl) rfl (fun K hK => ?_)
        have hff := HE2.out
        go_simp
        refine hK.out _ _ HS5.out ?_
        clear hK K hff
        refine wpAnyH_take (i := 19) (v := .int .i64 (cv + 1)) rfl (by kernel_rfl) (by kernel_rfl) (by kernel_rfl) (fun _ _ _ h => h) (Or.inl ⟨by rfl, fun W hSw => (by go_simp)⟩) HS5.out ?_
        refine wpAnyH_one (k := 22) (by kernel_rfl) rfl (fun K hK => ?_)
        have hff := HF1.out
        go_simp
        refine hK.out _ _ HS6.out ?_
        clear hK K hff
        refine wpAnyH_done (by kernel_rfl) ?_ _
        go_wp2
        go_roundw
        case rel => exact ⟨k + 1, by omega, by go_num, HS6.out, _, HM6.out, HCN.out.put _ _ (fun q => by rw [HA.out, ← HCV.out])⟩
        case measure => simp [intOf]; omega
    · have hk2 : (x.kind == 2) = false := by simp [h2]
      have HN := hid (HNOT.out h2)
      clear h2
      go_wp2
      go_roundw
      case rel => exact ⟨k + 1, by omega, by go_num, HB.out, m, HM.out, HCN.out.eq HN.out⟩
      case measure => simp [intOf]; omega
  · obtain rfl : p = k := by omega
    have HCN2 := hid (HCN.out.eq (fun q => show cntK r r.length q - cntK s 0 q = cntK r p q by rw [cntK_zero, HRL.out]; omega))
    clear HCN hlt
    rename World => w00
    go_wp2
    go_loopw [9, 12] (fun ov iv wr => ∃ k2 : Nat, k2 ≤ s.length ∧ iv = .int .i64 k2 ∧ ov = .int .i64 (openOf s k2) ∧ Below w3.heap.size w3 wr ∧ ∃ m, MapIs keyW (Value.int .i64) wr w3.heap.size m ∧ Cnt m (fun q => cntK r r.length q - cntK s k2 q)) (fun _ iv _ => s.length - (intOf iv).toNat)
    case atStart => exact ⟨0, by omega, rfl, rfl, HB.out, m, HM.out, HCN2.out⟩
    case round =>
    clear HM HB HCN2 hsz m
    obtain ⟨k, hk, rfl, hov, hB, m, hM, hC⟩ := hrel
    have HB := hid hB
    have HM := hid hM
    have HCN := hid hC
    have hsz := hB.size
    clear hB hM hC
    by_cases hlt : k < s.length
    · obtain ⟨b, o, hao, hc⟩ := HCS.out k hlt
      obtain rfl := hao
      have HC := hid hc
      obtain ⟨hw1, hw7⟩ : 1 ≤ s[k].what ∧ s[k].what ≤ 7 := by obtain ⟨_, _, _, _, _, _, h1, h2⟩ := HWS.out k hlt; exact ⟨h1, h2⟩
      have HNOT := hid (fun h => cntK_not (l := s) hlt h)
      have HANS := hid (fun h => cntK_ans (l := s) hlt h)
      have HCB := hid (cntK_bound s k (keyE s[k]))
      have HCB2 := hid (cntK_bound r r.length (keyE s[k]))
      have HO := hid (HOS.out k hlt)
      have q0 : wr.cell? ⟨b, o + k * 10, none⟩ = some (.int .i64 s[k].kind) := (HB.out.cell (World.block_lt_of_cell? _ _ (hc 0 _ rfl))).trans (hc 0 _ rfl)
      have q3 : wr.cell? ⟨b, o + k * 10 + 3, none⟩ = some (.int .i64 s[k].what) := (HB.out.cell (World.block_lt_of_cell? _ _ (hc 3 _ rfl))).trans (hc 3 _ rfl)
      clear hc
      generalize s[k] = x at *
      have hwr : IntKind.u64.wrap x.what = x.what := by simp only [IntKind.wrap, IntKind.bits, IntKind.signed]; simp; omega
      have hd1 : decide (1 ≤ x.what) = true := decide_eq_true hw1
      by_cases hcl : x.what ≤ 5
      · have hd5 : decide (x.what ≤ 5) = true := decide_eq_true hcl
        by_cases h2 : x.kind = 2
        · have hk1 : (x.kind == 1) = false := by simp [h2]
          have hk2 : (x.kind == 2) = true := by simp [h2]
          have hop := HO.out.2.1 ⟨⟨hw1, hcl⟩, by omega⟩
          have HOP := hid (show openOf s (k + 1) = 0 by rw [HO.out.2.2.2, if_neg (fun h => h.2 h2)])
          rw [hop] at hov
          subst hov
          have HA := hid (HANS.out h2)
          obtain ⟨st, w5, he1, he2, he3, he4, he5⟩ := entry_cnt (W := wr.drew) (HM.out.kept rfl) HCN.out (keyE x)
          have hlk := look_cnt (W := wr.drew) (HM.out.kept rfl) HCN.out (keyE x)
          have hcb := HCB.out
          have hcb2 := HCB2.out
          obtain ⟨cv, hcv⟩ : ∃ cv, cv = cntK r r.length (keyE x) - cntK s k (keyE x) := ⟨_, rfl⟩
          have HCV := hid hcv
          rw [← hcv] at he1 he2 hlk
          have hwv : IntKind.i64.wrap (cv - 1) = cv - 1 := by rw [IntKind.wrap_i64]; omega
          obtain ⟨w6, hf1, hf2, hf3, hf4⟩ := he5 (cv - 1)
          have hs5 : Below w3.heap.size w3 w5 := HB.out.drew.grown he3 hsz (fun j e => by cases e; exact Nat.le_refl _)
          have hs6 : Below w3.heap.size w3 w6 := hs5.grown hf3 hs5.size (fun j e => by cases e; exact Nat.le_refl _)
          have HLK := hid (show (Instr.lookup 56 (.map (some w3.heap.size)) (.agg #[.int .u64 x.what, .int .u64 x.id, .int .u64 x.gen]) false).run Try.prog wr.drew = .ok (.int .i64 cv) wr.drew from hlk)
          have HE1 := hid (show (Instr.mapEntry 56 (.map (some w3.heap.size)) (.agg #[.int .u64 x.what, .int .u64 x.id, .int .u64 x.gen])).run Try.prog wr.drew = .ok (.tuple #[.int .i64 cv, goInt st]) w5 from he1)
          have HE2 := hid (show (Instr.lookup 56 (.map (some w3.heap.size)) (.agg #[.int .u64 x.what, .int .u64 x.id, .int .u64 x.gen]) false).run Try.prog w5 = .ok (.int .i64 cv) w5 from he2)
          have HF1 := hid (show (Instr.entryStore 56 (.map (some w3.heap.size)) (.int .i64 (st : Int)) (.int .i64 (cv - 1))).run Try.prog w5 = .ok () w6 from hf1)
          have HS5 := hid hs5
          have HS6 := hid hs6
          have HM6 := hid hf2
          clear hlk he1 he2 he3 he4 he5 hf1 hf2 hf3 hf4 hs5 hs6 hcv
          clear h2 hcl hop hw1 hw7
          go_wp2
          refine wp_region_held_drew (S := fun W => Below w3.heap.size w3 W) (by kernel_rfl) HB.out.drew (fun hS => ?_)
          show wpAnyH _ _ _ _ _ 23 _ _ wr.drew
          refine wpAnyH_take (i := 0) (v := .map (some w3.heap.size)) rfl (by kernel_rfl) (by kernel_rfl) (by kernel_rfl) (fun _ _ _ h => h) (Or.inl ⟨by rfl, fun W hSw => (by go_simp)⟩) hS ?_
          refine wpAnyH_take (i := 1) (v := .slice (some ⟨b, o, none⟩) s.length c3) rfl (by kernel_rfl) (by kernel_rfl) (by kernel_rfl) (fun _ _ _ h => h) (Or.inl ⟨by rfl, fun W hSw => (by go_simp)⟩) hS ?_
          refine wpAnyH_take (i := 2) (v := .int .i64 k) rfl (by kernel_rfl) (by kernel_rfl) (by kernel_rfl) (fun _ _ _ h => h) (Or.inl ⟨by rfl, fun W hSw => (by go_simp)⟩) hS ?_
          refine wpAnyH_take (i := 3) (v := .pointer (some ⟨b, o + k * 10, none⟩)) rfl (by kernel_rfl) (by kernel_rfl) (by kernel_rfl) (fun _ _ _ h => h) (Or.inl ⟨by rfl, fun W hSw => (by go_simp)⟩) hS ?_
          refine wpAnyH_take (i := 4) (v := .pointer (some ⟨b, o + k * 10 + 3, none⟩)) rfl (by kernel_rfl) (by kernel_rfl) (by kernel_rfl) (fun _ _ _ h => h) (Or.inl ⟨by rfl, fun W hSw => (by go_simp)⟩) hS ?_
          refine wpAnyH_take (i := 5) (v := .int .i64 x.what) rfl (by kernel_rfl) (by kernel_rfl) (by kernel_rfl) (fun _ _ _ h => h) (Or.inl ⟨by rfl, fun W hSw => (by have qq := (show W.cell? ⟨b, o + k * 10 + 3, none⟩ = some (.int .i64 x.what) from (hSw.cell (World.block_lt_of_cell? _ _ (HC.out 3 _ rfl))).trans (HC.out 3 _ rfl)); go_simp)⟩) hS ?_
          refine wpAnyH_take (i := 6) (v := .int .u64 x.what) rfl (by kernel_rfl) (by kernel_rfl) (by kernel_rfl) (fun _ _ _ h => h) (Or.inl ⟨by rfl, fun W hSw => (by go_simp)⟩) hS ?_
          refine wpAnyH_take (i := 7) (v := .slice (some ⟨b, o, none⟩) s.length c3) rfl (by kernel_rfl) (by kernel_rfl) (by kernel_rfl) (fun _ _ _ h => h) (Or.inl ⟨by rfl, fun W hSw => (by go_simp)⟩) hS ?_
          refine wpAnyH_take (i := 8) (v := .int .i64 k) rfl (by kernel_rfl) (by kernel_rfl) (by kernel_rfl) (fun _ _ _ h => h) (Or.inl ⟨by rfl, fun W hSw => (by go_simp)⟩) hS ?_
          refine wpAnyH_take (i := 9) (v := .pointer (some ⟨b, o + k * 10, none⟩)) rfl (by kernel_rfl) (by kernel_rfl) (by kernel_rfl) (fun _ _ _ h => h) (Or.inl ⟨by rfl, fun W hSw => (by go_simp)⟩) hS ?_
          refine wpAnyH_take (i := 10) (v := .pointer (some ⟨b, o + k * 10 + 4, none⟩)) rfl (by kernel_rfl) (by kernel_rfl) (by kernel_rfl) (fun _ _ _ h => h) (Or.inl ⟨by rfl, fun W hSw => (by go_simp)⟩) hS ?_
          refine wpAnyH_take (i := 11) (v := .int .u64 x.id) rfl (by kernel_rfl) (by kernel_rfl) (by kernel_rfl) (fun _ _ _ h => h) (Or.inl ⟨by rfl, fun W hSw => (by have qq := (show W.cell? ⟨b, o + k * 10 + 4, none⟩ = some (.int .u64 x.id) from (hSw.cell (World.block_lt_of_cell? _ _ (HC.out 4 _ rfl))).trans (HC.out 4 _ rfl)); go_simp)⟩) hS ?_
          refine wpAnyH_take (i := 12) (v := .slice (some ⟨b, o, none⟩) s.length c3) rfl (by kernel_rfl) (by kernel_rfl) (by kernel_rfl) (fun _ _ _ h => h) (Or.inl ⟨by rfl, fun W hSw => (by go_simp)⟩) hS ?_
          refine wpAnyH_take (i := 13) (v := .int .i64 k) rfl (by kernel_rfl) (by kernel_rfl) (by kernel_rfl) (fun _ _ _ h => h) (Or.inl ⟨by rfl, fun W hSw => (by go_simp)⟩) hS ?_
          refine wpAnyH_take (i := 14) (v := .pointer (some ⟨b, o + k * 10, none⟩)) rfl (by kernel_rfl) (by kernel_rfl) (by kernel_rfl) (fun _ _ _ h => h) (Or.inl ⟨by rfl, fun W hSw => (by go_simp)⟩) hS ?_
          refine wpAnyH_take (i := 15) (v := .pointer (some ⟨b, o + k * 10 + 5, none⟩)) rfl (by kernel_rfl) (by kernel_rfl) (by kernel_rfl) (fun _ _ _ h => h) (Or.inl ⟨by rfl, fun W hSw => (by go_simp)⟩) hS ?_
          refine wpAnyH_take (i := 16) (v := .int .u64 x.gen) rfl (by kernel_rfl) (by kernel_rfl) (by kernel_rfl) (fun _ _ _ h => h) (Or.inl ⟨by rfl, fun W hSw => (by have qq := (show W.cell? ⟨b, o + k * 10 + 5, none⟩ = some (.int .u64 x.gen) from (hSw.cell (World.block_lt_of_cell? _ _ (HC.out 5 _ rfl))).trans (HC.out 5 _ rfl)); go_simp)⟩) hS ?_
          refine wpAnyH_take (i := 17) (v := .agg #[.int .u64 x.what, .int .u64 x.id, .int .u64 x.gen]) rfl (by kernel_rfl) (by kernel_rfl) (by kernel_rfl) (fun _ _ _ h => h) (Or.inl ⟨by rfl, fun W hSw => (by go_simp)⟩) hS ?_
          refine wpAnyH_two (i := 18) (k := 20) (by kernel_rfl) rfl rfl ?_ ?_
          · intro K hK
            have hff := HLK.out
            go_simp
            refine hK.out _ _ hS ?_
            clear hK K hff
            refine wpAnyH_take (i := 19) (v := .int .i64 (cv - 1)) rfl (by kernel_rfl) (by kernel_rfl) (by kernel_rfl) (fun _ _ _ h => h) (Or.inl ⟨by rfl, fun W hSw => (by go_simp)⟩) hS ?_
            refine wpAnyH_one (k := 20) (by kernel_rfl) rfl (fun K hK => ?_)
            have hff := HE1.out
            go_simp
            refine hK.out _ _ HS5.out ?_
            clear hK K hff
            refine wpAnyH_take (i := 21) (v := goInt st) rfl (by kernel_rfl) (by kernel_rfl) (by kernel_rfl) (fun _ _ _ h => h) (Or.inl ⟨by rfl, fun W hSw => (by go_simp)⟩) HS5.out ?_
            refine wpAnyH_one (k := 22) (by kernel_rfl) rfl (fun K hK => ?_)
            have hff := HF1.out
            go_simp
            refine hK.out _ _ HS6.out ?_
            clear hK K hff
            refine wpAnyH_done (by kernel_rfl) ?_ _
            go_wp2
            go_roundw
            case rel => exact ⟨k + 1, by omega, by go_num, by rw [HOP.out], HS6.out, _, HM6.out, HCN.out.put _ _ (cnt_less HCV.out HA.out)⟩
            case measure => simp [intOf]; omega
          · intro K hK
            have hff := HE1.out
            go_simp
            refine hK.out _ _ HS5.out ?_
            clear hK K hff
            refine wpAnyH_take (i := 21) (v := goInt st) rfl (by kernel_rfl) (by kernel_rfl) (by kernel_rfl) (fun _ _ _ h => h) (Or.inl ⟨by rfl, fun W hSw => (by go_simp)⟩) HS5.out ?_
            refine wpAnyH_one (k := 18) (by kernel_rfl) rfl (fun K hK => ?_)
            have hff := HE2.out
            go_simp
            refine hK.out _ _ HS5.out ?_
            clear hK K hff
            refine wpAnyH_take (i := 19) (v := .int .i64 (cv - 1)) rfl (by kernel_rfl) (by kernel_rfl) (by kernel_rfl) (fun _ _ _ h => h) (Or.inl ⟨by rfl, fun W hSw => (by go_simp)⟩) HS5.out ?_
            refine wpAnyH_one (k := 22) (by kernel_rfl) rfl (fun K hK => ?_)
            have hff := HF1.out
            go_simp
            refine hK.out _ _ HS6.out ?_
            clear hK K hff
            refine wpAnyH_done (by kernel_rfl) ?_ _
            go_wp2
            go_roundw
            case rel => exact ⟨k + 1, by omega, by go_num, by rw [HOP.out], HS6.out, _, HM6.out, HCN.out.put _ _ (cnt_less HCV.out HA.out)⟩
            case measure => simp [intOf]; omega
        · have hk2 : (x.kind == 2) = false := by simp [h2]
          have HN := hid (HNOT.out h2)
          have HOP := hid (show openOf s (k + 1) = 1 by rw [HO.out.2.2.2, if_pos ⟨⟨hw1, hcl⟩, h2⟩])
          by_cases h1 : x.kind = 1
          · have hk1 : (x.kind == 1) = true := by simp [h1]
            have hop := HO.out.1 ⟨⟨hw1, hcl⟩, h1⟩
            rw [hop] at hov
            subst hov
            clear h1 h2 hcl hop hw1 hw7
            go_wp2
            go_roundw
            case rel => exact ⟨k + 1, by omega, by go_num, by rw [HOP.out], HB.out, m, HM.out, HCN.out.eq (fun q => by rw [HN.out])⟩
            case measure => simp [intOf]; omega
          · have hk1 : (x.kind == 1) = false := by simp [h1]
            have hop := HO.out.2.1 ⟨⟨hw1, hcl⟩, h1⟩
            rw [hop] at hov
            subst hov
            clear h1 h2 hcl hop hw1 hw7
            go_wp2
            go_roundw
            case rel => exact ⟨k + 1, by omega, by go_num, by rw [HOP.out], HB.out, m, HM.out, HCN.out.eq (fun q => by rw [HN.out])⟩
            case measure => simp [intOf]; omega
      · have hd5 : decide (x.what ≤ 5) = false := decide_eq_false hcl
        have hop := HO.out.2.2.1 (fun h => hcl h.2)
        have HOP := hid (show openOf s (k + 1) = 0 by rw [HO.out.2.2.2, if_neg (fun h => hcl h.1.2)])
        rw [hop] at hov
        subst hov
        by_cases h2 : x.kind = 2
        · have hk2 : (x.kind == 2) = true := by simp [h2]
          have HA := hid (HANS.out h2)
          obtain ⟨st, w5, he1, he2, he3, he4, he5⟩ := entry_cnt (W := wr.drew) (HM.out.kept rfl) HCN.out (keyE x)
          have hlk := look_cnt (W := wr.drew) (HM.out.kept rfl) HCN.out (keyE x)
          have hcb := HCB.out
          have hcb2 := HCB2.out
          obtain ⟨cv, hcv⟩ : ∃ cv, cv = cntK r r.length (keyE x) - cntK s k (keyE x) := ⟨_, rfl⟩
          have HCV := hid hcv
          rw [← hcv] at he1 he2 hlk
          have hwv : IntKind.i64.wrap (cv - 1) = cv - 1 := by rw [IntKind.wrap_i64]; omega
          obtain ⟨w6, hf1, hf2, hf3, hf4⟩ := he5 (cv - 1)
          have hs5 : Below w3.heap.size w3 w5 := HB.out.drew.grown he3 hsz (fun j e => by cases e; exact Nat.le_refl _)
          have hs6 : Below w3.heap.size w3 w6 := hs5.grown hf3 hs5.size (fun j e => by cases e; exact Nat.le_refl _)
          have HLK := hid (show (Instr.lookup 56 (.map (some w3.heap.size)) (.agg #[.int .u64 x.what, .int .u64 x.id, .int .u64 x.gen]) false).run Try.prog wr.drew = .ok (.int .i64 cv) wr.drew from hlk)
          have HE1 := hid (show (Instr.mapEntry 56 (.map (some w3.heap.size)) (.agg #[.int .u64 x.what, .int .u64 x.id, .int .u64 x.gen])).run Try.prog wr.drew = .ok (.tuple #[.int .i64 cv, goInt st]) w5 from he1)
          have HE2 := hid (show (Instr.lookup 56 (.map (some w3.heap.size)) (.agg #[.int .u64 x.what, .int .u64 x.id, .int .u64 x.gen]) false).run Try.prog w5 = .ok (.int .i64 cv) w5 from he2)
          have HF1 := hid (show (Instr.entryStore 56 (.map (some w3.heap.size)) (.int .i64 (st : Int)) (.int .i64 (cv - 1))).run Try.prog w5 = .ok () w6 from hf1)
          have HS5 := hid hs5
          have HS6 := hid hs6
          have HM6 := hid hf2
          clear hlk he1 he2 he3 he4 he5 hf1 hf2 hf3 hf4 hs5 hs6 hcv
          clear h2 hcl hop hw1 hw7
          go_wp2
          refine wp_region_held_drew (S := fun W => Below w3.heap.size w3 W) (by kernel_rfl) HB.out.drew (fun hS => ?_)
          show wpAnyH _ _ _ _ _ 23 _ _ wr.drew
          refine wpAnyH_take (i := 0) (v := .map (some w3.heap.size)) rfl (by kernel_rfl) (by kernel_rfl) (by kernel_rfl) (fun _ _ _ h => h) (Or.inl ⟨by rfl, fun W hSw => (by go_simp)⟩) hS ?_
          refine wpAnyH_take (i := 1) (v := .slice (some ⟨b, o, none⟩) s.length c3) rfl (by kernel_rfl) (by kernel_rfl) (by kernel_rfl) (fun _ _ _ h => h) (Or.inl ⟨by rfl, fun W hSw => (by go_simp)⟩) hS ?_
          refine wpAnyH_take (i := 2) (v := .int .i64 k) rfl (by kernel_rfl) (by kernel_rfl) (by kernel_rfl) (fun _ _ _ h => h) (Or.inl ⟨by rfl, fun W hSw => (by go_simp)⟩) hS ?_
          refine wpAnyH_take (i := 3) (v := .pointer (some ⟨b, o + k * 10, none⟩)) rfl (by kernel_rfl) (by kernel_rfl) (by kernel_rfl) (fun _ _ _ h => h) (Or.inl ⟨by rfl, fun W hSw => (by go_simp)⟩) hS ?_
          refine wpAnyH_take (i := 4) (v := .pointer (some ⟨b, o + k * 10 + 3, none⟩)) rfl (by kernel_rfl) (by kernel_rfl) (by kernel_rfl) (fun _ _ _ h => h) (Or.inl ⟨by rfl, fun W hSw => (by go_simp)⟩) hS ?_
          refine wpAnyH_take (i := 5) (v := .int .i64 x.what) rfl (by kernel_rfl) (by kernel_rfl) (by kernel_rfl) (fun _ _ _ h => h) (Or.inl ⟨by rfl, fun W hSw => (by have qq := (show W.cell? ⟨b, o + k * 10 + 3, none⟩ = some (.int .i64 x.what) from (hSw.cell (World.block_lt_of_cell? _ _ (HC.out 3 _ rfl))).trans (HC.out 3 _ rfl)); go_simp)⟩) hS ?_
          refine wpAnyH_take (i := 6) (v := .int .u64 x.what) rfl (by kernel_rfl) (by kernel_rfl) (by kernel_rfl) (fun _ _ _ h => h) (Or.inl ⟨by rfl, fun W hSw => (by go_simp)⟩) hS ?_
          refine wpAnyH_take (i := 7) (v := .slice (some ⟨b, o, none⟩) s.length c3) rfl (by kernel_rfl) (by kernel_rfl) (by kernel_rfl) (fun _ _ _ h => h) (Or.inl ⟨by rfl, fun W hSw => (by go_simp)⟩) hS ?_
          refine wpAnyH_take (i := 8) (v := .int .i64 k) rfl (by kernel_rfl) (by kernel_rfl) (by kernel_rfl) (fun _ _ _ h => h) (Or.inl ⟨by rfl, fun W hSw => (by go_simp)⟩) hS ?_
          refine wpAnyH_take (i := 9) (v := .pointer (some ⟨b, o + k * 10, none⟩)) rfl (by kernel_rfl) (by kernel_rfl) (by kernel_rfl) (fun _ _ _ h => h) (Or.inl ⟨by rfl, fun W hSw => (by go_simp)⟩) hS ?_
          refine wpAnyH_take (i := 10) (v := .pointer (some ⟨b, o + k * 10 + 4, none⟩)) rfl (by kernel_rfl) (by kernel_rfl) (by kernel_rfl) (fun _ _ _ h => h) (Or.inl ⟨by rfl, fun W hSw => (by go_simp)⟩) hS ?_
          refine wpAnyH_take (i := 11) (v := .int .u64 x.id) rfl (by kernel_rfl) (by kernel_rfl) (by kernel_rfl) (fun _ _ _ h => h) (Or.inl ⟨by rfl, fun W hSw => (by have qq := (show W.cell? ⟨b, o + k * 10 + 4, none⟩ = some (.int .u64 x.id) from (hSw.cell (World.block_lt_of_cell? _ _ (HC.out 4 _ rfl))).trans (HC.out 4 _ rfl)); go_simp)⟩) hS ?_
          refine wpAnyH_take (i := 12) (v := .slice (some ⟨b, o, none⟩) s.length c3) rfl (by kernel_rfl) (by kernel_rfl) (by kernel_rfl) (fun _ _ _ h => h) (Or.inl ⟨by rfl, fun W hSw => (by go_simp)⟩) hS ?_
          refine wpAnyH_take (i := 13) (v := .int .i64 k) rfl (by kernel_rfl) (by kernel_rfl) (by kernel_rfl) (fun _ _ _ h => h) (Or.inl ⟨by rfl, fun W hSw => (by go_simp)⟩) hS ?_
          refine wpAnyH_take (i := 14) (v := .pointer (some ⟨b, o + k * 10, none⟩)) rfl (by kernel_rfl) (by kernel_rfl) (by kernel_rfl) (fun _ _ _ h => h) (Or.inl ⟨by rfl, fun W hSw => (by go_simp)⟩) hS ?_
          refine wpAnyH_take (i := 15) (v := .pointer (some ⟨b, o + k * 10 + 5, none⟩)) rfl (by kernel_rfl) (by kernel_rfl) (by kernel_rfl) (fun _ _ _ h => h) (Or.inl ⟨by rfl, fun W hSw => (by go_simp)⟩) hS ?_
          refine wpAnyH_take (i := 16) (v := .int .u64 x.gen) rfl (by kernel_rfl) (by kernel_rfl) (by kernel_rfl) (fun _ _ _ h => h) (Or.inl ⟨by rfl, fun W hSw => (by have qq := (show W.cell? ⟨b, o + k * 10 + 5, none⟩ = some (.int .u64 x.gen) from (hSw.cell (World.block_lt_of_cell? _ _ (HC.out 5 _ rfl))).trans (HC.out 5 _ rfl)); go_simp)⟩) hS ?_
          refine wpAnyH_take (i := 17) (v := .agg #[.int .u64 x.what, .int .u64 x.id, .int .u64 x.gen]) rfl (by kernel_rfl) (by kernel_rfl) (by kernel_rfl) (fun _ _ _ h => h) (Or.inl ⟨by rfl, fun W hSw => (by go_simp)⟩) hS ?_
          refine wpAnyH_two (i := 18) (k := 20) (by kernel_rfl) rfl rfl ?_ ?_
          · intro K hK
            have hff := HLK.out
            go_simp
            refine hK.out _ _ hS ?_
            clear hK K hff
            refine wpAnyH_take (i := 19) (v := .int .i64 (cv - 1)) rfl (by kernel_rfl) (by kernel_rfl) (by kernel_rfl) (fun _ _ _ h => h) (Or.inl ⟨by rfl, fun W hSw => (by go_simp)⟩) hS ?_
            refine wpAnyH_one (k := 20) (by kernel_rfl) rfl (fun K hK => ?_)
            have hff := HE1.out
            go_simp
            refine hK.out _ _ HS5.out ?_
            clear hK K hff
            refine wpAnyH_take (i := 21) (v := goInt st) rfl (by kernel_rfl) (by kernel_rfl) (by kernel_rfl) (fun _ _ _ h => h) (Or.inl ⟨by rfl, fun W hSw => (by go_simp)⟩) HS5.out ?_
            refine wpAnyH_one (k := 22) (by kernel_rfl) rfl (fun K hK => ?_)
            have hff := HF1.out
            go_simp
            refine hK.out _ _ HS6.out ?_
            clear hK K hff
            refine wpAnyH_done (by kernel_rfl) ?_ _
            go_wp2
            go_roundw
            case rel => exact ⟨k + 1, by omega, by go_num, by rw [HOP.out], HS6.out, _, HM6.out, HCN.out.put _ _ (cnt_less HCV.out HA.out)⟩
            case measure => simp [intOf]; omega
          · intro K hK
            have hff := HE1.out
            go_simp
            refine hK.out _ _ HS5.out ?_
            clear hK K hff
            refine wpAnyH_take (i := 21) (v := goInt st) rfl (by kernel_rfl) (by kernel_rfl) (by kernel_rfl) (fun _ _ _ h => h) (Or.inl ⟨by rfl, fun W hSw => (by go_simp)⟩) HS5.out ?_
            refine wpAnyH_one (k := 18) (by kernel_rfl) rfl (fun K hK => ?_)
            have hff := HE2.out
            go_simp
            refine hK.out _ _ HS5.out ?_
            clear hK K hff
            refine wpAnyH_take (i := 19) (v := .int .i64 (cv - 1)) rfl (by kernel_rfl) (by kernel_rfl) (by kernel_rfl) (fun _ _ _ h => h) (Or.inl ⟨by rfl, fun W hSw => (by go_simp)⟩) HS5.out ?_
            refine wpAnyH_one (k := 22) (by kernel_rfl) rfl (fun K hK => ?_)
            have hff := HF1.out
            go_simp
            refine hK.out _ _ HS6.out ?_
            clear hK K hff
            refine wpAnyH_done (by kernel_rfl) ?_ _
            go_wp2
            go_roundw
            case rel => exact ⟨k + 1, by omega, by go_num, by rw [HOP.out], HS6.out, _, HM6.out, HCN.out.put _ _ (cnt_less HCV.out HA.out)⟩
            case measure => simp [intOf]; omega
        · have hk2 : (x.kind == 2) = false := by simp [h2]
          have HN := hid (HNOT.out h2)
          clear h2 hcl hop hw1 hw7
          go_wp2
          go_roundw
          case rel => exact ⟨k + 1, by omega, by go_num, by rw [HOP.out], HB.out, m, HM.out, HCN.out.eq (fun q => by rw [HN.out])⟩
          case measure => simp [intOf]; omega
    · obtain rfl : k = s.length := by omega
      rw [HOE.out] at hov
      subst hov
      have HM3 := hid HM.out
      have HCN3 := hid HCN.out
      have HLE := hid (fun q => show cntK r r.length q - cntK s s.length q ≤ 0 by
        have := HCT.out q.1 q.2.1 q.2.2
        unfold cntK
        rw [List.take_length, List.take_length]
        omega)
      clear HM HCN hk hlt hsz
      rename World => w01
      go_wp2
      go_loopw [14] (fun iv wr => ∃ k3 : Nat, k3 ≤ p ∧ iv = .int .i64 k3 ∧ Below w3.heap.size w3 wr ∧ MapIs keyW (Value.int .i64) wr w3.heap.size m) (fun iv _ => p - (intOf iv).toNat)
      case atStart => exact ⟨0, by omega, rfl, HB.out, HM3.out⟩
      case round =>
      clear HM3 HB
      obtain ⟨k, hk, rfl, hB, hM⟩ := hrel
      have HB := hid hB
      have HM := hid hM
      clear hB hM
      by_cases hlt : k < p
      · have hlr : k < r.length := by omega
        obtain ⟨b, o, hao, hc⟩ := HCR.out k hlr
        obtain rfl := hao
        obtain ⟨hw1, hw7⟩ : 1 ≤ r[k].what ∧ r[k].what ≤ 7 := by obtain ⟨_, _, _, _, _, _, h1, h2⟩ := HW.out k hlr; exact ⟨h1, h2⟩
        have q0 : wr.cell? ⟨b, o + k * 10, none⟩ = some (.int .i64 r[k].kind) := (HB.out.cell (World.block_lt_of_cell? _ _ (hc 0 _ rfl))).trans (hc 0 _ rfl)
        have q3 : wr.cell? ⟨b, o + k * 10 + 3, none⟩ = some (.int .i64 r[k].what) := (HB.out.cell (World.block_lt_of_cell? _ _ (hc 3 _ rfl))).trans (hc 3 _ rfl)
        have q4 : wr.cell? ⟨b, o + k * 10 + 4, none⟩ = some (.int .u64 r[k].id) := (HB.out.cell (World.block_lt_of_cell? _ _ (hc 4 _ rfl))).trans (hc 4 _ rfl)
        have q5 : wr.cell? ⟨b, o + k * 10 + 5, none⟩ = some (.int .u64 r[k].gen) := (HB.out.cell (World.block_lt_of_cell? _ _ (hc 5 _ rfl))).trans (hc 5 _ rfl)
        clear hc
        have hcv := HLE.out (keyE r[k])
        have hlk := fun nn => look_cnt (W := wr.drewN nn) (HM.out.kept rfl) HCN3.out (keyE r[k])
        generalize r[k] = x at *
        have hlook : ∀ nn, (Instr.lookup 56 (.map (some w3.heap.size)) (.agg #[.int .u64 x.what, .int .u64 x.id, .int .u64 x.gen]) false).run Try.prog (wr.drewN nn) = .ok (.int .i64 (cntK r r.length (keyE x) - cntK s s.length (keyE x))) (wr.drewN nn) := hlk
        clear hlk
        generalize cntK r r.length (keyE x) - cntK s s.length (keyE x) = cv at *
        have hcd : decide (0 < cv) = false := decide_eq_false (by omega)
        have hwr : IntKind.u64.wrap x.what = x.what := by simp only [IntKind.wrap, IntKind.bits, IntKind.signed]; simp; omega
        clear hcv hw1 hw7
        by_cases h2 : x.kind = 2
        · have hk2 : (x.kind == 2) = true := by simp [h2]
          clear h2
          go_wp2
          go_quiet (fail)
          go_wp2
          go_roundw
          case rel => exact ⟨k + 1, by omega, by go_num, below_drewN HB.out _, HM.out.kept rfl⟩
          case measure => simp [intOf]; omega
        · have hk2 : (x.kind == 2) = false := by simp [h2]
          clear h2
          go_wp2
          go_quiet (fail)
          go_wp2
          go_roundw
          case rel => exact ⟨k + 1, by omega, by go_num, below_drewN HB.out _, HM.out.kept rfl⟩
          case measure => simp [intOf]; omega
      · obtain rfl : p = k := by omega
        have HBX := hid (HB3.out.trans (HB.out.mono HB3.out.size))
        clear HM HB hlt
        rename World => w02
        go_wp2_with (first
          | (go_at_call 18; refine (HOPS.out w02 (HR.out w02 (HRD.out.below HBX.out (Nat.le_refl _)))).mono ?_; rintro x w7 ⟨v7, rfl, ho7, hb7⟩; obtain ⟨ao7, c7, rfl⟩ := owns_shape ho7; have HO7 := hid (Reads.of_owns ho7); have HB7 := hid (HBX.out.trans (hb7.mono HBX.out.size)); clear ho7 hb7)
          | fail)
        have HCO : Hid (∀ W, Below w7.heap.size w7 W → ∀ j (hj : j < os.length), ∃ b o, ao7 = some ⟨b, o, none⟩ ∧ W.cell? ⟨b, o + j * 6 + 3, none⟩ = some (.int .i64 os[j].beg) ∧ W.cell? ⟨b, o + j * 6 + 4, none⟩ = some (.int .i64 os[j].did) ∧ W.cell? ⟨b, o + j * 6 + 5, none⟩ = some (.int .i64 os[j].fin)) := by
          intro W hW j hj
          obtain ⟨ao', c', hv, hx⟩ := (HO7.out.below hW (Nat.le_refl _)).ops
          simp only [Value.slice.injEq] at hv
          obtain ⟨rfl, _, rfl⟩ := hv
          obtain ⟨b, o, e, hc⟩ := hx j _ (List.getElem?_eq_getElem hj)
          exact ⟨b, o, e, hc 3 _ rfl, hc 4 _ rfl, hc 5 _ rfl⟩
        have HEN := hid (fun j (hj : j < os.length) (h0 : 0 ≤ os[j].fin) => show 0 ≤ os[j].did ∧ os[j].did < os[j].fin from by
          obtain ⟨d, f, _, _, h1, h2, h3, _⟩ := HEND.out _ (List.getElem_mem hj) h0
          omega)
        have HDI := hid (fun j (hj : j < os.length) (h0 : 0 ≤ os[j].did) => HDID.out _ (List.getElem_mem hj) h0)
        go_loopw [16] (fun iv wr => ∃ a : Nat, a ≤ os.length ∧ iv = .int .i64 a ∧ Below w7.heap.size w7 wr) (fun iv _ => os.length - (intOf iv).toNat)
        case atStart => exact ⟨0, by omega, rfl, Below.refl _ _⟩
        case round =>
        obtain ⟨a, ha, rfl, hB⟩ := hrel
        have HB := hid hB
        clear hB
        by_cases hat : a < os.length
        · go_wp2
          go_loopw [17] (fun iv wr => ∃ q : Nat, q ≤ os.length ∧ iv = .int .i64 q ∧ Below w7.heap.size w7 wr) (fun iv _ => os.length - (intOf iv).toNat)
          case atStart => exact ⟨0, by omega, rfl, HB.out⟩
          case round =>
            clear HB
            obtain ⟨q, hq, rfl, hB⟩ := hrel
            by_cases hqt : q < os.length
            · obtain ⟨b, o, hao, a3, a4, a5⟩ := HCO.out wr hB a hat
              obtain rfl := hao
              obtain ⟨b2, o2, hao2, b3, b4, b5⟩ := HCO.out wr hB q hqt
              cases hao2
              have HB := hid hB
              have hen := HEN.out a hat
              have hdi := HDI.out q hqt
              clear hB a3 b5
              generalize os[a].did = da at *
              generalize os[a].fin = ea at *
              generalize os[q].did = db at *
              generalize os[q].beg = bb at *
              by_cases t1 : 0 ≤ ea
              · have u1 : decide (0 ≤ ea) = true := decide_eq_true t1
                by_cases t2 : ea < bb
                · have u2 : decide (ea < bb) = true := decide_eq_true t2
                  by_cases t3 : 0 ≤ db
                  · have u3 : decide (0 ≤ db) = true := decide_eq_true t3
                    have u4 : decide (da < 0) = false := decide_eq_false (by have := hen t1; omega)
                    have u5 : decide (db ≤ da) = false := decide_eq_false (by have := hen t1; have := hdi t3; omega)
                    clear t1 t2 t3 hen hdi
                    go_wp2
                    go_quiet (fail)
                    go_wp2
                    go_roundw
                    case rel => exact ⟨q + 1, by omega, by go_num, below_drewN HB.out _⟩
                    case measure => simp [intOf]; omega
                  · have u3 : decide (0 ≤ db) = false := decide_eq_false t3
                    clear t1 t2 t3 hen hdi
                    go_wp2
                    go_quiet (fail)
                    go_wp2
                    go_roundw
                    case rel => exact ⟨q + 1, by omega, by go_num, below_drewN HB.out _⟩
                    case measure => simp [intOf]; omega
                · have u2 : decide (ea < bb) = false := decide_eq_false t2
                  clear t1 t2 hen hdi
                  go_wp2
                  go_quiet (fail)
                  go_wp2
                  go_roundw
                  case rel => exact ⟨q + 1, by omega, by go_num, below_drewN HB.out _⟩
                  case measure => simp [intOf]; omega
              · have u1 : decide (0 ≤ ea) = false := decide_eq_false t1
                clear t1 hen hdi
                go_wp2
                go_quiet (fail)
                go_wp2
                go_roundw
                case rel => exact ⟨q + 1, by omega, by go_num, below_drewN HB.out _⟩
                case measure => simp [intOf]; omega
            · obtain rfl : q = os.length := by omega
              have HB := hid hB
              clear hB
              go_wp2
              go_roundw
              case rel => exact ⟨a + 1, by omega, by go_num, HB.out⟩
              case measure => simp [intOf]; omega
        · obtain rfl : a = os.length := by omega
          go_wp2
          go_ret
          exact ⟨rfl, HB7.out.trans (HB.out.mono HB7.out.size)⟩
end Go.Proofs.Ytpnkkdpggofanaa
