/- order.serial: event, by its walk. -/
import Derived.Test.YtpnkkdpggofanaaSerM
namespace Go.Proofs.Ytpnkkdpggofanaa
open Go.RowKit Go.Shelf Go.Sort

def putP (st : List (Int × Int) × List Ev) (e : Ev) : List (Int × Int) × List Ev := (putN st.1 e, st.2 ++ [putE (putN st.1 e) e])
def serStep (l : List Ev) (O : List (Int × OpD)) (st : List (Int × Int) × List Ev) (i : Nat) (e : Ev) : List (Int × Int) × List Ev :=
  match aget O e.call with
  | none => st
  | some o =>
    if (i : Int) < o.beg then st
    else if o.what < 1 ∨ 5 < o.what then (if e.kind ≠ 1 ∨ (i : Int) = o.beg then putP st e else st)
    else if e.kind = 1 ∨ e.kind = 2 then st
    else if (i : Int) = o.did then putP (putP (putP st ((l[o.beg.toNat]?).getD evZ)) e) (ansE l o e)
    else if 0 ≤ o.did ∧ o.did < i then putP st e else st

theorem op_zeroV : ∀ w, (zeroValue 40).run Try.prog w = .ok (opV ⟨0, 0, 0, 0, 0, 0⟩) w := Try.zeroValue40
theorem opLook {w : World} {b : Nat} {O : List (Int × OpD)} (h : MapIs (Value.int .i64) opV w b O) (c : Int) : (Instr.lookup 84 (.map (some b)) (.int .i64 c) true).run Try.prog w = .ok (.tuple #[((aget O c).map opV).getD (opV ⟨0, 0, 0, 0, 0, 0⟩), .bool (aget O c).isSome]) w :=
  h.run_lookup (keyLaw_int Try.underlying3) Try.underlying84 op_zeroV c true
def opZ : OpD := ⟨0, 0, 0, 0, 0, 0⟩
theorem opLook2 {w : World} {b : Nat} {O : List (Int × OpD)} (h : MapIs (Value.int .i64) opV w b O) (c : Int) : (Instr.lookup 84 (.map (some b)) (.int .i64 c) true).run Try.prog w = .ok (.tuple #[opV ((aget O c).getD opZ), .bool (aget O c).isSome]) w := by
  rw [opLook h c]
  cases aget O c <;> rfl
theorem chg_new {W1 W W' : World} {S : Nat → Prop} (h : Chg (fun _ => False) W1 W) (k : Chg S W W') (hs : ∀ j, j < W1.heap.size → ¬ S j) : Chg (fun _ => False) W1 W' := h.then k hs

theorem aput_len {κ ν : Type} [DecidableEq κ] (m : List (κ × ν)) (k : κ) (v : ν) : (aput m k v).length ≤ m.length + 1 := by
  have := congrArg List.length (aput_keys m k v)
  simp only [List.length_map] at this
  rw [this]
  split <;> simp
theorem putN_len (N : List (Int × Int)) (e : Ev) : (putN N e).length ≤ N.length + 1 := by
  unfold putN
  split
  · exact aput_len _ _ _
  · omega

theorem put_step (W : World) (B bs mO mN : Nat) (fv ov : Value) (O : List (Int × OpD)) (N : List (Int × Int)) (out : List Ev) (e : Ev) (h : SRep W B bs mO mN fv ov O N out) (hN : N.length ≤ 1000000) (ho : out.length ≤ 4000000) :
    Calls Try.prog 54 #[.pointer (some ⟨bs, 0, none⟩), evV e] W fun x W' => x = .returned (.tuple #[]) ∧
      ∃ ov', SRep W' B bs mO mN fv ov' O (putP (N, out) e).1 (putP (N, out) e).2 ∧ Below B W W' ∧ ∀ b t cs, Blk W b t cs → t ≠ 86 → ov.ownBlock ≠ some b → Blk W' b t cs ∧ ov'.ownBlock ≠ some b := by
  refine (put_any W B bs mO mN fv ov O N out e h hN ho).mono ?_
  rintro x W' ⟨rfl, hc, ov', hv, hR⟩
  refine ⟨rfl, ov', hR, hc.below (by have := h.bs_le; have := h.ser.lt; omega) (fun k hk => ?_), fun b t cs hb ht hne => ⟨hb.chg hc ?_, fun e => ?_⟩⟩
  · rcases hk with rfl | rfl | hk
    · exact h.bs_le
    · exact h.mN_le
    · exact (h.row.lt k hk).1
  · rintro (rfl | rfl | hk)
    · exact hb.ne h.ser ht rfl
    · exact hb.ne_map h.no rfl
    · exact hne hk
  · rcases hv b e with h1 | h1
    · exact hne h1
    · have := hb.lt; omega

set_option maxRecDepth 1000000 in
set_option maxHeartbeats 8000000 in
theorem event_any (W : World) (B bs mO mN : Nat) (fv ov : Value) (O : List (Int × OpD)) (N : List (Int × Int)) (out : List Ev) (l : List Ev) (i : Nat) (e : Ev) (h : SRep W B bs mO mN fv ov O N out)
    (hr : ∀ W', Below B W W' → Reads W' fv l.length (l.flatMap evC)) (hl : l.length ≤ 1000000) (hN : N.length ≤ 100000) (ho : out.length ≤ 1000000)
    (hO : ∀ p ∈ O, p.2.no = p.1 ∧ 0 ≤ p.2.beg ∧ p.2.beg < l.length ∧ p.2.fin < l.length) :
    Calls Try.prog 45 #[.pointer (some ⟨bs, 0, none⟩), .int .i64 i, evV e] W fun x W' => x = .returned (.tuple #[]) ∧ Below B W W' ∧
      ∃ ov', SRep W' B bs mO mN fv ov' O (serStep l O (N, out) i e).1 (serStep l O (N, out) i e).2 := by
  obtain ⟨W1, hW1⟩ : ∃ W1, W1 = W.alloc (.cells (evC e).toArray 31) := ⟨_, rfl⟩
  obtain ⟨be, hbe⟩ : ∃ be, be = W.heap.size := ⟨_, rfl⟩
  have hR := h.alloc (.cells (evC e).toArray 31)
  have hE := Blk.new W 31 (evC e)
  have hBle : B ≤ W.heap.size := by have := h.bs_le; have := h.ser.lt; omega
  have hB1 := (Below.refl B W).alloc hBle (.cells (evC e).toArray 31)
  have hs1 : (W.alloc (.cells (evC e).toArray 31)).heap.size = be + 1 := by rw [hbe]; simp
  have hNR : ∀ k, ov.ownBlock = some k → k < be := fun k e => by have := (h.row.lt k e).2; omega
  rw [← hW1] at hR hE hB1 hs1
  rw [← hbe] at hE
  have HW1 := hid hW1
  have HBE := hid hbe
  have HR := hid hR
  have HE := hid hE
  have HB1 := hid hB1
  have HS1 := hid hs1
  have HNR := hid hNR
  have HRD := hid hr
  have HOO := hid hO
  have HBL := hid hBle
  have HST := hid (show serStep l O (N, out) i e = match aget O e.call with
    | none => (N, out)
    | some o =>
      if (i : Int) < o.beg then (N, out)
      else if o.what < 1 ∨ 5 < o.what then (if e.kind ≠ 1 ∨ (i : Int) = o.beg then putP (N, out) e else (N, out))
      else if e.kind = 1 ∨ e.kind = 2 then (N, out)
      else if (i : Int) = o.did then putP (putP (putP (N, out) ((l[o.beg.toNat]?).getD evZ)) e) (ansE l o e)
      else if 0 ≤ o.did ∧ o.did < i then putP (N, out) e else (N, out) from rfl)
  generalize serStep l O (N, out) i e = ST at *
  clear hW1 hbe hR hE hB1 hs1 hNR h hr hO hBle
  have HLK := hid (fun (W' : World) (hS : Chg (fun _ => False) W1 W') => opLook2 (HR.out.ops.kept (hS.block _ HR.out.ops.lt (fun h => h))) e.call)
  have HGO := hid (show ∀ o, aget O e.call = some o → (e.call, o) ∈ O from fun o h => (aget_mem HR.out.ops.nodup).1 h)
  obtain ⟨o, ho'⟩ : ∃ o, o = (aget O e.call).getD opZ := ⟨_, rfl⟩
  obtain ⟨met, hmet⟩ : ∃ met, met = (aget O e.call).isSome := ⟨_, rfl⟩
  rw [← ho', ← hmet] at HLK
  have HOM := hid (And.intro ho' hmet)
  clear ho' hmet
  go_enter Try.func45, Try.ntmps45
  go_wp2_with fail
  refine Hid.out ?_
  rw [show (#[Value.int IntKind.i64 e.kind, Value.int IntKind.i64 e.thr, Value.int IntKind.i64 e.call, Value.int IntKind.i64 e.what, Value.int IntKind.u64 e.id, Value.int IntKind.u64 e.gen, Value.int IntKind.u64 e.dl, Value.int IntKind.u64 e.per, Value.int IntKind.u64 e.tk, Value.int IntKind.i64 e.err] : Array Value) = (evC e).toArray from rfl, ← HW1.out, ← HBE.out]
  refine hid ?_
  have hS0 : Chg (fun _ => False) W1 W1.drew := ⟨rfl, rfl, rfl, Nat.le_refl _, fun _ _ _ => rfl⟩
  have HCM := hid (HR.out.ser.cell 0 rfl)
  have HCE := hid (HE.out.cell 2 rfl)
  refine wp_region_held_drew (S := fun W => Chg (fun _ => False) W1 W) (by kernel_rfl) hS0 (fun hS => ?_)
  show wpAnyH _ _ _ _ _ 13 _ _ W1.drew
  refine wpAnyH_take (i := 0) (v := .pointer (some ⟨bs, 0, none⟩)) rfl (by kernel_rfl) (by kernel_rfl) (by kernel_rfl) (fun _ _ _ h => h) (Or.inl ⟨by rfl, fun W hSw => (by go_simp)⟩) hS ?_
  refine wpAnyH_take (i := 1) (v := .pointer (some ⟨bs, 0, none⟩)) rfl (by kernel_rfl) (by kernel_rfl) (by kernel_rfl) (fun _ _ _ h => h) (Or.inl ⟨by rfl, fun W hSw => (by go_simp)⟩) hS ?_
  refine wpAnyH_take (i := 2) (v := .pointer (some ⟨bs, 0, none⟩)) rfl (by kernel_rfl) (by kernel_rfl) (by kernel_rfl) (fun _ _ _ h => h) (Or.inl ⟨by rfl, fun W hSw => (by go_simp)⟩) hS ?_
  refine wpAnyH_take (i := 3) (v := .map (some mO)) rfl (by kernel_rfl) (by kernel_rfl) (by kernel_rfl) (fun _ _ _ h => h) (Or.inl ⟨by rfl, fun W hSw => (by have qq := hSw.cell (fun h => h) HCM.out; go_simp)⟩) hS ?_
  refine wpAnyH_take (i := 4) (v := .pointer (some ⟨be, 2, none⟩)) rfl (by kernel_rfl) (by kernel_rfl) (by kernel_rfl) (fun _ _ _ h => h) (Or.inl ⟨by rfl, fun W hSw => (by go_simp)⟩) hS ?_
  refine wpAnyH_take (i := 5) (v := .int .i64 e.call) rfl (by kernel_rfl) (by kernel_rfl) (by kernel_rfl) (fun _ _ _ h => h) (Or.inl ⟨by rfl, fun W hSw => (by have qq := hSw.cell (fun h => h) HCE.out; go_simp)⟩) hS ?_
  refine wpAnyH_take (i := 6) (v := .tuple #[opV o, .bool met]) rfl (by kernel_rfl) (by kernel_rfl) (by kernel_rfl) (fun _ _ _ h => h) (Or.inl ⟨by rfl, fun W hSw => (by have qq := HLK.out _ hSw; go_simp)⟩) hS ?_
  refine wpAnyH_take (i := 7) (v := .tuple #[opV o, .bool met]) rfl (by kernel_rfl) (by kernel_rfl) (by kernel_rfl) (fun _ _ _ h => h) (Or.inl ⟨by rfl, fun W hSw => (by go_simp)⟩) hS ?_
  refine wpAnyH_take (i := 8) (v := opV o) rfl (by kernel_rfl) (by kernel_rfl) (by kernel_rfl) (fun _ _ _ h => h) (Or.inl ⟨by rfl, fun W hSw => (by go_simp)⟩) hS ?_
  refine wpAnyH_take (i := 9) (v := .bool met) rfl (by kernel_rfl) (by kernel_rfl) (by kernel_rfl) (fun _ _ _ h => h) (Or.inl ⟨by rfl, fun W hSw => (by go_simp)⟩) hS ?_
  clear hS0
  refine wpAnyH_one (k := 10) (by kernel_rfl) rfl (fun K hK => ?_)
  go_simp
  refine hK.out _ _ (hS.trans (Chg.alloc _ _ _)) ?_
  clear hK K
  simp only [opV]
  refine wpAnyH_one (k := 11) (by kernel_rfl) rfl (fun K hK => ?_)
  go_simp
  refine hK.out _ _ ((Chg.alloc _ W1 _).trans ⟨rfl, rfl, rfl, Nat.le_refl _, fun _ _ _ => rfl⟩) ?_
  clear hK K
  refine wpAnyH_one (k := 12) (by kernel_rfl) rfl (fun K hK => ?_)
  go_simp
  refine hK.out _ _ ((Chg.alloc _ W1 _).trans ⟨rfl, rfl, rfl, Nat.le_refl _, fun _ _ _ => rfl⟩) ?_
  clear hK K
  refine wpAnyH_done (by kernel_rfl) ?_ _
  obtain ⟨W2, hW2⟩ : ∃ W2, W2 = (W1.alloc (.cells (opC o).toArray 40)).drew := ⟨_, rfl⟩
  obtain ⟨bo, hbo⟩ : ∃ bo, bo = W1.heap.size := ⟨_, rfl⟩
  rw [show (#[Value.int IntKind.i64 o.no, Value.int IntKind.i64 o.thr, Value.int IntKind.i64 o.what, Value.int IntKind.i64 o.beg, Value.int IntKind.i64 o.did, Value.int IntKind.i64 o.fin] : Array Value) = (opC o).toArray from rfl, ← hW2, ← hbo]
  have hR2 := (HR.out.alloc (.cells (opC o).toArray 40)).drew
  have hE2 := (HE.out.alloc (.cells (opC o).toArray 40)).drew
  have hO2 := (Blk.new W1 40 (opC o)).drew
  have hB2 := (HB1.out.alloc (Nat.le_trans HBL.out HB1.out.size) (.cells (opC o).toArray 40)).drew
  rw [← hW2] at hR2 hE2 hO2 hB2
  rw [← hbo] at hO2
  have HR2 := hid hR2
  have HE2 := hid hE2
  have HO2 := hid hO2
  have HB2 := hid hB2
  have HNE := hid (show ov.ownBlock ≠ some be from fun h => by have := HNR.out be h; omega)
  have HNO := hid (show ov.ownBlock ≠ some bo from fun h => by have := HNR.out bo h; have := HS1.out; omega)
  clear hR2 hE2 hO2 hB2 hW2 hbo hS HCM HCE HLK HR HE HB1 HW1
  have e_kind : W2.cell? ⟨be, 0, none⟩ = some (.int .i64 e.kind) := HE2.out.cell 0 rfl
  have e_thr : W2.cell? ⟨be, 1, none⟩ = some (.int .i64 e.thr) := HE2.out.cell 1 rfl
  have e_call : W2.cell? ⟨be, 2, none⟩ = some (.int .i64 e.call) := HE2.out.cell 2 rfl
  have e_what : W2.cell? ⟨be, 3, none⟩ = some (.int .i64 e.what) := HE2.out.cell 3 rfl
  have e_id : W2.cell? ⟨be, 4, none⟩ = some (.int .u64 e.id) := HE2.out.cell 4 rfl
  have e_gen : W2.cell? ⟨be, 5, none⟩ = some (.int .u64 e.gen) := HE2.out.cell 5 rfl
  have e_dl : W2.cell? ⟨be, 6, none⟩ = some (.int .u64 e.dl) := HE2.out.cell 6 rfl
  have e_per : W2.cell? ⟨be, 7, none⟩ = some (.int .u64 e.per) := HE2.out.cell 7 rfl
  have e_tk : W2.cell? ⟨be, 8, none⟩ = some (.int .u64 e.tk) := HE2.out.cell 8 rfl
  have e_err : W2.cell? ⟨be, 9, none⟩ = some (.int .i64 e.err) := HE2.out.cell 9 rfl
  have o_no : W2.cell? ⟨bo, 0, none⟩ = some (.int .i64 o.no) := HO2.out.cell 0 rfl
  have o_thr : W2.cell? ⟨bo, 1, none⟩ = some (.int .i64 o.thr) := HO2.out.cell 1 rfl
  have o_what : W2.cell? ⟨bo, 2, none⟩ = some (.int .i64 o.what) := HO2.out.cell 2 rfl
  have o_beg : W2.cell? ⟨bo, 3, none⟩ = some (.int .i64 o.beg) := HO2.out.cell 3 rfl
  have o_did : W2.cell? ⟨bo, 4, none⟩ = some (.int .i64 o.did) := HO2.out.cell 4 rfl
  have o_fin : W2.cell? ⟨bo, 5, none⟩ = some (.int .i64 o.fin) := HO2.out.cell 5 rfl
  have HNONE := hid (fun (h : ST = (N, out)) => show ∃ ov', SRep W2 B bs mO mN fv ov' O ST.1 ST.2 from ⟨ov, by rw [h]; exact HR2.out⟩)
  cases met with
  | false =>
    have hn : aget O e.call = none := by have := HOM.out.2; cases h : aget O e.call with
      | none => rfl
      | some x => rw [h] at this; cases this
    have HQ := hid (show ST = (N, out) by rw [HST.out, hn])
    clear hn
    go_wp2
    refine bodyPost_ret (results_none rfl _ _ _) rfl ?_
    exact ⟨rfl, HB2.out, HNONE.out HQ.out⟩
  | true =>
    have hn : aget O e.call = some o := by
      have h1 := HOM.out.2; have h2 := HOM.out.1
      cases h : aget O e.call with
      | none => rw [h] at h1; cases h1
      | some x => rw [h] at h2; rw [h2]; rfl
    have hoo := HOO.out _ (HGO.out o hn)
    have hs := HST.out
    rw [hn] at hs
    simp only at hs
    have HSS := hid hs
    have HOB := hid hoo
    clear hn hs hoo HST HOO HGO HOM
    by_cases z1 : (i : Int) < o.beg
    · have HQ := hid (show ST = (N, out) by rw [HSS.out, if_pos z1])
      go_wp2
      refine bodyPost_ret (results_none rfl _ _ _) rfl ?_
      exact ⟨rfl, HB2.out, HNONE.out HQ.out⟩
    · have hs := HSS.out
      rw [if_neg z1] at hs
      have HSS := hid hs
      clear hs
      by_cases z2 : o.what < 1
      · have hs := HSS.out
        rw [if_pos (.inl z2)] at hs
        have HSS := hid hs
        clear hs
        by_cases hk : e.kind = 1
        · by_cases hb : (i : Int) = o.beg
          · have HQ := hid (show ST = putP (N, out) e by rw [HSS.out, if_pos (.inr hb)])
            have hk' : (e.kind != 1) = false := by simp [hk]
            have hb' : ((i : Int) == o.beg) = true := by simp [hb]
            clear hk hb
            go_wp2_with fail
            first | go_at_call 54 | skip
            refine (put_step W2 B bs mO mN fv ov O N out e HR2.out (by omega) (by omega)).mono ?_
            rintro x W3 ⟨rfl, ov', hR3, hB3, _⟩
            have HR3 := hid hR3
            have HB3 := hid hB3
            clear hR3 hB3
            go_wp2
            first | (refine bodyPost_ret (results_none rfl _ _ _) rfl ?_) | (refine bodyPost_end (results_none rfl _ _ _) rfl ?_)
            exact ⟨rfl, HB2.out.trans HB3.out, ov', by rw [HQ.out]; exact HR3.out⟩
          · have HQ := hid (show ST = (N, out) by rw [HSS.out, if_neg (by rintro (h | h); exact h hk; exact hb h)])
            have hk' : (e.kind != 1) = false := by simp [hk]
            have hb' : ((i : Int) == o.beg) = false := by simp [hb]
            clear hk hb
            go_wp2
            first | (refine bodyPost_ret (results_none rfl _ _ _) rfl ?_) | (refine bodyPost_end (results_none rfl _ _ _) rfl ?_)
            exact ⟨rfl, HB2.out, HNONE.out HQ.out⟩
        · have HQ := hid (show ST = putP (N, out) e by rw [HSS.out, if_pos (.inl hk)])
          have hk' : (e.kind != 1) = true := by simp [hk]
          clear hk
          go_wp2_with fail
          first | go_at_call 54 | skip
          refine (put_step W2 B bs mO mN fv ov O N out e HR2.out (by omega) (by omega)).mono ?_
          rintro x W3 ⟨rfl, ov', hR3, hB3, _⟩
          have HR3 := hid hR3
          have HB3 := hid hB3
          clear hR3 hB3
          go_wp2
          first | (refine bodyPost_ret (results_none rfl _ _ _) rfl ?_) | (refine bodyPost_end (results_none rfl _ _ _) rfl ?_)
          exact ⟨rfl, HB2.out.trans HB3.out, ov', by rw [HQ.out]; exact HR3.out⟩
      · by_cases z3 : 5 < o.what
        · have hs := HSS.out
          rw [if_pos (.inr z3)] at hs
          have HSS := hid hs
          clear hs
          by_cases hk : e.kind = 1
          · by_cases hb : (i : Int) = o.beg
            · have HQ := hid (show ST = putP (N, out) e by rw [HSS.out, if_pos (.inr hb)])
              have hk' : (e.kind != 1) = false := by simp [hk]
              have hb' : ((i : Int) == o.beg) = true := by simp [hb]
              clear hk hb
              go_wp2_with fail
              first | go_at_call 54 | skip
              refine (put_step W2 B bs mO mN fv ov O N out e HR2.out (by omega) (by omega)).mono ?_
              rintro x W3 ⟨rfl, ov', hR3, hB3, _⟩
              have HR3 := hid hR3
              have HB3 := hid hB3
              clear hR3 hB3
              go_wp2
              first | (refine bodyPost_ret (results_none rfl _ _ _) rfl ?_) | (refine bodyPost_end (results_none rfl _ _ _) rfl ?_)
              exact ⟨rfl, HB2.out.trans HB3.out, ov', by rw [HQ.out]; exact HR3.out⟩
            · have HQ := hid (show ST = (N, out) by rw [HSS.out, if_neg (by rintro (h | h); exact h hk; exact hb h)])
              have hk' : (e.kind != 1) = false := by simp [hk]
              have hb' : ((i : Int) == o.beg) = false := by simp [hb]
              clear hk hb
              go_wp2
              first | (refine bodyPost_ret (results_none rfl _ _ _) rfl ?_) | (refine bodyPost_end (results_none rfl _ _ _) rfl ?_)
              exact ⟨rfl, HB2.out, HNONE.out HQ.out⟩
          · have HQ := hid (show ST = putP (N, out) e by rw [HSS.out, if_pos (.inl hk)])
            have hk' : (e.kind != 1) = true := by simp [hk]
            clear hk
            go_wp2_with fail
            first | go_at_call 54 | skip
            refine (put_step W2 B bs mO mN fv ov O N out e HR2.out (by omega) (by omega)).mono ?_
            rintro x W3 ⟨rfl, ov', hR3, hB3, _⟩
            have HR3 := hid hR3
            have HB3 := hid hB3
            clear hR3 hB3
            go_wp2
            first | (refine bodyPost_ret (results_none rfl _ _ _) rfl ?_) | (refine bodyPost_end (results_none rfl _ _ _) rfl ?_)
            exact ⟨rfl, HB2.out.trans HB3.out, ov', by rw [HQ.out]; exact HR3.out⟩
        · have hs := HSS.out
          rw [if_neg (by rintro (h | h); exact z2 h; exact z3 h)] at hs
          have HSS := hid hs
          clear hs
          by_cases hk : e.kind = 1
          · have HQ := hid (show ST = (N, out) by rw [HSS.out, if_pos (.inl hk)])
            have hk' : (e.kind == 1) = true := by simp [hk]
            clear hk
            go_wp2
            first | (refine bodyPost_ret (results_none rfl _ _ _) rfl ?_) | (refine bodyPost_end (results_none rfl _ _ _) rfl ?_)
            exact ⟨rfl, HB2.out, HNONE.out HQ.out⟩
          · by_cases hk2 : e.kind = 2
            · have HQ := hid (show ST = (N, out) by rw [HSS.out, if_pos (.inr hk2)])
              have hk' : (e.kind == 1) = false := by simp [hk]
              have hk2' : (e.kind == 2) = true := by simp [hk2]
              clear hk hk2
              go_wp2
              first | (refine bodyPost_ret (results_none rfl _ _ _) rfl ?_) | (refine bodyPost_end (results_none rfl _ _ _) rfl ?_)
              exact ⟨rfl, HB2.out, HNONE.out HQ.out⟩
            · have hs := HSS.out
              rw [if_neg (by rintro (h | h); exact hk h; exact hk2 h)] at hs
              have HSS := hid hs
              have hk' : (e.kind == 1) = false := by simp [hk]
              have hk2' : (e.kind == 2) = false := by simp [hk2]
              clear hs hk hk2
              by_cases hd : (i : Int) = o.did
              · have HQ := hid (show ST = putP (putP (putP (N, out) ((l[o.beg.toNat]?).getD evZ)) e) (ansE l o e) by rw [HSS.out, if_pos hd])
                have hd' : ((i : Int) == o.did) = true := by simp [hd]
                clear hd
                go_wp2_with fail
                refine Hid.out ?_
                obtain ⟨q, hq⟩ : ∃ q : Nat, o.beg = (q : Int) := ⟨o.beg.toNat, by have h : 0 ≤ o.beg := HOB.out.2.1; omega⟩
                have hql : q < l.length := by have h : o.beg < l.length := HOB.out.2.2.1; omega
                obtain ⟨y, hy⟩ : ∃ y, l[q]? = some y := ⟨_, List.getElem?_eq_getElem hql⟩
                have HQ2 := hid (show ST = putP (putP (putP (N, out) y) e) (ansE l o e) by rw [HQ.out, hq, Int.toNat_natCast, hy]; rfl)
                obtain ⟨ao, c, hfv, g1⟩ := (HRD.out W2 HB2.out).evs
                obtain ⟨fb, fo, hao, hc⟩ := g1 q y hy
                subst hfv
                obtain rfl := hao
                have HFC := hid hc
                have m_from := hid (HR2.out.ser.cell 2 rfl)
                rw [hq] at o_beg
                have OB := hid o_beg
                have OD := hid (HO2.out.cell 3 rfl)
                clear HQ hc g1 hy o_beg hq z1
                refine hid ?_
                have m_from2 := m_from.out
                have o_beg := OB.out
                have y0 := HFC.out 0 _ rfl
                have y1 := HFC.out 1 _ rfl
                have y2 := HFC.out 2 _ rfl
                have y3 := HFC.out 3 _ rfl
                have y4 := HFC.out 4 _ rfl
                have y5 := HFC.out 5 _ rfl
                have y6 := HFC.out 6 _ rfl
                have y7 := HFC.out 7 _ rfl
                have y8 := HFC.out 8 _ rfl
                have y9 := HFC.out 9 _ rfl
                simp only [Nat.add_zero] at y0
                refine wp_region_any (by kernel_rfl) ?_
                show wpAny _ _ _ _ 10 _ _ W2.drew
                refine wpAny_take (i := 0) (v := .pointer (some ⟨bs, 0, none⟩)) rfl (by kernel_rfl) (by kernel_rfl) (by kernel_rfl) (fun _ _ _ h => h) (Or.inl ⟨by rfl, fun w => by go_simp⟩) ?_
                refine wpAny_take (i := 1) (v := .pointer (some ⟨bs, 0, none⟩)) rfl (by kernel_rfl) (by kernel_rfl) (by kernel_rfl) (fun _ _ _ h => h) (Or.inl ⟨by rfl, fun w => by go_simp⟩) ?_
                refine wpAny_take (i := 2) (v := .pointer (some ⟨bs, 0, none⟩)) rfl (by kernel_rfl) (by kernel_rfl) (by kernel_rfl) (fun _ _ _ h => h) (Or.inl ⟨by rfl, fun w => by go_simp⟩) ?_
                refine wpAny_take (i := 3) (v := .pointer (some ⟨bs, 2, none⟩)) rfl (by kernel_rfl) (by kernel_rfl) (by kernel_rfl) (fun _ _ _ h => h) (Or.inl ⟨by rfl, fun w => by go_simp⟩) ?_
                refine wpAny_take (i := 5) (v := .pointer (some ⟨bo, 3, none⟩)) rfl (by kernel_rfl) (by kernel_rfl) (by kernel_rfl) (fun _ _ _ h => h) (Or.inl ⟨by rfl, fun w => by go_simp⟩) ?_
                refine wpAny_two (k1 := 4) (k2 := 6) (by kernel_rfl) rfl rfl (fun K hK => ?_) (fun K hK => ?_)
                · go_simp
                  refine hK.out _ _ ?_
                  clear hK K
                  refine wpAny_step (k := 6) (by kernel_rfl) rfl (fun K hK => ?_)
                  go_simp
                  refine hK.out _ _ ?_
                  clear hK K
                  refine wpAny_step (k := 7) (by kernel_rfl) rfl (fun K hK => ?_)
                  go_simp
                  refine hK.out _ _ ?_
                  clear hK K
                  refine wpAny_step (k := 8) (by kernel_rfl) rfl (fun K hK => ?_)
                  go_simp
                  refine hK.out _ _ ?_
                  clear hK K
                  refine wpAny_step (k := 9) (by kernel_rfl) rfl (fun K hK => ?_)
                  go_simp
                  refine (put_step W2.drew B bs mO mN (.slice (some ⟨fb, fo, none⟩) l.length c) ov O N out y HR2.out.drew (by omega) (by omega)).mono ?_
                  rintro x W3 ⟨rfl, ov1, hR3, hB3, hK3⟩
                  refine hK.out _ _ ?_
                  clear hK K
                  refine wpAny_done (by kernel_rfl) ?_ _
                  obtain ⟨hE3, hne3⟩ := hK3 be _ _ HE2.out.drew (by decide) HNE.out
                  obtain ⟨hO3, hno3⟩ := hK3 bo _ _ HO2.out.drew (by decide) HNO.out
                  have HE3 := hid hE3
                  have HO3 := hid hO3
                  have HNE3 := hid hne3
                  have HNO3 := hid hno3
                  have HR3 := hid hR3
                  have HB3 := hid (HB2.out.drew.trans hB3)
                  have HPP := hid (fun (x : Ev) => (⟨putN_len N x, by simp [putP]⟩ : (putP (N, out) x).1.length ≤ N.length + 1 ∧ (putP (N, out) x).2.length = out.length + 1))
                  clear hE3 hne3 hO3 hno3 hR3 hB3 hK3 m_from2 o_beg y0 y1 y2 y3 y4 y5 y6 y7 y8 y9 e_kind e_thr e_call e_what e_id e_gen e_dl e_per e_tk e_err o_no o_thr o_what o_did o_fin
                  have e_kind : W3.cell? ⟨be, 0, none⟩ = some (.int .i64 e.kind) := HE3.out.cell 0 rfl
                  have e_thr : W3.cell? ⟨be, 1, none⟩ = some (.int .i64 e.thr) := HE3.out.cell 1 rfl
                  have e_call : W3.cell? ⟨be, 2, none⟩ = some (.int .i64 e.call) := HE3.out.cell 2 rfl
                  have e_what : W3.cell? ⟨be, 3, none⟩ = some (.int .i64 e.what) := HE3.out.cell 3 rfl
                  have e_id : W3.cell? ⟨be, 4, none⟩ = some (.int .u64 e.id) := HE3.out.cell 4 rfl
                  have e_gen : W3.cell? ⟨be, 5, none⟩ = some (.int .u64 e.gen) := HE3.out.cell 5 rfl
                  have e_dl : W3.cell? ⟨be, 6, none⟩ = some (.int .u64 e.dl) := HE3.out.cell 6 rfl
                  have e_per : W3.cell? ⟨be, 7, none⟩ = some (.int .u64 e.per) := HE3.out.cell 7 rfl
                  have e_tk : W3.cell? ⟨be, 8, none⟩ = some (.int .u64 e.tk) := HE3.out.cell 8 rfl
                  have e_err : W3.cell? ⟨be, 9, none⟩ = some (.int .i64 e.err) := HE3.out.cell 9 rfl
                  go_wp2_with fail
                  go_at_call 54
                  refine (put_step W3 B bs mO mN (.slice (some ⟨fb, fo, none⟩) l.length c) ov1 O (putP (N, out) y).1 (putP (N, out) y).2 e HR3.out (by have := (HPP.out y).1; omega) (by have := (HPP.out y).2; omega)).mono ?_
                  rintro x W4 ⟨rfl, ov2, hR4, hB4, hK4⟩
                  obtain ⟨hE4, hne4⟩ := hK4 be _ _ HE3.out (by decide) HNE3.out
                  obtain ⟨hO4, hno4⟩ := hK4 bo _ _ HO3.out (by decide) HNO3.out
                  have HE4 := hid hE4
                  have HO4 := hid hO4
                  have HR4 := hid hR4
                  have HB4 := hid (HB3.out.trans hB4)
                  clear hE4 hne4 hO4 hno4 hR4 hB4 hK4 e_kind e_thr e_call e_what e_id e_gen e_dl e_per e_tk e_err
                  have e_kind : W4.cell? ⟨be, 0, none⟩ = some (.int .i64 e.kind) := HE4.out.cell 0 rfl
                  have e_thr : W4.cell? ⟨be, 1, none⟩ = some (.int .i64 e.thr) := HE4.out.cell 1 rfl
                  have e_call : W4.cell? ⟨be, 2, none⟩ = some (.int .i64 e.call) := HE4.out.cell 2 rfl
                  have e_what : W4.cell? ⟨be, 3, none⟩ = some (.int .i64 e.what) := HE4.out.cell 3 rfl
                  have e_id : W4.cell? ⟨be, 4, none⟩ = some (.int .u64 e.id) := HE4.out.cell 4 rfl
                  have e_gen : W4.cell? ⟨be, 5, none⟩ = some (.int .u64 e.gen) := HE4.out.cell 5 rfl
                  have e_dl : W4.cell? ⟨be, 6, none⟩ = some (.int .u64 e.dl) := HE4.out.cell 6 rfl
                  have e_per : W4.cell? ⟨be, 7, none⟩ = some (.int .u64 e.per) := HE4.out.cell 7 rfl
                  have e_tk : W4.cell? ⟨be, 8, none⟩ = some (.int .u64 e.tk) := HE4.out.cell 8 rfl
                  have e_err : W4.cell? ⟨be, 9, none⟩ = some (.int .i64 e.err) := HE4.out.cell 9 rfl
                  have o_no : W4.cell? ⟨bo, 0, none⟩ = some (.int .i64 o.no) := HO4.out.cell 0 rfl
                  have o_thr : W4.cell? ⟨bo, 1, none⟩ = some (.int .i64 o.thr) := HO4.out.cell 1 rfl
                  have o_what : W4.cell? ⟨bo, 2, none⟩ = some (.int .i64 o.what) := HO4.out.cell 2 rfl
                  have o_beg : W4.cell? ⟨bo, 3, none⟩ = some (.int .i64 o.beg) := HO4.out.cell 3 rfl
                  have o_did : W4.cell? ⟨bo, 4, none⟩ = some (.int .i64 o.did) := HO4.out.cell 4 rfl
                  have o_fin : W4.cell? ⟨bo, 5, none⟩ = some (.int .i64 o.fin) := HO4.out.cell 5 rfl
                  go_wp2_with fail
                  go_at_call 55
                  refine (serAnswer_any W4 B bs mO mN (.slice (some ⟨fb, fo, none⟩) l.length c) ov2 O _ _ l o e HR4.out (HRD.out W4 HB4.out) (by have h : o.fin < l.length := HOB.out.2.2.2; exact h) hl).mono ?_
                  rintro x W5 ⟨rfl, hB5⟩
                  have hR5 := HR4.out.chg (Chg.of_below (S := fun _ => False) hB5 (fun k hk h => absurd hk (by omega))) (fun h => h) (fun h => h) (fun h => h) (fun _ _ h => h)
                  have HR5 := hid hR5
                  have HB5 := hid (HB4.out.trans (hB5.mono (by have h1 := HR4.out.bs_le; have h2 := HR4.out.ser.lt; omega)))
                  clear hR5 hB5 e_kind e_thr e_call e_what e_id e_gen e_dl e_per e_tk e_err o_no o_thr o_what o_beg o_did o_fin
                  go_wp2_with fail
                  go_at_call 54
                  have HLN := hid (putN_len (putP (N, out) y).1 e)
                  have HL2 := hid (show (putP (putP (N, out) y) e).2.length = (putP (N, out) y).2.length + 1 by simp [putP])
                  refine (put_step W5 B bs mO mN (.slice (some ⟨fb, fo, none⟩) l.length c) ov2 O (putP (putP (N, out) y) e).1 (putP (putP (N, out) y) e).2 (ansE l o e) HR5.out (by have h1 : (putP (putP (N, out) y) e).1.length ≤ (putP (N, out) y).1.length + 1 := HLN.out; have := (HPP.out y).1; omega) (by have := HL2.out; have := (HPP.out y).2; omega)).mono ?_
                  rintro x W6 ⟨rfl, ov3, hR6, hB6, _⟩
                  have HR6 := hid hR6
                  have HB6 := hid hB6
                  clear hR6 hB6
                  go_wp2
                  first | (refine bodyPost_ret (results_none rfl _ _ _) rfl ?_) | (refine bodyPost_end (results_none rfl _ _ _) rfl ?_)
                  exact ⟨rfl, HB5.out.trans HB6.out, ov3, by rw [HQ2.out]; exact HR6.out⟩
                · go_simp
                  refine hK.out _ _ ?_
                  clear hK K
                  refine wpAny_step (k := 4) (by kernel_rfl) rfl (fun K hK => ?_)
                  go_simp
                  refine hK.out _ _ ?_
                  clear hK K
                  refine wpAny_step (k := 7) (by kernel_rfl) rfl (fun K hK => ?_)
                  go_simp
                  refine hK.out _ _ ?_
                  clear hK K
                  refine wpAny_step (k := 8) (by kernel_rfl) rfl (fun K hK => ?_)
                  go_simp
                  refine hK.out _ _ ?_
                  clear hK K
                  refine wpAny_step (k := 9) (by kernel_rfl) rfl (fun K hK => ?_)
                  go_simp
                  refine (put_step W2.drew B bs mO mN (.slice (some ⟨fb, fo, none⟩) l.length c) ov O N out y HR2.out.drew (by omega) (by omega)).mono ?_
                  rintro x W3 ⟨rfl, ov1, hR3, hB3, hK3⟩
                  refine hK.out _ _ ?_
                  clear hK K
                  refine wpAny_done (by kernel_rfl) ?_ _
                  obtain ⟨hE3, hne3⟩ := hK3 be _ _ HE2.out.drew (by decide) HNE.out
                  obtain ⟨hO3, hno3⟩ := hK3 bo _ _ HO2.out.drew (by decide) HNO.out
                  have HE3 := hid hE3
                  have HO3 := hid hO3
                  have HNE3 := hid hne3
                  have HNO3 := hid hno3
                  have HR3 := hid hR3
                  have HB3 := hid (HB2.out.drew.trans hB3)
                  have HPP := hid (fun (x : Ev) => (⟨putN_len N x, by simp [putP]⟩ : (putP (N, out) x).1.length ≤ N.length + 1 ∧ (putP (N, out) x).2.length = out.length + 1))
                  clear hE3 hne3 hO3 hno3 hR3 hB3 hK3 m_from2 o_beg y0 y1 y2 y3 y4 y5 y6 y7 y8 y9 e_kind e_thr e_call e_what e_id e_gen e_dl e_per e_tk e_err o_no o_thr o_what o_did o_fin
                  have e_kind : W3.cell? ⟨be, 0, none⟩ = some (.int .i64 e.kind) := HE3.out.cell 0 rfl
                  have e_thr : W3.cell? ⟨be, 1, none⟩ = some (.int .i64 e.thr) := HE3.out.cell 1 rfl
                  have e_call : W3.cell? ⟨be, 2, none⟩ = some (.int .i64 e.call) := HE3.out.cell 2 rfl
                  have e_what : W3.cell? ⟨be, 3, none⟩ = some (.int .i64 e.what) := HE3.out.cell 3 rfl
                  have e_id : W3.cell? ⟨be, 4, none⟩ = some (.int .u64 e.id) := HE3.out.cell 4 rfl
                  have e_gen : W3.cell? ⟨be, 5, none⟩ = some (.int .u64 e.gen) := HE3.out.cell 5 rfl
                  have e_dl : W3.cell? ⟨be, 6, none⟩ = some (.int .u64 e.dl) := HE3.out.cell 6 rfl
                  have e_per : W3.cell? ⟨be, 7, none⟩ = some (.int .u64 e.per) := HE3.out.cell 7 rfl
                  have e_tk : W3.cell? ⟨be, 8, none⟩ = some (.int .u64 e.tk) := HE3.out.cell 8 rfl
                  have e_err : W3.cell? ⟨be, 9, none⟩ = some (.int .i64 e.err) := HE3.out.cell 9 rfl
                  go_wp2_with fail
                  go_at_call 54
                  refine (put_step W3 B bs mO mN (.slice (some ⟨fb, fo, none⟩) l.length c) ov1 O (putP (N, out) y).1 (putP (N, out) y).2 e HR3.out (by have := (HPP.out y).1; omega) (by have := (HPP.out y).2; omega)).mono ?_
                  rintro x W4 ⟨rfl, ov2, hR4, hB4, hK4⟩
                  obtain ⟨hE4, hne4⟩ := hK4 be _ _ HE3.out (by decide) HNE3.out
                  obtain ⟨hO4, hno4⟩ := hK4 bo _ _ HO3.out (by decide) HNO3.out
                  have HE4 := hid hE4
                  have HO4 := hid hO4
                  have HR4 := hid hR4
                  have HB4 := hid (HB3.out.trans hB4)
                  clear hE4 hne4 hO4 hno4 hR4 hB4 hK4 e_kind e_thr e_call e_what e_id e_gen e_dl e_per e_tk e_err
                  have e_kind : W4.cell? ⟨be, 0, none⟩ = some (.int .i64 e.kind) := HE4.out.cell 0 rfl
                  have e_thr : W4.cell? ⟨be, 1, none⟩ = some (.int .i64 e.thr) := HE4.out.cell 1 rfl
                  have e_call : W4.cell? ⟨be, 2, none⟩ = some (.int .i64 e.call) := HE4.out.cell 2 rfl
                  have e_what : W4.cell? ⟨be, 3, none⟩ = some (.int .i64 e.what) := HE4.out.cell 3 rfl
                  have e_id : W4.cell? ⟨be, 4, none⟩ = some (.int .u64 e.id) := HE4.out.cell 4 rfl
                  have e_gen : W4.cell? ⟨be, 5, none⟩ = some (.int .u64 e.gen) := HE4.out.cell 5 rfl
                  have e_dl : W4.cell? ⟨be, 6, none⟩ = some (.int .u64 e.dl) := HE4.out.cell 6 rfl
                  have e_per : W4.cell? ⟨be, 7, none⟩ = some (.int .u64 e.per) := HE4.out.cell 7 rfl
                  have e_tk : W4.cell? ⟨be, 8, none⟩ = some (.int .u64 e.tk) := HE4.out.cell 8 rfl
                  have e_err : W4.cell? ⟨be, 9, none⟩ = some (.int .i64 e.err) := HE4.out.cell 9 rfl
                  have o_no : W4.cell? ⟨bo, 0, none⟩ = some (.int .i64 o.no) := HO4.out.cell 0 rfl
                  have o_thr : W4.cell? ⟨bo, 1, none⟩ = some (.int .i64 o.thr) := HO4.out.cell 1 rfl
                  have o_what : W4.cell? ⟨bo, 2, none⟩ = some (.int .i64 o.what) := HO4.out.cell 2 rfl
                  have o_beg : W4.cell? ⟨bo, 3, none⟩ = some (.int .i64 o.beg) := HO4.out.cell 3 rfl
                  have o_did : W4.cell? ⟨bo, 4, none⟩ = some (.int .i64 o.did) := HO4.out.cell 4 rfl
                  have o_fin : W4.cell? ⟨bo, 5, none⟩ = some (.int .i64 o.fin) := HO4.out.cell 5 rfl
                  go_wp2_with fail
                  go_at_call 55
                  refine (serAnswer_any W4 B bs mO mN (.slice (some ⟨fb, fo, none⟩) l.length c) ov2 O _ _ l o e HR4.out (HRD.out W4 HB4.out) (by have h : o.fin < l.length := HOB.out.2.2.2; exact h) hl).mono ?_
                  rintro x W5 ⟨rfl, hB5⟩
                  have hR5 := HR4.out.chg (Chg.of_below (S := fun _ => False) hB5 (fun k hk h => absurd hk (by omega))) (fun h => h) (fun h => h) (fun h => h) (fun _ _ h => h)
                  have HR5 := hid hR5
                  have HB5 := hid (HB4.out.trans (hB5.mono (by have h1 := HR4.out.bs_le; have h2 := HR4.out.ser.lt; omega)))
                  clear hR5 hB5 e_kind e_thr e_call e_what e_id e_gen e_dl e_per e_tk e_err o_no o_thr o_what o_beg o_did o_fin
                  go_wp2_with fail
                  go_at_call 54
                  have HLN := hid (putN_len (putP (N, out) y).1 e)
                  have HL2 := hid (show (putP (putP (N, out) y) e).2.length = (putP (N, out) y).2.length + 1 by simp [putP])
                  refine (put_step W5 B bs mO mN (.slice (some ⟨fb, fo, none⟩) l.length c) ov2 O (putP (putP (N, out) y) e).1 (putP (putP (N, out) y) e).2 (ansE l o e) HR5.out (by have h1 : (putP (putP (N, out) y) e).1.length ≤ (putP (N, out) y).1.length + 1 := HLN.out; have := (HPP.out y).1; omega) (by have := HL2.out; have := (HPP.out y).2; omega)).mono ?_
                  rintro x W6 ⟨rfl, ov3, hR6, hB6, _⟩
                  have HR6 := hid hR6
                  have HB6 := hid hB6
                  clear hR6 hB6
                  go_wp2
                  first | (refine bodyPost_ret (results_none rfl _ _ _) rfl ?_) | (refine bodyPost_end (results_none rfl _ _ _) rfl ?_)
                  exact ⟨rfl, HB5.out.trans HB6.out, ov3, by rw [HQ2.out]; exact HR6.out⟩
              · have hd' : ((i : Int) == o.did) = false := by simp [hd]
                by_cases hd0 : 0 ≤ o.did
                · by_cases hd1 : o.did < (i : Int)
                  · have HQ := hid (show ST = putP (N, out) e by rw [HSS.out, if_neg hd, if_pos ⟨hd0, hd1⟩])
                    clear hd
                    go_wp2_with fail
                    first | go_at_call 54 | skip
                    refine (put_step W2 B bs mO mN fv ov O N out e HR2.out (by omega) (by omega)).mono ?_
                    rintro x W3 ⟨rfl, ov', hR3, hB3, _⟩
                    have HR3 := hid hR3
                    have HB3 := hid hB3
                    clear hR3 hB3
                    go_wp2
                    first | (refine bodyPost_ret (results_none rfl _ _ _) rfl ?_) | (refine bodyPost_end (results_none rfl _ _ _) rfl ?_)
                    exact ⟨rfl, HB2.out.trans HB3.out, ov', by rw [HQ.out]; exact HR3.out⟩
                  · have HQ := hid (show ST = (N, out) by rw [HSS.out, if_neg hd, if_neg (fun h => hd1 h.2)])
                    clear hd
                    go_wp2
                    first | (refine bodyPost_ret (results_none rfl _ _ _) rfl ?_) | (refine bodyPost_end (results_none rfl _ _ _) rfl ?_)
                    exact ⟨rfl, HB2.out, HNONE.out HQ.out⟩
                · have HQ := hid (show ST = (N, out) by rw [HSS.out, if_neg hd, if_neg (fun h => hd0 h.1)])
                  clear hd
                  go_wp2
                  first | (refine bodyPost_ret (results_none rfl _ _ _) rfl ?_) | (refine bodyPost_end (results_none rfl _ _ _) rfl ?_)
                  exact ⟨rfl, HB2.out, HNONE.out HQ.out⟩
end Go.Proofs.Ytpnkkdpggofanaa
