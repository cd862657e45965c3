/- order.Serial, by its walk. -/
import Derived.Test.YtpnkkdpggofanaaSerC
namespace Go.Proofs.Ytpnkkdpggofanaa
open Go.RowKit Go.Shelf Go.Sort

def opMap (o : List OpD) : List (Int × OpD) := o.map fun x => (x.no, x)
def serUpto (l : List Ev) (O : List (Int × OpD)) : Nat → List (Int × Int) × List Ev
  | 0 => ([], [])
  | k + 1 => match l[k]? with
    | some e => serStep l O (serUpto l O k) k e
    | none => serUpto l O k
def serialOf (l : List Ev) : List Ev := (serUpto l (opMap (opsOf l)) l.length).2

theorem putP_len (st : List (Int × Int) × List Ev) (e : Ev) : (putP st e).1.length ≤ st.1.length + 1 ∧ (putP st e).2.length = st.2.length + 1 := ⟨putN_len st.1 e, by simp [putP]⟩
theorem serStep_len (l : List Ev) (O : List (Int × OpD)) (st : List (Int × Int) × List Ev) (i : Nat) (e : Ev) : (serStep l O st i e).1.length ≤ st.1.length + 3 ∧ (serStep l O st i e).2.length ≤ st.2.length + 3 := by
  unfold serStep
  split
  · omega
  · repeat' split
    all_goals first
      | omega
      | (have := putP_len st e; omega)
      | (rename_i o _ _ _ _ _; have h1 := putP_len st ((l[o.beg.toNat]?).getD evZ); have h2 := putP_len (putP st ((l[o.beg.toNat]?).getD evZ)) e; have h3 := putP_len (putP (putP st ((l[o.beg.toNat]?).getD evZ)) e) (ansE l o e); omega)
theorem serUpto_len (l : List Ev) (O : List (Int × OpD)) (k : Nat) : (serUpto l O k).1.length ≤ 3 * k ∧ (serUpto l O k).2.length ≤ 3 * k := by
  induction k with
  | zero => simp [serUpto]
  | succ k ih =>
    rw [serUpto]
    cases l[k]? with
    | none => simp only; omega
    | some e => simp only; have := serStep_len l O (serUpto l O k) k e; omega

theorem opsA_rng (l : List Ev) (k : Nat) : ∀ o ∈ opsA l k, 0 ≤ o.beg ∧ o.beg < l.length ∧ o.fin < l.length := by
  induction k with
  | zero => simp [opsA]
  | succ k ih =>
    rw [opsA]
    cases hk : l[k]? with
    | none => exact ih
    | some e =>
      have hlt : k < l.length := (List.getElem?_eq_some_iff.1 hk).1
      simp only
      split
      · intro o ho
        rcases List.mem_append.1 ho with h | h
        · exact ih o h
        · simp only [List.mem_singleton] at h; subst h; simp only; omega
      · exact ih
theorem opsB_rng (l : List Ev) (A : List OpD) (hA : ∀ o ∈ A, 0 ≤ o.beg ∧ o.beg < l.length ∧ o.fin < l.length) (k : Nat) : ∀ o ∈ opsB l A k, 0 ≤ o.beg ∧ o.beg < l.length ∧ o.fin < l.length := by
  induction k with
  | zero => exact hA
  | succ k ih =>
    rw [opsB]
    cases hk : l[k]? with
    | none => exact ih
    | some e =>
      have hlt : k < l.length := (List.getElem?_eq_some_iff.1 hk).1
      intro o ho
      simp only at ho
      obtain ⟨x, hx, rfl⟩ := List.mem_map.1 ho
      have := ih x hx
      unfold stepB
      repeat' split
      all_goals first | omega | (simp only; omega)
theorem opsOf_rng (l : List Ev) : ∀ o ∈ opsOf l, 0 ≤ o.beg ∧ o.beg < l.length ∧ o.fin < l.length := opsB_rng l _ (opsA_rng l _) _
theorem opsOf_nodup (l : List Ev) : ((opsOf l).map (·.no)).Nodup := by rw [opsOf, opsB_nos]; exact opsA_nodup l _
theorem opsOf_len (l : List Ev) : (opsOf l).length ≤ l.length := by rw [opsOf, opsB_len]; exact opsA_len l _
theorem opMap_keys (o : List OpD) : (opMap o).map (·.1) = o.map (·.no) := by simp [opMap, Function.comp_def]
theorem opMap_take (o : List OpD) (hn : (o.map (·.no)).Nodup) (k : Nat) (h : k < o.length) : opMap (o.take (k + 1)) = aput (opMap (o.take k)) o[k].no o[k] := by
  rw [aput_absent, take_snoc_list o k h]
  · unfold opMap; rw [List.map_append]; rfl
  · rw [opMap_keys]
    intro hm
    have h1 : (o.map (·.no))[k]? = some o[k].no := by simp [h]
    obtain ⟨j, hj, he⟩ := List.mem_iff_getElem.1 hm
    have hjk : j < k := by simp at hj; omega
    have h2 : (o.map (·.no))[j]? = some o[k].no := by rw [← he]; simp [show j < o.length by omega]
    have := (List.getElem?_inj (by simp; omega) hn).1 (h2.trans h1.symm)
    omega

theorem SRep.oset {W W' : World} {B bs mO mN : Nat} {fv ov : Value} {O O' : List (Int × OpD)} {N : List (Int × Int)} {out : List Ev} (h : SRep W B bs mO mN fv ov O N out) (hg : W.grownBy W' (some mO)) (hm : MapIs (Value.int .i64) opV W' mO O') : SRep W' B bs mO mN fv ov O' N out := by
  have hc := Chg.of_grown (S := fun j => j = mO) hg (fun k e => by cases e; rfl)
  exact ⟨h.ser.chg hc (h.ser.ne_map h.ops), hm, h.no.kept (hc.block _ h.no.lt (fun e => h.ne e.symm)), hc.owns h.row (fun k e hk => row_ne_map h.row h.ops (by rw [e, hk])), h.ne, h.bs_le, h.mN_le⟩

set_option maxRecDepth 1000000 in
set_option maxHeartbeats 8000000 in
theorem serial_any (l : List Ev) (v : Value) (w : World) (hr : Reads w v l.length (l.flatMap evC)) (hn : l.length ≤ 30000) :
    Calls Try.prog 32 #[v] w fun x w' => ∃ v', x = .returned v' ∧ w'.ownsRow w.heap.size 31 10 v' (serialOf l).length ((serialOf l).flatMap evC) ∧ Below w.heap.size w w' := by
  have HRD := hid hr
  obtain ⟨ao, c, rfl, g1⟩ := hr.evs
  have HG := hid g1
  obtain ⟨W3, hW3⟩ : ∃ W3, W3 = ((w.alloc (.map #[] 0)).alloc (.map #[] 0)).alloc (.cells #[.map (some w.heap.size), .map (some (w.heap.size + 1)), .slice ao l.length c, .slice none 0 0] 86) := ⟨_, rfl⟩
  have hs3 : W3.heap.size = w.heap.size + 3 := by rw [hW3]; simp
  have hB3 : Below w.heap.size w W3 := by rw [hW3]; exact below3 w _ _ _
  have hR3 : SRep W3 w.heap.size (w.heap.size + 2) w.heap.size (w.heap.size + 1) (.slice ao l.length c) (.slice none 0 0) [] [] [] := by
    have hS := Blk.new ((w.alloc (.map #[] 0)).alloc (.map #[] 0)) 86 [.map (some w.heap.size), .map (some (w.heap.size + 1)), .slice ao l.length c, .slice none 0 0]
    have hM := MapIs.made (enc := Value.int .i64) (encV := opV) w
    have hN := MapIs.made (enc := Value.int .i64) (encV := Value.int .i64) (w.alloc (.map #[] 0))
    rw [World.size_alloc] at hN
    rw [World.size_alloc, World.size_alloc] at hS
    rw [hW3]
    refine ⟨hS, (hM.kept ?_), (hN.kept ?_), World.ownsRow_nil _ _ _ _, by omega, by omega, by omega⟩
    · rw [Below.heap_alloc _ _ _ (by simp; omega), Below.heap_alloc _ _ _ (by simp)]
    · rw [Below.heap_alloc _ _ _ (by simp)]
  have HOP := hid (ops_any l (.slice ao l.length c) W3 (HRD.out.below hB3 (Nat.le_refl _)) (by omega))
  have HW3 := hid hW3
  have HS3 := hid hs3
  have HB3 := hid hB3
  have HR3 := hid hR3
  have HND := hid (opsOf_nodup l)
  have HLE := hid (opsOf_len l)
  have HRG := hid (opsOf_rng l)
  have HSO := hid (show serialOf l = (serUpto l (opMap (opsOf l)) l.length).2 from rfl)
  have hmm := @run_makeMap Try.prog
  clear hW3 hs3 hB3 hR3 g1 hr
  generalize opsOf l = os at *
  go_enter Try.func32, Try.ntmps32
  go_wp2_with fail
  rw [← HW3.out]
  refine HOP.out.mono ?_
  rintro x W4 ⟨v1, rfl, ho, hb⟩
  obtain ⟨ao1, c1, rfl⟩ := owns_shape ho
  have HO4 := hid ho
  have HR4 := hid (HR3.out.chg (Chg.of_below (S := fun _ => False) hb (fun k hk h => absurd hk (by omega))) (fun h => h) (fun h => h) (fun h => h) (fun _ _ h => h))
  have HB4 := hid (HB3.out.trans (hb.mono HB3.out.size))
  rw [HS3.out] at HO4
  clear ho hb HW3 HR3 HB3 HOP
  go_wp2
  go_loopw [16] (fun iv wr => ∃ k : Nat, k ≤ os.length ∧ iv = .int .i64 k ∧ SRep wr w.heap.size (w.heap.size + 2) w.heap.size (w.heap.size + 1) (.slice ao l.length c) (.slice none 0 0) (opMap (os.take k)) [] [] ∧ Below w.heap.size w wr ∧ wr.ownsRow (w.heap.size + 3) 40 6 (.slice ao1 os.length c1) os.length (os.flatMap opC)) (fun iv _ => os.length - (intOf iv).toNat)
  case atStart => exact ⟨0, by omega, rfl, by simpa [opMap] using HR4.out, HB4.out, HO4.out⟩
  case round =>
    clear HR4 HB4 HO4
    obtain ⟨k, hk, rfl, hR, hB, hO⟩ := hrel
    have HR := hid hR
    have HB := hid hB
    have HO := hid hO
    have hsz := hB.size
    have hosl : os.length ≤ l.length := HLE.out
    clear hR hB hO
    by_cases hlt : k < os.length
    · obtain ⟨ao', c', hv', hx'⟩ := (Reads.of_owns HO.out).ops
      simp only [Value.slice.injEq] at hv'
      obtain ⟨rfl, _, rfl⟩ := hv'
      obtain ⟨b, o, rfl, hcell⟩ := hx' k _ (List.getElem?_eq_getElem hlt)
      have p0 := hcell 0 _ rfl
      have p1 := hcell 1 _ rfl
      have p2 := hcell 2 _ rfl
      have p3 := hcell 3 _ rfl
      have p4 := hcell 4 _ rfl
      have p5 := hcell 5 _ rfl
      simp only [Nat.add_zero] at p0
      clear hcell hx'
      have HT := hid (opMap_take os HND.out k hlt)
      generalize os[k] = x at *
      go_wp2_with fail
      refine Hid.out ?_
      obtain ⟨W5, hW5⟩ : ∃ W5, W5 = wr.alloc (.cells (opC x).toArray 40) := ⟨_, rfl⟩
      obtain ⟨bo, hbo⟩ : ∃ bo, bo = wr.heap.size := ⟨_, rfl⟩
      rw [show (#[Value.int IntKind.i64 x.no, Value.int IntKind.i64 x.thr, Value.int IntKind.i64 x.what, Value.int IntKind.i64 x.beg, Value.int IntKind.i64 x.did, Value.int IntKind.i64 x.fin] : Array Value) = (opC x).toArray from rfl, ← hW5, ← hbo]
      have hR5 := HR.out.alloc (.cells (opC x).toArray 40)
      have hX5 := Blk.new wr 40 (opC x)
      have hB5 := HB.out.alloc hsz (.cells (opC x).toArray 40)
      have hO5 := HO.out.alloc (.cells (opC x).toArray 40)
      rw [← hW5] at hR5 hX5 hB5 hO5
      rw [← hbo] at hX5
      have HR5 := hid hR5
      have HB5 := hid hB5
      have HO5 := hid hO5
      have m_ops : W5.cell? ⟨w.heap.size + 2, 0, none⟩ = some (.map (some w.heap.size)) := hR5.ser.cell 0 rfl
      have o_no : W5.cell? ⟨bo, 0, none⟩ = some (.int .i64 x.no) := hX5.cell 0 rfl
      have o_thr : W5.cell? ⟨bo, 1, none⟩ = some (.int .i64 x.thr) := hX5.cell 1 rfl
      have o_what : W5.cell? ⟨bo, 2, none⟩ = some (.int .i64 x.what) := hX5.cell 2 rfl
      have o_beg : W5.cell? ⟨bo, 3, none⟩ = some (.int .i64 x.beg) := hX5.cell 3 rfl
      have o_did : W5.cell? ⟨bo, 4, none⟩ = some (.int .i64 x.did) := hX5.cell 4 rfl
      have o_fin : W5.cell? ⟨bo, 5, none⟩ = some (.int .i64 x.fin) := hX5.cell 5 rfl
      clear hR5 hB5 hO5 hX5 hW5 hbo p0 p1 p2 p3 p4 p5
      refine hid ?_
      go_still_tail 7, (by kernel_rfl)
      refine (show wpList _ _ _ _ _ W5.drew from ?_)
      have HRD5 := hid HR5.out.drew
      refine wpList_update _ rfl 84 _ _ _ rfl (keyLaw_int Try.underlying3) Try.underlying84 w.heap.size (opMap (os.take k)) HRD5.out.ops rfl x.no rfl x rfl ?_
      intro w2 hm2 hg2 hs2
      have HR6 := hid (HRD5.out.oset (O' := opMap (os.take (k + 1))) hg2 (by rw [HT.out]; exact hm2))
      have HB6 := hid (HB5.out.drew.grown hg2 (by show w.heap.size ≤ W5.heap.size; exact HB5.out.size) (fun j e => by cases e; exact Nat.le_refl _))
      have HO6 := hid ((show W5.drew.ownsRow (w.heap.size + 3) 40 6 (.slice (some ⟨b, o, none⟩) os.length c1) os.length (os.flatMap opC) from HO5.out).kept hg2 (.inr (fun e => by have := (HO5.out.lt w.heap.size e).1; omega)))
      clear hm2 hg2 hs2 m_ops o_no o_thr o_what o_beg o_did o_fin
      go_wp2
      go_roundw
      case rel => exact ⟨k + 1, by omega, by go_num, HR6.out, HB6.out, HO6.out⟩
      case measure => simp [intOf]; omega
    · obtain rfl : k = os.length := by omega
      have hR7 := HR.out
      rw [List.take_length] at hR7
      have HR7 := hid hR7
      clear hR7 HR HO hk hlt
      have HOO := hid (show ∀ p ∈ opMap os, p.2.no = p.1 ∧ 0 ≤ p.2.beg ∧ p.2.beg < l.length ∧ p.2.fin < l.length from fun p hp => by
        obtain ⟨x, hx, rfl⟩ := List.mem_map.1 hp
        exact ⟨rfl, HRG.out x hx⟩)
      generalize opMap os = O at *
      rename World => w0
      go_wp2
      go_loopw [30] (fun iv wr => ∃ k : Nat, k ≤ l.length ∧ iv = .int .i64 k ∧ Below w.heap.size w wr ∧ ∃ ov, SRep wr w.heap.size (w.heap.size + 2) w.heap.size (w.heap.size + 1) (.slice ao l.length c) ov O (serUpto l O k).1 (serUpto l O k).2) (fun iv _ => l.length - (intOf iv).toNat)
      case atStart => exact ⟨0, by omega, rfl, HB.out, _, HR7.out⟩
      case round =>
        clear HR7 HB hsz
        obtain ⟨k, hk, rfl, hB, ov, hR⟩ := hrel
        have HR := hid hR
        have HB := hid hB
        have hsz := hB.size
        clear hR hB
        by_cases hlt : k < l.length
        · obtain ⟨b, o, hao, hc⟩ := HG.out k l[k] (List.getElem?_eq_getElem hlt)
          obtain rfl := hao
          have q0 : wr.cell? ⟨b, o + k * 10, none⟩ = some (.int .i64 l[k].kind) := (HB.out.cell (World.block_lt_of_cell? _ _ (hc 0 _ rfl))).trans (hc 0 _ rfl)
          have q1 : wr.cell? ⟨b, o + k * 10 + 1, none⟩ = some (.int .i64 l[k].thr) := (HB.out.cell (World.block_lt_of_cell? _ _ (hc 1 _ rfl))).trans (hc 1 _ rfl)
          have q2 : wr.cell? ⟨b, o + k * 10 + 2, none⟩ = some (.int .i64 l[k].call) := (HB.out.cell (World.block_lt_of_cell? _ _ (hc 2 _ rfl))).trans (hc 2 _ rfl)
          have q3 : wr.cell? ⟨b, o + k * 10 + 3, none⟩ = some (.int .i64 l[k].what) := (HB.out.cell (World.block_lt_of_cell? _ _ (hc 3 _ rfl))).trans (hc 3 _ rfl)
          have q4 : wr.cell? ⟨b, o + k * 10 + 4, none⟩ = some (.int .u64 l[k].id) := (HB.out.cell (World.block_lt_of_cell? _ _ (hc 4 _ rfl))).trans (hc 4 _ rfl)
          have q5 : wr.cell? ⟨b, o + k * 10 + 5, none⟩ = some (.int .u64 l[k].gen) := (HB.out.cell (World.block_lt_of_cell? _ _ (hc 5 _ rfl))).trans (hc 5 _ rfl)
          have q6 : wr.cell? ⟨b, o + k * 10 + 6, none⟩ = some (.int .u64 l[k].dl) := (HB.out.cell (World.block_lt_of_cell? _ _ (hc 6 _ rfl))).trans (hc 6 _ rfl)
          have q7 : wr.cell? ⟨b, o + k * 10 + 7, none⟩ = some (.int .u64 l[k].per) := (HB.out.cell (World.block_lt_of_cell? _ _ (hc 7 _ rfl))).trans (hc 7 _ rfl)
          have q8 : wr.cell? ⟨b, o + k * 10 + 8, none⟩ = some (.int .u64 l[k].tk) := (HB.out.cell (World.block_lt_of_cell? _ _ (hc 8 _ rfl))).trans (hc 8 _ rfl)
          have q9 : wr.cell? ⟨b, o + k * 10 + 9, none⟩ = some (.int .i64 l[k].err) := (HB.out.cell (World.block_lt_of_cell? _ _ (hc 9 _ rfl))).trans (hc 9 _ rfl)
          have HST := hid (show serUpto l O (k + 1) = serStep l O (serUpto l O k) k l[k] by rw [serUpto, List.getElem?_eq_getElem hlt])
          have HLN := hid (serUpto_len l O k)
          obtain ⟨W5, hW5⟩ : ∃ W5, W5 = wr.alloc (.cells (evC l[k]).toArray 31) := ⟨_, rfl⟩
          have hR5 := HR.out.alloc (.cells (evC l[k]).toArray 31)
          have hB5 := HB.out.alloc hsz (.cells (evC l[k]).toArray 31)
          rw [← hW5] at hR5 hB5
          have HR5 := hid hR5
          have HB5 := hid hB5
          have HW5 := hid hW5
          clear hR5 hB5 hW5 hc
          have HEV := hid (event_any W5 w.heap.size (w.heap.size + 2) w.heap.size (w.heap.size + 1) (.slice (some ⟨b, o, none⟩) l.length c) ov O (serUpto l O k).1 (serUpto l O k).2 l k l[k] HR5.out (fun W' hB' => HRD.out.below (HB5.out.trans hB') (Nat.le_refl _)) (by omega) (by have := HLN.out.1; omega) (by have := HLN.out.2; omega) HOO.out)
          generalize hx : l[k] = x at *
          go_wp2_with fail
          refine Hid.out ?_
          rw [show (#[Value.int IntKind.i64 x.kind, Value.int IntKind.i64 x.thr, Value.int IntKind.i64 x.call, Value.int IntKind.i64 x.what, Value.int IntKind.u64 x.id, Value.int IntKind.u64 x.gen, Value.int IntKind.u64 x.dl, Value.int IntKind.u64 x.per, Value.int IntKind.u64 x.tk, Value.int IntKind.i64 x.err] : Array Value) = (evC x).toArray from rfl, ← HW5.out]
          refine HEV.out.mono ?_
          rintro y W6 ⟨rfl, hB6, ov6, hR6⟩
          have HR6 := hid hR6
          have HB6 := hid (HB5.out.trans hB6)
          clear hR6 hB6 q0 q1 q2 q3 q4 q5 q6 q7 q8 q9
          go_wp2
          go_roundw
          case rel => exact ⟨k + 1, by omega, by go_num, HB6.out, ov6, by rw [HST.out]; exact HR6.out⟩
          case measure => simp [intOf]; omega
        · obtain rfl : k = l.length := by omega
          have m_out : wr.cell? ⟨w.heap.size + 2, 3, none⟩ = some ov := HR.out.ser.cell 3 rfl
          go_wp2
          go_ret
          exact ⟨_, rfl, by rw [HSO.out]; exact HR.out.row, HB.out⟩
end Go.Proofs.Ytpnkkdpggofanaa
