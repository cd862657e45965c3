/- spec's rules by their walks: each does what the plain machine does. -/
import Derived.Test.YtpnkkdpggofanaaSpecC
namespace Go.Proofs.Ytpnkkdpggofanaa
open Go.RowKit

set_option maxRecDepth 4000 in
set_option maxHeartbeats 8000000 in
theorem answer_any (B : Nat) (w : World) {bm b i : Nat} {c : Cl} {G : Gm} (h : Rep B w bm G) (hB : B ≤ w.heap.size) (hi : G.cs[i]? = some (b, c)) (hc : G.cp = ptrV b) (e : Ev) (_he : e.wf) :
    Calls Try.prog 79 #[ptrV bm, evV e] w fun x w' => Ends B bm w (answerM G.ma i c e) x w' := by
  go_enter Try.func79, Try.ntmps79
  go_wp2
  generalize hW : w.alloc _ = W
  obtain ⟨hR, hE, hBW, hsz⟩ := h.boxed e hW
  clear hW h
  generalize hBE : w.heap.size = be at *
  have HR := hid hR
  have HE := hid hE
  have HBW := hid hBW
  have HC : Hid (Blk W b 126 (clC c)) := (HR.out.cl _ (List.mem_of_getElem? hi)).1
  clear hR hE hBW
  have m_c : W.cell? ⟨bm, 9, none⟩ = some (ptrV b) := hc ▸ HR.out.mach.cell 9 rfl
  have e_id : W.cell? ⟨be, 4, none⟩ = some (.int .u64 e.id) := HE.out.cell 4 rfl
  have e_gen : W.cell? ⟨be, 5, none⟩ = some (.int .u64 e.gen) := HE.out.cell 5 rfl
  have e_err : W.cell? ⟨be, 9, none⟩ = some (.int .i64 e.err) := HE.out.cell 9 rfl
  have c_cid : W.cell? ⟨b, 12, none⟩ = some (.int .u64 c.id) := HC.out.cell 12 rfl
  have c_cgen : W.cell? ⟨b, 13, none⟩ = some (.int .u64 c.gen) := HC.out.cell 13 rfl
  have c_cerr : W.cell? ⟨b, 14, none⟩ = some (.int .i64 c.err) := HC.out.cell 14 rfl
  by_cases h1 : e.id = c.id
  · have h1' : (e.id != c.id) = false := by simp [h1]
    by_cases h2 : e.gen = c.gen
    · have h2' : (e.gen != c.gen) = false := by simp [h2]
      by_cases h3 : e.err = c.err
      · have h3' : (e.err != c.err) = false := by simp [h3]
        have HP := hid (show answerM G.ma i c e = some ({ G with cs := G.cs.set i (b, { c with opn := false }), opn := aput G.opn e.thr false } : Gm).ma by rw [opn_ma hi]; unfold answerM; simp [h1, h2, h3]; rfl)
        go_quiet (fail)
        generalize hW1 : W.drewN _ = W1
        replace HR := hid (show Rep B W1 bm G from hW1 ▸ HR.out.drewN _)
        replace HE := hid (show Blk W1 be 31 (evC e) from hW1 ▸ HE.out)
        replace HBW := hid (show Below be w W1 from hW1 ▸ below_drewN HBW.out _)
        replace HC := hid (show Blk W1 b 126 (clC c) from hW1 ▸ HC.out)
        clear hW1
        have m_c : W1.cell? ⟨bm, 9, none⟩ = some (ptrV b) := hc ▸ HR.out.mach.cell 9 rfl
        have c_opn : W1.cell? ⟨b, 10, none⟩ = some (.bool c.opn) := HC.out.cell 10 rfl
        have f10 := HC.out.frozen 10
        go_wp2
        generalize hW2 : W1.setCell ⟨b, 10, none⟩ (.bool false) = W2
        have hch := hid (show Chg (· = b) W1 W2 from hW2 ▸ (Chg.refl (· = b) W1).sets rfl 10 (.bool false))
        have hBb := (HR.out.cl _ (List.mem_of_getElem? hi)).2.1
        have HB := hid (below_chg (HBW.out.mono hB) (by omega) hch.out (fun k hk => hk ▸ hBb))
        replace HE := hid (HE.out.chg hch.out (fun h => HE.out.ne HC.out (by decide) h))
        have hBw : B ≤ w.heap.size := by omega
        replace HR := hid (HR.out.cset hi hch.out (c' := { c with opn := false }) (show Blk W2 b _ (clC _) from hW2 ▸ HC.out.set 10 (.bool false)) ⟨(HR.out.cl _ (List.mem_of_getElem? hi)).2.2.bg⟩)
        clear hch HBW HC hW2 m_c c_opn f10
        generalize hG : ({ G with cs := G.cs.set i (b, { c with opn := false }) } : Gm) = G1 at HR
        have ho : G1.bo = G.bo ∧ G1.opn = G.opn := by subst hG; exact ⟨rfl, rfl⟩
        have m_open : W2.cell? ⟨bm, 6, none⟩ = some (.map (some G.bo)) := ho.1 ▸ HR.out.mach.cell 6 rfl
        have e_thr : W2.cell? ⟨be, 1, none⟩ = some (.int .i64 e.thr) := HE.out.cell 1 rfl
        go_still_tail 6, (by kernel_rfl)
        refine (show wpList _ _ _ _ _ W2.drew from ?_)
        generalize hW3 : W2.drew = WD
        have HR3 := hid (show Rep B WD bm G1 from hW3 ▸ HR.out.drew)
        have HM := hid (show MapIs (Value.int .i64) Value.bool WD G.bo G.opn from ho.1 ▸ ho.2 ▸ HR3.out.opn)
        have HB3 := hid (show Below B w WD from hW3 ▸ HB.out.drew)
        clear hW3
        go_wp2_with (refine wpList_update _ rfl 82 _ _ _ rfl (keyLaw_int Try.underlying3) Try.underlying82 G.bo G.opn HM.out rfl e.thr rfl false rfl ?_; intro w4 hm4 hg4 hs4; have HR4 := hid (HR3.out.oset (ho.1 ▸ Chg.of_grown hg4 (fun k hk => (Option.some.inj hk).symm)) (show MapIs (Value.int .i64) Value.bool w4 G1.bo (aput G.opn e.thr false) from ho.1.symm ▸ hm4)); have HB4 := hid (HB3.out.trans ((Chg.of_grown (S := (· = G.bo)) hg4 (fun k hk => (Option.some.inj hk).symm)).below (Nat.le_trans hBw HB3.out.size) (fun k hk => hk ▸ ho.1 ▸ HR3.out.base.2.1))); clear hm4 hg4 hs4)
        go_ret
        subst hG
        exact Ends.yes (G' := { G with cs := G.cs.set i (b, { c with opn := false }), opn := aput G.opn e.thr false }) rfl HB4.out HP.out HR4.out
      · have h3' : (e.err != c.err) = true := by simp [h3]
        have HP := hid (show answerM G.ma i c e = none by unfold answerM; simp [h1, h2, h3])
        go_quiet (fail)
        go_wp2
        go_ret
        exact Ends.no rfl (below_drewN (HBW.out.mono hB) _) HP.out
    · have h2' : (e.gen != c.gen) = true := by simp [h2]
      have HP := hid (show answerM G.ma i c e = none by unfold answerM; simp [h1, h2])
      go_quiet (fail)
      go_wp2
      go_ret
      exact Ends.no rfl (below_drewN (HBW.out.mono hB) _) HP.out
  · have h1' : (e.id != c.id) = true := by simp [h1]
    have HP := hid (show answerM G.ma i c e = none by unfold answerM; simp [h1])
    go_quiet (fail)
    go_wp2
    go_ret
    exact Ends.no rfl (below_drewN (HBW.out.mono hB) _) HP.out
end Go.Proofs.Ytpnkkdpggofanaa
