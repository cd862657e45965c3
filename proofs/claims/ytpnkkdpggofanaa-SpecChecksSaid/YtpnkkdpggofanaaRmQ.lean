/- The document's machine: later by its walk, all ways. The document's machine: first by its walk, all ways. The document's machine: what Step needs besides. -/
import Derived.Test.YtpnkkdpggofanaaRmLa
import Derived.Test.YtpnkkdpggofanaaRmLb
import Derived.Test.YtpnkkdpggofanaaRmLc
import Derived.Test.YtpnkkdpggofanaaRmLd
import Derived.Test.YtpnkkdpggofanaaRmFa
import Derived.Test.YtpnkkdpggofanaaRmFb
import Derived.Test.YtpnkkdpggofanaaRmFc
import Derived.Test.YtpnkkdpggofanaaRmFd
import Derived.Test.YtpnkkdpggofanaaRmFe
import Derived.Test.YtpnkkdpggofanaaRmFf
import Derived.Test.YtpnkkdpggofanaaRmG
namespace Go.Proofs.Ytpnkkdpggofanaa
open Go.RowKit

set_option maxHeartbeats 4000000 in
theorem rlater_any (R : Rm) (c : Cl) (t : RT) (e : Ev) (bm : Nat) (vc vt : Value) (w : World) (HM : Hid (Blk w bm 91 (mcC R vc vt))) (hd : U64 t.dl) (hp : U64 t.per) (hg : U64 t.gen) :
    Calls Try.prog 58 #[ptrV bm, clV c, rtV t, evV e] w (EndsR w bm vc vt (R, rlater R.now c t e)) := by
  cases k2 : (e.kind == 2) with
  | true =>
    cases x1 : (e.id == c.id) with
    | true =>
      cases x2 : (e.gen == c.gen) with
      | true =>
        exact rlater_2c R c t e bm vc vt w HM k2 x1 x2 
      | false =>
        exact rlater_2b R c t e bm vc vt w HM k2 x1 x2 
    | false =>
      exact rlater_2a R c t e bm vc vt w HM k2 x1 
  | false =>
    cases k3 : (c.bg.what != 7) with
    | true =>
      exact rlater_n1 R c t e bm vc vt w HM k2 k3 
    | false =>
      cases k4 : (t.live) with
      | true =>
        cases k5 : (e.kind == 4) with
        | true =>
          cases x0 : (t.btw) with
          | true =>
            cases x1 : (rfits t.dl t.per) with
            | true =>
              cases x2 : (t.gen == u64top) with
              | true =>
                exact rlater_4b R c t e bm vc vt w HM k2 k3 k4 k5 x0 x1 x2 hd hp
              | false =>
                cases x3 : (e.gen == t.gen + 1) with
                | true =>
                  exact rlater_4d R c t e bm vc vt w HM k2 k3 k4 k5 x0 x1 x2 x3 hd hp hg
                | false =>
                  exact rlater_4c R c t e bm vc vt w HM k2 k3 k4 k5 x0 x1 x2 x3 hd hp hg
            | false =>
              exact rlater_4a R c t e bm vc vt w HM k2 k3 k4 k5 x0 x1 hd hp
          | false =>
            cases x1 : (t.armed) with
            | true =>
              exact rlater_4e R c t e bm vc vt w HM k2 k3 k4 k5 x0 x1 
            | false =>
              cases x2 : (decide (t.dl < R.now)) with
              | true =>
                cases x3 : (e.gen == t.gen) with
                | true =>
                  exact rlater_4f1 R c t e bm vc vt w HM k2 k3 k4 k5 x0 x1 x2 x3 
                | false =>
                  exact rlater_4f0 R c t e bm vc vt w HM k2 k3 k4 k5 x0 x1 x2 x3 
              | false =>
                cases x3 : (e.gen == t.gen) with
                | true =>
                  exact rlater_4g1 R c t e bm vc vt w HM k2 k3 k4 k5 x0 x1 x2 x3 
                | false =>
                  exact rlater_4g0 R c t e bm vc vt w HM k2 k3 k4 k5 x0 x1 x2 x3 
        | false =>
          cases k6 : (e.kind == 5) with
          | true =>
            cases x1 : (t.armed) with
            | true =>
              cases x2 : (t.btw) with
              | true =>
                cases x6 : (decide (t.per > 0)) with
                | true =>
                  cases x7 : (t.last) with
                  | true =>
                    exact rlater_51b R c t e bm vc vt w HM k2 k3 k4 k5 k6 x1 x2 x6 x7 
                  | false =>
                    exact rlater_51c R c t e bm vc vt w HM k2 k3 k4 k5 k6 x1 x2 x6 x7 
                | false =>
                  exact rlater_51a R c t e bm vc vt w HM k2 k3 k4 k5 k6 x1 x2 x6 
              | false =>
                cases x3 : (e.gen == t.gen) with
                | true =>
                  cases x4 : (e.dl == t.dl) with
                  | true =>
                    cases x5 : (e.tk == R.now) with
                    | true =>
                      cases x6 : (decide (t.per > 0)) with
                      | true =>
                        cases x7 : (t.last) with
                        | true =>
                          exact rlater_55b R c t e bm vc vt w HM k2 k3 k4 k5 k6 x1 x2 x3 x4 x5 x6 x7 
                        | false =>
                          exact rlater_55c R c t e bm vc vt w HM k2 k3 k4 k5 k6 x1 x2 x3 x4 x5 x6 x7 
                      | false =>
                        exact rlater_55a R c t e bm vc vt w HM k2 k3 k4 k5 k6 x1 x2 x3 x4 x5 x6 
                    | false =>
                      cases x6 : (decide (t.per > 0)) with
                      | true =>
                        cases x7 : (t.last) with
                        | true =>
                          exact rlater_54b R c t e bm vc vt w HM k2 k3 k4 k5 k6 x1 x2 x3 x4 x5 x6 x7 
                        | false =>
                          exact rlater_54c R c t e bm vc vt w HM k2 k3 k4 k5 k6 x1 x2 x3 x4 x5 x6 x7 
                      | false =>
                        exact rlater_54a R c t e bm vc vt w HM k2 k3 k4 k5 k6 x1 x2 x3 x4 x5 x6 
                  | false =>
                    cases x6 : (decide (t.per > 0)) with
                    | true =>
                      cases x7 : (t.last) with
                      | true =>
                        exact rlater_53b R c t e bm vc vt w HM k2 k3 k4 k5 k6 x1 x2 x3 x4 x6 x7 
                      | false =>
                        exact rlater_53c R c t e bm vc vt w HM k2 k3 k4 k5 k6 x1 x2 x3 x4 x6 x7 
                    | false =>
                      exact rlater_53a R c t e bm vc vt w HM k2 k3 k4 k5 k6 x1 x2 x3 x4 x6 
                | false =>
                  cases x6 : (decide (t.per > 0)) with
                  | true =>
                    cases x7 : (t.last) with
                    | true =>
                      exact rlater_52b R c t e bm vc vt w HM k2 k3 k4 k5 k6 x1 x2 x3 x6 x7 
                    | false =>
                      exact rlater_52c R c t e bm vc vt w HM k2 k3 k4 k5 k6 x1 x2 x3 x6 x7 
                  | false =>
                    exact rlater_52a R c t e bm vc vt w HM k2 k3 k4 k5 k6 x1 x2 x3 x6 
            | false =>
              cases x6 : (decide (t.per > 0)) with
              | true =>
                cases x7 : (t.last) with
                | true =>
                  exact rlater_50b R c t e bm vc vt w HM k2 k3 k4 k5 k6 x1 x6 x7 
                | false =>
                  exact rlater_50c R c t e bm vc vt w HM k2 k3 k4 k5 k6 x1 x6 x7 
              | false =>
                exact rlater_50a R c t e bm vc vt w HM k2 k3 k4 k5 k6 x1 x6 
          | false =>
            cases k7 : (e.kind == 14) with
            | true =>
              cases x0 : (t.btw) with
              | true =>
                cases x1 : (e.gen == t.gen) with
                | true =>
                  exact rlater_14c R c t e bm vc vt w HM k2 k3 k4 k5 k6 k7 x0 x1 hd hp
                | false =>
                  exact rlater_14b R c t e bm vc vt w HM k2 k3 k4 k5 k6 k7 x0 x1 
              | false =>
                exact rlater_14a R c t e bm vc vt w HM k2 k3 k4 k5 k6 k7 x0 
            | false =>
              exact rlater_o R c t e bm vc vt w HM k2 k3 k4 k5 k6 k7 
      | false =>
        exact rlater_n2 R c t e bm vc vt w HM k2 k3 k4 
end Go.Proofs.Ytpnkkdpggofanaa

namespace Go.Proofs.Ytpnkkdpggofanaa
open Go.RowKit

set_option maxHeartbeats 4000000 in
theorem rfirst_any (R : Rm) (c : Cl) (t : RT) (e : Ev) (bm : Nat) (vc vt : Value) (w : World) (HM : Hid (Blk w bm 91 (mcC R vc vt))) (HT : Hid (∀ W, Chg (· = bm) w W → Reads W vt R.tms.length (R.tms.flatMap rtC))) (HN : Hid (rlives R.tms).Nodup) (hn : R.tms.length ≤ 1000000) (hd : U64 c.bg.dl) (hp : U64 c.bg.per) (hg : U64 t.gen) (hnow : U64 R.now) :
    Calls Try.prog 59 #[ptrV bm, clV c, rtV t, evV e] w (EndsR w bm vc vt (rfirst R c t e)) := by
  cases k3 : (e.kind == 3) with
  | true =>
    cases w1 : (c.bg.what == 1) with
    | true =>
      cases x2 : (R.ended) with
      | true =>
        exact rfirst_3a0 R c t e bm vc vt w HM k3 w1 x2 HT HN hn hd hp
      | false =>
        cases x3 : (decide (rfindI R.tms e.id < 0)) with
        | true =>
          cases x4 : (decide (((rlives R.tms).length : Int) < R.room)) with
          | true =>
            cases x5 : (e.dl == c.bg.dl) with
            | true =>
              exact rfirst_3a4 R c t e bm vc vt w HM k3 w1 x2 x3 x4 x5 HT HN hn hd hp
            | false =>
              exact rfirst_3a3 R c t e bm vc vt w HM k3 w1 x2 x3 x4 x5 HT HN hn hd hp
          | false =>
            exact rfirst_3a2 R c t e bm vc vt w HM k3 w1 x2 x3 x4 HT HN hn hd hp
        | false =>
          exact rfirst_3a1 R c t e bm vc vt w HM k3 w1 x2 x3 HT HN hn hd hp
    | false =>
      cases w2 : (c.bg.what == 2) with
      | true =>
        cases x0 : (decide (c.bg.per > 0)) with
        | true =>
          cases x1 : (rfits c.bg.dl c.bg.per) with
          | true =>
            cases x2 : (R.ended) with
            | true =>
              exact rfirst_3b0 R c t e bm vc vt w HM k3 w1 w2 x0 x1 x2 HT HN hn hd hp
            | false =>
              cases x3 : (decide (rfindI R.tms e.id < 0)) with
              | true =>
                cases x4 : (decide (((rlives R.tms).length : Int) < R.room)) with
                | true =>
                  cases x5 : (e.dl == c.bg.dl) with
                  | true =>
                    exact rfirst_3b4 R c t e bm vc vt w HM k3 w1 w2 x0 x1 x2 x3 x4 x5 HT HN hn hd hp
                  | false =>
                    exact rfirst_3b3 R c t e bm vc vt w HM k3 w1 w2 x0 x1 x2 x3 x4 x5 HT HN hn hd hp
                | false =>
                  exact rfirst_3b2 R c t e bm vc vt w HM k3 w1 w2 x0 x1 x2 x3 x4 HT HN hn hd hp
              | false =>
                exact rfirst_3b1 R c t e bm vc vt w HM k3 w1 w2 x0 x1 x2 x3 HT HN hn hd hp
          | false =>
            exact rfirst_3b6 R c t e bm vc vt w HM k3 w1 w2 x0 x1 HT HN hn hd hp
        | false =>
          exact rfirst_3b5 R c t e bm vc vt w HM k3 w1 w2 x0 HT HN hn hd hp
      | false =>
        exact rfirst_3c R c t e bm vc vt w HM k3 w1 w2 HT HN hn hd hp
  | false =>
    cases k11 : (e.kind == 11) with
    | true =>
      cases x1 : (c.bg.what != 7) with
      | true =>
        exact rfirst_110 R c t e bm vc vt w HM k3 k11 x1 
      | false =>
        cases x2 : (R.ended) with
        | true =>
          exact rfirst_111 R c t e bm vc vt w HM k3 k11 x1 x2 
        | false =>
          cases x3 : (R.now == u64top) with
          | true =>
            exact rfirst_112 R c t e bm vc vt w HM k3 k11 x1 x2 x3 
          | false =>
            cases x4 : (e.tk != R.now + 1) with
            | true =>
              exact rfirst_113 R c t e bm vc vt w HM k3 k11 x1 x2 x3 x4 hnow
            | false =>
              exact rfirst_114 R c t e bm vc vt w HM k3 k11 x1 x2 x3 x4 hnow
    | false =>
      cases k6 : (e.kind == 6) with
      | true =>
        cases x1 : (c.bg.what == 3) with
        | true =>
          cases x2 : (t.live) with
          | true =>
            cases x3 : (e.id == c.bg.id) with
            | true =>
              cases x4 : (e.dl == c.bg.dl) with
              | true =>
                cases x5 : (decide (t.gen < u64top)) with
                | true =>
                  exact rfirst_65 R c t e bm vc vt w HM k3 k11 k6 x1 x2 x3 x4 x5 hg
                | false =>
                  exact rfirst_64 R c t e bm vc vt w HM k3 k11 k6 x1 x2 x3 x4 x5 
              | false =>
                exact rfirst_63 R c t e bm vc vt w HM k3 k11 k6 x1 x2 x3 x4 
            | false =>
              exact rfirst_62 R c t e bm vc vt w HM k3 k11 k6 x1 x2 x3 
          | false =>
            exact rfirst_61 R c t e bm vc vt w HM k3 k11 k6 x1 x2 
        | false =>
          exact rfirst_60 R c t e bm vc vt w HM k3 k11 k6 x1 
      | false =>
        cases k7 : (e.kind == 7) with
        | true =>
          cases x1 : (c.bg.what == 4) with
          | true =>
            cases x2 : (t.live) with
            | true =>
              cases x3 : (e.id == c.bg.id) with
              | true =>
                cases x4 : (t.btw) with
                | true =>
                  cases x5 : (decide (t.gen < u64top)) with
                  | true =>
                    exact rfirst_75 R c t e bm vc vt w HM k3 k11 k6 k7 x1 x2 x3 x4 x5 hg
                  | false =>
                    exact rfirst_74 R c t e bm vc vt w HM k3 k11 k6 k7 x1 x2 x3 x4 x5 
                | false =>
                  cases x6 : (e.gen == t.gen) with
                  | true =>
                    exact rfirst_76 R c t e bm vc vt w HM k3 k11 k6 k7 x1 x2 x3 x4 x6 
                  | false =>
                    exact rfirst_73 R c t e bm vc vt w HM k3 k11 k6 k7 x1 x2 x3 x4 x6 
              | false =>
                exact rfirst_72 R c t e bm vc vt w HM k3 k11 k6 k7 x1 x2 x3 
            | false =>
              exact rfirst_71 R c t e bm vc vt w HM k3 k11 k6 k7 x1 x2 
          | false =>
            exact rfirst_70 R c t e bm vc vt w HM k3 k11 k6 k7 x1 
        | false =>
          cases k8 : (e.kind == 8) with
          | true =>
            cases x1 : (c.bg.what == 5) with
            | true =>
              cases x2 : (t.live) with
              | true =>
                cases x3 : (e.id == c.bg.id) with
                | true =>
                  cases x4 : (decide (t.per > 0)) with
                  | true =>
                    cases x5 : (t.last) with
                    | true =>
                      exact rfirst_84 R c t e bm vc vt w HM k3 k11 k6 k7 k8 x1 x2 x3 x4 x5 
                    | false =>
                      exact rfirst_85 R c t e bm vc vt w HM k3 k11 k6 k7 k8 x1 x2 x3 x4 x5 
                  | false =>
                    exact rfirst_83 R c t e bm vc vt w HM k3 k11 k6 k7 k8 x1 x2 x3 x4 
                | false =>
                  exact rfirst_82 R c t e bm vc vt w HM k3 k11 k6 k7 k8 x1 x2 x3 
              | false =>
                exact rfirst_81 R c t e bm vc vt w HM k3 k11 k6 k7 k8 x1 x2 
            | false =>
              exact rfirst_80 R c t e bm vc vt w HM k3 k11 k6 k7 k8 x1 
          | false =>
            cases k9 : (e.kind == 9) with
            | true =>
              exact rfirst_9 R c t e bm vc vt w HM k3 k11 k6 k7 k8 k9 HT hn hd hp
            | false =>
              exact rfirst_o R c t e bm vc vt w HM k3 k11 k6 k7 k8 k9 HT HN hn
end Go.Proofs.Ytpnkkdpggofanaa

namespace Go.Proofs.Ytpnkkdpggofanaa
open Go.RowKit

theorem rclosing_rows (R : Rm) (c : Cl) (t : RT) (e : Ev) : (rclosing R c t e).1.calls = R.calls ∧ (rclosing R c t e).1.tms = R.tms := by
  unfold rclosing
  repeat' (first | (exact ⟨rfl, rfl⟩) | split)
theorem rfirst_rows (R : Rm) (c : Cl) (t : RT) (e : Ev) : (rfirst R c t e).1.calls = R.calls ∧ (rfirst R c t e).1.tms = R.tms := by
  unfold rfirst
  repeat' (first | (exact ⟨rfl, rfl⟩) | (exact rclosing_rows R c t e) | split)
theorem rdoes_rows (R : Rm) (c : Cl) (t : RT) (e : Ev) : (rdoes R c t e).1.calls = R.calls ∧ (rdoes R c t e).1.tms = R.tms := by
  unfold rdoes
  split
  · exact ⟨rfl, rfl⟩
  · exact rfirst_rows R c t e

section
variable {P : Program} {w w' : World} {a : Act} {o : Oper}
theorem exec_load {ty : TypeId} {x : Operand} {b off : Nat} {cs : List Value} {d : TypeDesc} (ho : o.op = .load ty x) (hx : a.eval x = .pointer (some ⟨b, off, none⟩)) (hc : w.rangeAt b off cs) (hu : P.underlying ty = some d) (hd : d.isRow = true) (hi : (P.info? ty).map (·.size) = some cs.length) :
    (execOp a.eval o).run P w = .ok (.value (.agg cs.toArray)) w := by
  unfold execOp
  simp only [ho, hx, Instr.loadAt, Instr.sureAddr, Sem.run_bind, Sem.run_pure, Result.andThen_ok, run_loadVar_mid w b off ty cs d hc hu hd hi]
theorem wp_store_run {K : Act → World → Prop} {Q : Exit → Act → World → Prop} {ty : TypeId} {x y : Operand} {p : Addr} (ho : o.op = .store ty x y) (hx : a.eval x = .pointer (some p)) {v : Value} (hy : a.eval y = v) (hr : (storeVar ty p v).run P w = .ok () w') (h : K (a.put o.dst undef) w') : o.wp P a w K Q := by
  unfold Oper.wp execOp
  simp only [ho, hx, hy, Instr.storeAt, Instr.sureAddr, Sem.run_bind, Sem.run_pure, Result.andThen_ok, hr]
  exact h
theorem Blk.listPut {ops : Array Oper} {Q : Exit → Act → World → Prop} {rest : List Oper} {ty : TypeId} {x y : Operand} {b : Nat} {cs cells : List Value} (h : Blk w b ty cs) (hl : cs.length = cells.length) (h1 : ∀ v ∈ cells, v.oneCell' = true) (hi : (P.info? ty).map (·.size) = some cells.length)
    (hg : o.guard = none) (ho : o.op = .store ty x y) (hx : a.eval x = .pointer (some ⟨b, 0, none⟩)) (hy : a.eval y = .agg cells.toArray) (hk : wpList P ops Q rest (a.put o.dst undef) (w.setRow b cells.toArray)) : wpList P ops Q (o :: rest) a w :=
  wpList_store_row hg ty x y ho b cells.toArray hx hy _ _ h (by simpa using hi) (by simpa using hl) (all_oneCell_toArray h1) hk
end
theorem flatMap_set {α : Type} {enc : α → List Value} {sz : Nat} (hsz : ∀ x, (enc x).length = sz) : ∀ (l : List α) (i : Nat) (c : α), i < l.length → (l.set i c).flatMap enc = (l.flatMap enc).take (i * sz) ++ enc c ++ (l.flatMap enc).drop (i * sz + sz)
  | [], _, _, h => by simp at h
  | x :: l, 0, c, _ => by simp [hsz, List.take_append]
  | x :: l, i + 1, c, h => by
    have ih := flatMap_set hsz l i c (by simpa using h)
    have e1 : (i + 1) * sz = sz + i * sz := by rw [Nat.succ_mul]; omega
    have e2 : (enc x).length = sz := hsz x
    simp only [List.set_cons_succ, List.flatMap_cons, ih, e1]
    have t1 : ∀ k, (enc x ++ l.flatMap enc).take (sz + k) = enc x ++ (l.flatMap enc).take k := fun k => by rw [← e2]; exact List.take_length_add_append _
    have t2 : ∀ k, (enc x ++ l.flatMap enc).drop (sz + k) = (l.flatMap enc).drop k := fun k => by rw [← e2]; exact List.drop_length_add_append _
    rw [t1, Nat.add_assoc, t2]
    simp
theorem rclosing_false {R : Rm} {c : Cl} {t : RT} {e : Ev} (h : (rclosing R c t e).2.2.2 = false) : (rclosing R c t e).1 = R := by
  unfold rclosing at *
  repeat' (first | rfl | (simp at h; done) | split at h <;> simp_all)
theorem rfirst_false {R : Rm} {c : Cl} {t : RT} {e : Ev} (h : (rfirst R c t e).2.2.2 = false) : (rfirst R c t e).1 = R := by
  unfold rfirst at *
  repeat' (first | rfl | (exact rclosing_false h) | (simp at h; done) | split at h <;> simp_all)
theorem rdoes_false {R : Rm} {c : Cl} {t : RT} {e : Ev} (h : (rdoes R c t e).2.2.2 = false) : (rdoes R c t e).1 = R := by
  unfold rdoes at *
  split at h
  · rename_i hd; simp [hd]
  · rename_i hd; simp only [hd] at *; exact rfirst_false h
theorem rset_at {l : List RT} {id : Int} {j : Nat} (h : rfindI l id = (j : Int)) (t : RT) : rset l id t = l.set j t := by
  unfold rfindI at h
  unfold rset
  cases hq : rfindTo l id with
  | none => rw [hq] at h; simp only at h; omega
  | some i => rw [hq] at h; simp only at h; rw [show i = j by omega]
theorem clC_one (c : Cl) : ∀ v ∈ clC' c, v.oneCell' = true := by simp [clC', Value.oneCell']
theorem rtC_one (t : RT) : ∀ v ∈ rtC t, v.oneCell' = true := by simp [rtC, Value.oneCell']

/-- While Step runs: its box of the event, the machine, what has changed. -/
structure SL (B : Nat) (w : World) (bm : Nat) (R : Rm) (vc vt : Value) (be : Nat) (e : Ev) (W : World) : Prop where
  size : w.heap.size = be
  base : B ≤ be
  e : Blk W be 31 (evC e)
  rep : RRep B W bm R vc vt
  bel : Below B w W
  ltm : bm < be
  ltc : ∀ g, vc.ownBlock = some g → g < be
  ltt : ∀ g, vt.ownBlock = some g → g < be
section
variable {B : Nat} {w W W' : World} {bm be : Nat} {R : Rm} {vc vt : Value} {e : Ev}
theorem SL.below (h : SL B w bm R vc vt be e W) (hb : Below W.heap.size W W') : SL B w bm R vc vt be e W' :=
  ⟨h.size, h.base, h.e.kept (hb.block _ h.e.lt), h.rep.below hb, h.bel.trans (hb.mono h.rep.lt), h.ltm, h.ltc, h.ltt⟩
theorem SL.drewN (h : SL B w bm R vc vt be e W) (n : Nat) : SL B w bm R vc vt be e (W.drewN n) := h.below (below_drewN (Below.refl _ _) _)
theorem SL.drew (h : SL B w bm R vc vt be e W) : SL B w bm R vc vt be e W.drew := h.below ((Below.refl _ _).drew)
theorem SL.fresh {S : Nat → Prop} (h : SL B w bm R vc vt be e W) (hc : Chg S W W') (hS : ∀ k, S k → be < k) : SL B w bm R vc vt be e W' :=
  ⟨h.size, h.base, h.e.chg hc (fun k => by have := hS _ k; omega), h.rep.chg hc (fun k => by have := hS _ k; have := h.ltm; omega) (fun g hg k => by have := hS _ k; have := h.ltc g hg; omega) (fun g hg k => by have := hS _ k; have := h.ltt g hg; omega), h.bel.trans (hc.below h.rep.lt (fun k hk => by have := hS _ hk; have := h.base; omega)), h.ltm, h.ltc, h.ltt⟩
theorem sl_new (h : RRep B w bm R vc vt) (e : Ev) : SL B w bm R vc vt w.heap.size e (w.alloc (.cells (evC e).toArray 31)) :=
  ⟨rfl, h.lt, Blk.new _ _ _, h.below ((Below.refl _ _).alloc (Nat.le_refl _) _), (Below.refl _ _).alloc h.lt _, h.m.lt, fun _ hg => (row_lt h.calls hg).2, fun _ hg => (row_lt h.tms hg).2⟩
theorem SL.after {R' : Rm} (h : SL B w bm R vc vt be e W) (hm : Blk W' bm 91 (mcC R' vc vt)) (hc : Chg (· = bm) W W') (h1 : R'.calls = R.calls) (h2 : R'.tms = R.tms) : SL B w bm R' vc vt be e W' :=
  ⟨h.size, h.base, h.e.chg hc (fun k => by have := h.ltm; omega), ⟨h.rep.base, hm, by rw [h1]; exact row_chg h.rep.calls hc (fun g hg k => h.rep.bm_calls (k ▸ hg)), by rw [h2]; exact row_chg h.rep.tms hc (fun g hg k => h.rep.bm_tms (k ▸ hg))⟩, h.bel.trans (hc.below h.rep.lt (fun k hk => hk ▸ h.rep.base)), h.ltm, h.ltc, h.ltt⟩
/-- A call's row is stored. -/
theorem SL.callSet (h : SL B w bm R vc vt be e W) {i : Nat} (hi : i < R.calls.length) (c : Cl) : ∃ g cap W', vc = .slice (some ⟨g, 0, none⟩) R.calls.length cap ∧ (storeVar 115 ⟨g, i * 15, none⟩ (.agg (clC' c).toArray)).run Try.prog W = .ok () W' ∧ Chg (· = g) W W' ∧ SL B w bm { R with calls := R.calls.set i c } vc vt be e W' := by
  obtain ⟨g, cap, W', hv, _, _, hr, hown, hc⟩ := row_store h.rep.calls hi (cs := clC' c) rfl (clC_one c) (by kernel_rfl)
  have hc' : Chg (· = g) W W' := ⟨hc.os, hc.tape, hc.output, hc.size, fun k hk hn => hc.block k hk (fun e => hn (by rw [hv] at e; simpa [Value.ownBlock, eq_comm] using e))⟩
  have hg : vc.ownBlock = some g := by rw [hv]; rfl
  refine ⟨g, cap, W', hv, hr, hc', ⟨h.size, h.base, h.e.chg hc' (fun k => by have := h.ltc g hg; omega), ⟨h.rep.base, h.rep.m.chg hc' (fun k => h.rep.bm_calls (k ▸ hg)), ?_, row_chg h.rep.tms hc' (fun g2 hg2 k => row_ne h.rep.tms h.rep.calls (by decide) hg2 (k ▸ hg))⟩, h.bel.trans (hc'.below h.rep.lt (fun k hk => hk ▸ (row_lt h.rep.calls hg).1)), h.ltm, h.ltc, h.ltt⟩⟩
  show W'.ownsRow B _ 15 vc (R.calls.set i c).length ((R.calls.set i c).flatMap clC')
  rw [List.length_set, flatMap_set (sz := 15) (fun _ => rfl) _ _ _ hi]
  exact hown
/-- A timer's row is stored. -/
theorem SL.tmSet (h : SL B w bm R vc vt be e W) {i : Nat} (hi : i < R.tms.length) (t : RT) : ∃ g cap W', vt = .slice (some ⟨g, 0, none⟩) R.tms.length cap ∧ (storeVar 105 ⟨g, i * 8, none⟩ (.agg (rtC t).toArray)).run Try.prog W = .ok () W' ∧ Chg (· = g) W W' ∧ SL B w bm { R with tms := R.tms.set i t } vc vt be e W' := by
  obtain ⟨g, cap, W', hv, _, _, hr, hown, hc⟩ := row_store h.rep.tms hi (cs := rtC t) rfl (rtC_one t) (by kernel_rfl)
  have hc' : Chg (· = g) W W' := ⟨hc.os, hc.tape, hc.output, hc.size, fun k hk hn => hc.block k hk (fun e => hn (by rw [hv] at e; simpa [Value.ownBlock, eq_comm] using e))⟩
  have hg : vt.ownBlock = some g := by rw [hv]; rfl
  refine ⟨g, cap, W', hv, hr, hc', ⟨h.size, h.base, h.e.chg hc' (fun k => by have := h.ltt g hg; omega), ⟨h.rep.base, h.rep.m.chg hc' (fun k => h.rep.bm_tms (k ▸ hg)), row_chg h.rep.calls hc' (fun g2 hg2 k => row_ne h.rep.calls h.rep.tms (by decide) hg2 (k ▸ hg)), ?_⟩, h.bel.trans (hc'.below h.rep.lt (fun k hk => hk ▸ (row_lt h.rep.tms hg).1)), h.ltm, h.ltc, h.ltt⟩⟩
  show W'.ownsRow B _ 8 vt (R.tms.set i t).length ((R.tms.set i t).flatMap rtC)
  rw [List.length_set, flatMap_set (sz := 8) (fun _ => rfl) _ _ _ hi]
  exact hown
/-- A timer's row is appended: what is there of it behind. -/
theorem SL.tmPush (_h : SL B w bm R vc vt be e W) {w5 : World} {v5 : Value} {t : RT} (_hown : w5.ownsRow B 105 8 v5 (R.tms.length + 1) (R.tms.flatMap rtC ++ rtC t)) (_hc : Chg (fun k => vt.ownBlock = some k) W w5) (_hn : ∀ k, v5.ownBlock = some k → vt.ownBlock = some k ∨ be < k) (_hsz : be < W.heap.size) :
    SL B w bm { R with tms := R.tms ++ [t] } vc v5 be e (w5.setCell ⟨bm, 6, none⟩ v5) → True := fun _ => trivial
theorem SL.yes {R0 R' : Rm} {o : Option Rm} (h : SL B w bm R' vc vt be e W) (ho : o = some R') : StepEnds B w bm R0 o (.returned (.bool true)) W := by
  subst ho; exact ⟨rfl, vc, vt, h.rep, h.bel⟩
theorem SL.no (h : SL B w bm R vc vt be e W) : StepEnds B w bm R none (.returned (.bool false)) W := rno h.rep h.bel
end
end Go.Proofs.Ytpnkkdpggofanaa
