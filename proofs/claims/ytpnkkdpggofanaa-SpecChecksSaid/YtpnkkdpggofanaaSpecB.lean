/- spec: look-ups in the machine's maps; which timers may be stopped. -/
import Derived.Test.YtpnkkdpggofanaaSpecA
namespace Go.Proofs.Ytpnkkdpggofanaa
open Go.RowKit

theorem timer_zero (w : World) : (zeroValue 98).run Try.prog w = .ok (.pointer none) w := by kernel_rfl
theorem bool_zero (w : World) : (zeroValue 4).run Try.prog w = .ok (.bool false) w := by kernel_rfl
def liveP (G : Gm) (k : Int) : Value := match aget G.lv k with | some p => ptrV p.1 | none => .pointer none
theorem Rep.look {B : Nat} {w : World} {bm : Nat} {G : Gm} (h : Rep B w bm G) (k : Int) : (Instr.lookup 97 (.map (some G.bl)) (.int .u64 k) false).run Try.prog w = .ok (liveP G k) w := by
  have := h.live.run_lookup (keyLaw_int Try.underlying29) Try.underlying97 timer_zero k false
  rw [this]
  unfold liveP
  cases aget G.lv k <;> rfl
theorem Rep.lookA {B : Nat} {w : World} {bm : Nat} {G : Gm} (h : Rep B w bm G) (k : Int) : (Instr.lookup 100 (.map (some G.ba)) (.int .u64 k) false).run Try.prog w = .ok (.bool (hasK G.added k)) w := by
  have := h.added.run_lookup (keyLaw_int Try.underlying29) Try.underlying100 bool_zero k false
  rw [this]
  unfold hasK
  cases aget G.added k <;> rfl
theorem Rep.lookO {B : Nat} {w : World} {bm : Nat} {G : Gm} (h : Rep B w bm G) (k : Int) : (Instr.lookup 82 (.map (some G.bo)) (.int .i64 k) false).run Try.prog w = .ok (.bool (hasK G.opn k)) w := by
  have := h.opn.run_lookup (keyLaw_int Try.underlying3) Try.underlying82 bool_zero k false
  rw [this]
  unfold hasK
  cases aget G.opn k <;> rfl

theorem stops_any (B : Nat) (w : World) {bm : Nat} {G : Gm} (h : Rep B w bm G) (k : Int) :
    Calls Try.prog 106 #[ptrV bm, .int .u64 k] w fun e w' => e = .returned (.bool (stopsM G.ma k)) ∧ ∃ n, w' = w.drewN n := by
  have hm : stopsM G.ma k = match aget G.lv k with | none => false | some p => decide (p.2.per > 0) && !p.2.last := by
    unfold stopsM Gm.ma
    rw [aget_map (fun p : Nat × Tm => p.2)]
    cases aget G.lv k <;> rfl
  have c8 := h.mach.cell 8 rfl
  have hl : ∀ n, (Instr.lookup 97 (.map (some G.bl)) (.int .u64 k) false).run Try.prog (w.drewN n) = .ok (liveP G k) (w.drewN n) := fun n => (h.drewN n).look k
  have hl0 := h.look k
  rw [hm]
  cases hg : aget G.lv k with
  | none =>
    have hlp : liveP G k = .pointer none := by simp [liveP, hg]
    rw [hlp] at hl hl0
    clear hm hlp h hg
    go_enter Try.func106, Try.ntmps106
    go_wp2
    go_ret
    exact ⟨rfl, 0, rfl⟩
  | some p =>
    obtain ⟨b, t⟩ := p
    have hlp : liveP G k = ptrV b := by simp [liveP, hg]
    have ht := (h.tm _ ((aget_mem h.live.nodup).1 hg)).1
    have t2 := ht.cell 2 rfl
    have t3 := ht.cell 3 rfl
    rw [hlp] at hl hl0
    clear hm hlp h hg ht
    by_cases hp : t.per > 0
    · have hd : decide (0 < t.per) = true := by simp; omega
      go_enter Try.func106, Try.ntmps106
      go_wp2
      go_ret
      exact ⟨by simp, 0, rfl⟩
    · have hd : decide (0 < t.per) = false := by simp; omega
      go_enter Try.func106, Try.ntmps106
      go_wp2
      go_ret
      exact ⟨by simp, 0, rfl⟩


/-- What a rule's walk leans on behind the event's box. -/
theorem Rep.boxed {B : Nat} {w : World} {bm : Nat} {G : Gm} (h : Rep B w bm G) (e : Ev) {W : World} (hW : w.alloc (.cells #[.int .i64 e.kind, .int .i64 e.thr, .int .i64 e.call, .int .i64 e.what, .int .u64 e.id, .int .u64 e.gen, .int .u64 e.dl, .int .u64 e.per, .int .u64 e.tk, .int .i64 e.err] 31) = W) :
    Rep B W bm G ∧ Blk W w.heap.size 31 (evC e) ∧ Below w.heap.size w W ∧ W.heap.size = w.heap.size + 1 := by
  subst hW
  exact ⟨h.alloc _, Blk.new w _ (evC e), (Below.refl _ _).alloc (Nat.le_refl _) _, by simp⟩

/-- What a rule's answer says: the plain machine's next state, if there is one, lies in memory now. -/
def Does (B bm : Nat) (o : Option Ma) (r : Bool) (w' : World) : Prop := match o with
  | none => r = false
  | some M => r = true ∧ ∃ G', Rep B w' bm G' ∧ G'.ma = M
theorem Does.no {B bm : Nat} {o : Option Ma} {w' : World} (h : o = none) : Does B bm o false w' := by subst h; rfl
theorem Does.yes {B bm : Nat} {o : Option Ma} {w' : World} {G' : Gm} (h : o = some G'.ma) (hR : Rep B w' bm G') : Does B bm o true w' := by subst h; exact ⟨rfl, G', hR, rfl⟩
/-- How a rule ends. -/
def Ends (B bm : Nat) (w : World) (o : Option Ma) (x : Ending) (w' : World) : Prop := Below B w w' ∧ ∃ r, x = .returned (.bool r) ∧ Does B bm o r w'
theorem Ends.no {B bm : Nat} {w w' : World} {o : Option Ma} {x : Ending} (hx : x = .returned (.bool false)) (hb : Below B w w') (h : o = none) : Ends B bm w o x w' := ⟨hb, false, hx, Does.no h⟩
theorem Ends.yes {B bm : Nat} {w w' : World} {o : Option Ma} {x : Ending} {G' : Gm} (hx : x = .returned (.bool true)) (hb : Below B w w') (h : o = some G'.ma) (hR : Rep B w' bm G') : Ends B bm w o x w' := ⟨hb, true, hx, Does.yes h hR⟩
theorem below_chg {B : Nat} {S : Nat → Prop} {w W W' : World} (h : Below B w W) (hB : B ≤ w.heap.size) (hc : Chg S W W') (hS : ∀ k, S k → B ≤ k) : Below B w W' :=
  h.trans (hc.below (Nat.le_trans hB h.size) hS)
end Go.Proofs.Ytpnkkdpggofanaa
