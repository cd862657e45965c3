/- spec.rules by its walk: which function a kind has. -/
import Derived.Test.YtpnkkdpggofanaaSpecC
namespace Go.Proofs.Ytpnkkdpggofanaa
open Go.RowKit

def encF (f : Nat) : Value := .func (.func f) #[] #[]
def doneM : List (Int × Nat) := [(4, 76), (5, 77), (14, 78), (2, 79)]
def openM : List (Int × Nat) := [(3, 80), (11, 81), (6, 82), (7, 83), (8, 84), (9, 85), (10, 86), (12, 87), (13, 88)]
theorem next_zero (w : World) : (zeroValue 122).run Try.prog w = .ok .nilFunc w := by kernel_rfl

section
variable {P : Program} (w : World) {ops : Array Oper} {rest : List Oper} {o : Oper} {a : Act} {Q : Exit → Act → World → Prop}
theorem wpList_insert {κ ν : Type} [DecidableEq κ] {enc : κ → Value} {encV : ν → Value} {K : TypeId} (hgd : o.guard = none) (T : TypeId) (mo ko vo : Operand) (ho : o.op = .insert T mo ko vo)
    (law : KeyLaw P K enc) {E : TypeId} (hT : P.underlying T = some (.map K E)) (b : Nat) (m : List (κ × ν)) (hm : MapIs enc encV w b m) (hmo : a.eval mo = .map (some b)) (k : κ) (hk : a.eval ko = enc k) (v : ν) (hv : a.eval vo = encV v)
    (h : ∀ w', MapIs enc encV w' b (aput m k v) → w.grownBy w' (some b) → w'.heap.size = w.heap.size → wpList P ops Q rest (a.put o.dst undef) w') : wpList P ops Q (o :: rest) a w := by
  refine wpList_plain hgd fun K' hK' => ?_
  obtain ⟨w', hr, h1, h2, h3⟩ := hm.run_update law hT k v
  unfold Oper.wp
  simp [execOp, ho, hmo, hk, hv, hr, Result.andThen]
  exact hK' _ _ (h w' h1 h2 h3)
theorem wpList_lookup {κ ν : Type} [DecidableEq κ] {enc : κ → Value} {encV : ν → Value} {K : TypeId} (hgd : o.guard = none) (T : TypeId) (mo ko : Operand) (c : Bool) (ho : o.op = .lookup T mo ko c)
    (law : KeyLaw P K enc) {E : TypeId} (hT : P.underlying T = some (.map K E)) {z : Value} (hz : ∀ w, (zeroValue E).run P w = .ok z w) (b : Nat) (m : List (κ × ν)) (hm : MapIs enc encV w b m) (hmo : a.eval mo = .map (some b)) (k : κ) (hk : a.eval ko = enc k)
    (r : Value) (hr' : (if c then .tuple #[((aget m k).map encV).getD z, .bool (aget m k).isSome] else ((aget m k).map encV).getD z) = r) (h : wpList P ops Q rest (a.put o.dst r) w) : wpList P ops Q (o :: rest) a w := by
  refine wpList_plain hgd fun K' hK' => ?_
  have hr := hm.run_lookup law hT hz k c
  rw [hr'] at hr
  unfold Oper.wp
  simp [execOp, ho, hmo, hk, hr, Result.andThen]
  exact hK' _ _ h
end

/-- The function of a kind. -/
def ruleF (k : Int) : Value := match aget doneM k with | some f => encF f | none => match aget openM k with | some f => encF f | none => .nilFunc

set_option maxRecDepth 20000 in
set_option maxHeartbeats 2000000 in
theorem rules_any (k : Int) (w : World) :
    Calls Try.prog 64 #[.int .i64 k] w fun e w' => e = .returned (.tuple #[ruleF k, .bool (aget doneM k).isSome]) ∧ Below w.heap.size w w' := by
  have HF := hid (show ruleF k = _ from rfl)
  have hmm := @run_makeMap Try.prog
  cases h1 : aget doneM k with
  | some f =>
    have HV := hid (show ruleF k = encF f by unfold ruleF; rw [h1])
    have H1 := hid h1
    clear HF h1
    go_enter Try.func64, Try.ntmps64
    go_wp2_with (first
      | (refine wpList_insert _ rfl 138 _ _ _ rfl (keyLaw_int Try.underlying3) Try.underlying138 w.heap.size ([] : List (Int × Nat)) (encV := encF) (MapIs.made w) rfl 4 rfl 76 rfl ?_; intro w1 hm1 hg1 hs1; have HM := hid hm1; have HC := hid ((Chg.alloc (fun _ => False) w _).then (S' := (· = w.heap.size)) (Chg.of_grown hg1 (fun k hk => (Option.some.inj hk).symm)) (fun j hj h => by omega)); have HS := hid (show w1.heap.size = w.heap.size + 1 by rw [hs1]; simp); clear hm1 hg1 hs1)
      | (refine wpList_insert _ rfl 138 _ _ _ rfl (keyLaw_int Try.underlying3) Try.underlying138 w.heap.size _ (encV := encF) HM.out rfl _ rfl _ rfl ?_; intro w2 hm2 hg2 hs2; replace HM := hid hm2; replace HC := hid (HC.out.then (S' := (· = w.heap.size)) (Chg.of_grown hg2 (fun k hk => (Option.some.inj hk).symm)) (fun j hj h => by omega)); replace HS := hid (hs2.trans HS.out); clear hm2 hg2 hs2)
      | (refine wpList_lookup _ rfl 138 _ _ true rfl (keyLaw_int Try.underlying3) Try.underlying138 next_zero w.heap.size doneM HM.out rfl k rfl (.tuple #[encF f, .bool true]) (by rw [H1.out]; rfl) ?_))
    go_ret2
    exact ⟨by rw [HV.out]; rfl, HC.out.below (Nat.le_refl _) (fun _ h => h.elim)⟩
  | none =>
    have H1 := hid h1
    have HV := hid (show ruleF k = ((aget openM k).map encF).getD .nilFunc by unfold ruleF; rw [h1]; cases aget openM k <;> rfl)
    clear HF h1
    go_enter Try.func64, Try.ntmps64
    go_wp2_with (first
      | (refine wpList_insert _ rfl 138 _ _ _ rfl (keyLaw_int Try.underlying3) Try.underlying138 w.heap.size ([] : List (Int × Nat)) (encV := encF) (MapIs.made w) rfl 4 rfl 76 rfl ?_; intro w1 hm1 hg1 hs1; have HM := hid hm1; have HC := hid ((Chg.alloc (fun _ => False) w _).then (S' := (· = w.heap.size)) (Chg.of_grown hg1 (fun k hk => (Option.some.inj hk).symm)) (fun j hj h => by omega)); have HS := hid (show w1.heap.size = w.heap.size + 1 by rw [hs1]; simp); clear hm1 hg1 hs1)
      | (refine wpList_insert _ rfl 138 _ _ _ rfl (keyLaw_int Try.underlying3) Try.underlying138 w.heap.size _ (encV := encF) HM.out rfl _ rfl _ rfl ?_; intro w2 hm2 hg2 hs2; replace HM := hid hm2; replace HC := hid (HC.out.then (S' := (· = w.heap.size)) (Chg.of_grown hg2 (fun k hk => (Option.some.inj hk).symm)) (fun j hj h => by omega)); replace HS := hid (hs2.trans HS.out); clear hm2 hg2 hs2)
      | (refine wpList_lookup _ rfl 138 _ _ true rfl (keyLaw_int Try.underlying3) Try.underlying138 next_zero w.heap.size doneM HM.out rfl k rfl (.tuple #[.nilFunc, .bool false]) (by rw [H1.out]; rfl) ?_; clear hmm))
    have hmm := @run_makeMap Try.prog
    go_simp
    rename_i hK
    refine hK _ _ ?_
    clear hK hmm
    have HM2 : Hid (MapIs (Value.int .i64) encF (w2.alloc (.map #[] 0)) w2.heap.size ([] : List (Int × Nat))) := hid (MapIs.made w2)
    replace HC := hid (HC.out.then (Chg.alloc (fun _ => False) w2 (.map #[] 0)) (fun _ _ h => h))
    have HS2 := hid (show w.heap.size ≤ w2.heap.size by rw [HS.out]; omega)
    clear HS HM
    generalize w2.alloc (.map #[] 0) = w5 at *
    generalize w2.heap.size = b2 at *
    go_wp2_with (first
      | (refine wpList_insert _ rfl 138 _ _ _ rfl (keyLaw_int Try.underlying3) Try.underlying138 b2 _ (encV := encF) HM2.out rfl _ rfl _ rfl ?_; intro w3 hm2 hg2 hs2; replace HM2 := hid hm2; replace HC := hid (HC.out.then (S' := (· = b2)) (Chg.of_grown hg2 (fun k hk => (Option.some.inj hk).symm)) (fun j hj h => by have := HS2.out; omega)); clear hm2 hg2 hs2)
      | (refine wpList_lookup _ rfl 138 _ _ false rfl (keyLaw_int Try.underlying3) Try.underlying138 next_zero b2 openM HM2.out rfl k rfl (((aget openM k).map encF).getD .nilFunc) rfl ?_))
    go_ret2
    exact ⟨by rw [HV.out]; rfl, HC.out.below (Nat.le_refl _) (fun _ h => h.elim)⟩
end Go.Proofs.Ytpnkkdpggofanaa
