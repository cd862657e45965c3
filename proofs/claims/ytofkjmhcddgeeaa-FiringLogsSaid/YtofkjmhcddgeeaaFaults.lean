/- firing.Faults, vergeref12.Faults. -/
import Derived.Test.YtofkjmhcddgeeaaFir
import Derived.Test.YtofkjmhcddgeeaaMap
namespace Go.Proofs.Ytofkjmhcddgeeaa
open Go.RowKit

abbrev keyV (k : Int × Int) : Value := .agg #[.int .u64 k.1, .int .u64 k.2]
theorem key_u : Try.prog.underlying 55 = some (.struct (Try.prog.fieldsOf 55)) := by kernel_rfl
theorem key_s : Try.prog.stoodInHeld 55 = false := by kernel_rfl
theorem key_equal (w : World) (a b : Int × Int) : (Op.equal 55 (keyV a) (keyV b)).run Try.prog w = .ok (decide (a = b)) w := by
  obtain ⟨a1, a2⟩ := a
  obtain ⟨b1, b2⟩ := b
  unfold Op.equal
  show (Op.equalIn 10000 _ _ _).run _ _ = _
  rw [run_equalIn_agg _ _ _ _ _ key_u key_s]
  by_cases h1 : a1 = b1 <;> by_cases h2 : a2 = b2 <;> simp [go_sem, h1, h2]
theorem key_findAsking (k : Int × Int) (w : World) : ∀ (es : List MapEntry) (ks : List (Int × Int)), es.map (·.key) = ks.map keyV → ∀ i, (Instr.findAsking 55 (keyV k) es i).run Try.prog w = .ok (findIx k ks es i) w
  | [], ks, h, i => by
    have : ks = [] := by simpa using h.symm
    subst this; rfl
  | e :: es, ks, h, i => by
    cases ks with
    | nil => simp at h
    | cons k' ks =>
      simp only [List.map_cons, List.cons.injEq] at h
      unfold Instr.findAsking
      simp only [Sem.run_bind, h.1, key_equal, Result.andThen_ok, findIx]
      by_cases hk : k = k'
      · simp [hk]
      · simp only [hk, decide_false, if_false, Bool.false_eq_true]
        exact key_findAsking k w es ks h.2 (i + 1)
theorem key_law : KeyLaw Try.prog 55 keyV where
  check em k w := by
    obtain ⟨a, b⟩ := k
    have h1 : ∀ (n : Nat) (x : Int) (w : World), (Instr.checkKey em (n + 1) 28 (.int .u64 x)).run Try.prog w = .ok () w := by
      intro n x w
      unfold Instr.checkKey
      simp [run_underlying Try.underlying28]
    unfold Instr.checkKey
    simp only [Sem.run_bind, run_underlying Try.underlying55, Result.andThen_ok]
    simp [go_sem, h1]
  find k es ks h w := by
    unfold Instr.findKey
    simp only [Sem.run_bind, run_underlying key_u, Result.andThen_ok]
    cases es with
    | nil =>
      have : ks = [] := by simpa using h.symm
      subst this; rfl
    | cons e es =>
      cases ks with
      | nil => simp at h
      | cons k' ks =>
        have h' := h
        simp only [List.map_cons, List.cons.injEq] at h
        simp only [Instr.findNow, Instr.sameNow]
        exact key_findAsking k w _ _ h' 0
  bits k := by simp [Instr.sameBits]

/-- Is the i-th one early, or twice? -/
def badAt (l : List Fir) (i : Nat) : Bool := match l[i]? with
  | some f => decide (f.tk < f.dl) || (l.take i).any fun g => decide ((g.id, g.gen) = (f.id, f.gen))
  | none => false
/-- The places, below k, of those that are early, or twice. -/
def faultsTo (l : List Fir) (k : Nat) : List Int := ((List.range k).filter (badAt l)).map fun i : Nat => (i : Int)
theorem faultsTo_succ (l : List Fir) (k : Nat) : faultsTo l (k + 1) = faultsTo l k ++ if badAt l k then [(k : Int)] else [] := by
  unfold faultsTo
  rw [List.range_succ, List.filter_append, List.map_append]
  by_cases h : badAt l k <;> simp [h]
theorem faultsTo_len (l : List Fir) (k : Nat) : (faultsTo l k).length ≤ k := by
  unfold faultsTo
  rw [List.length_map]
  exact Nat.le_trans (List.length_filter_le _ _) (by simp)
/-- What the map holds when k firings were met. -/
def Met (l : List Fir) (k : Nat) (m : List ((Int × Int) × Bool)) : Prop :=
  ∀ q, aget m q = if (l.take k).any (fun g => decide ((g.id, g.gen) = q)) then some true else none
theorem Met.step {l : List Fir} {k : Nat} {m : List ((Int × Int) × Bool)} (h : Met l k m) (hk : k < l.length) : Met l (k + 1) (aput m (l[k].id, l[k].gen) true) := by
  intro q
  rw [aget_put, h q, take_snoc_list l k hk, List.any_append]
  by_cases hq : q = (l[k].id, l[k].gen)
  · simp [hq]
  · have : decide ((l[k].id, l[k].gen) = q) = false := decide_eq_false (fun e => hq e.symm)
    simp only [hq, if_false, List.any_cons, this, List.any_nil, Bool.or_false]

theorem int_info : (Try.prog.info? 3).map (fun i => (i.zero, i.size, i.bytes)) = some (some (.int .i64 0), 1, 8) := by kernel_rfl
theorem bool_zero (w : World) : (zeroValue 4).run Try.prog w = .ok (.bool false) w := by kernel_rfl

theorem faults_map {w0 : Nat} {wr w1 : World} {o1 o2 o3 : Obj} {m : List ((Int × Int) × Bool)} {v : Value} {n : Nat} {xs : List Value} {e : TypeId} {size : Nat} (hm : ∀ o1 o2, MapIs keyV Value.bool ((wr.alloc o1).alloc o2) w0 m) (hown : wr.ownsRow (w0 + 1) e size v n xs)
    (hgrow : (((wr.alloc o1).alloc o2).alloc o3).grownBy w1 v.ownBlock) : MapIs keyV Value.bool w1 w0 m := by
  have h := (hm o1 o2)
  refine h.kept ((hgrow.block w0 (by have := h.lt; simp at this ⊢; omega) ?_).trans (Below.heap_alloc _ _ _ h.lt))
  intro e
  have := (hown.lt w0 e.symm).1
  omega
theorem faults_below {w wr w1 : World} {B : Nat} {o1 o2 o3 : Obj} {v : Value} {n : Nat} {xs : List Value} {e : TypeId} {size : Nat} (hb : Below B w wr) (hs : B + 1 ≤ wr.heap.size) (hown : wr.ownsRow (B + 1) e size v n xs)
    (hgrow : (((wr.alloc o1).alloc o2).alloc o3).grownBy w1 v.ownBlock) : Below B w w1 :=
  (((hb.alloc (by omega) o1).alloc (by simp; omega) o2).alloc (by simp; omega) o3).grown hgrow (by simp; omega) (fun k hk => by have := (hown.lt k hk).1; omega)
theorem faults_size {wr w1 : World} {o1 o2 o3 : Obj} {r : Option Nat} (hgrow : (((wr.alloc o1).alloc o2).alloc o3).grownBy w1 r) : wr.heap.size + 3 ≤ w1.heap.size := by
  have := hgrow.size; simp at this; omega
theorem owns_not {w : World} {B : Nat} {e : TypeId} {size : Nat} {v : Value} {n : Nat} {xs : List Value} (h : w.ownsRow (B + 1) e size v n xs) : v.ownBlock ≠ some B := by
  intro e; have := (h.lt B e).1; omega

set_option maxHeartbeats 1000000 in
theorem faults_any (l : List Fir) (v : Value) (w : World) (h1 : Reads w v l.length (l.flatMap firC)) (hn : l.length ≤ 1000000) :
    Calls Try.prog 17 #[v] w fun e w' => ∃ v', e = .returned v' ∧ w'.ownsRow w.heap.size 3 1 v' (faultsTo l l.length).length ((faultsTo l l.length).map (Value.int .i64)) ∧ Below w.heap.size w w' := by
  have hrd := hid h1
  obtain ⟨a1, c1, rfl, g1⟩ := h1.fir
  have H1 := hid g1
  clear g1 h1
  obtain ⟨i0, hi, hz0, hz1, hz2⟩ := info_parts int_info
  have hmm := @run_makeMap Try.prog
  go_enter Try.func17, Try.ntmps17
  go_wp2
  go_loopw [3, 11] (fun o i wr => ∃ k : Nat, k ≤ l.length ∧ i = .int .i64 k ∧ wr.ownsRow (w.heap.size + 1) 3 1 o (faultsTo l k).length ((faultsTo l k).map (Value.int .i64)) ∧ Below w.heap.size w wr ∧ w.heap.size + 1 ≤ wr.heap.size ∧
      ∃ m, MapIs keyV Value.bool wr w.heap.size m ∧ Met l k m) (fun _ i _ => l.length - (intOf i).toNat)
  case atStart => exact ⟨0, by omega, rfl, by simpa [faultsTo] using World.ownsRow_nil _ _ _ _, (Below.refl _ _).alloc (Nat.le_refl _) _, by simp, [], MapIs.made w, fun q => by simp [aget]⟩
  case round =>
    obtain ⟨k, hk, rfl, hown, hb, hsz, m, hm, hmet⟩ := hrel
    have HB := hid hb
    have hle := faultsTo_len l k
    clear hb
    by_cases hlt : k < l.length
    · obtain ⟨b1, o1, hao, _⟩ := H1.out k _ (List.getElem?_eq_getElem hlt)
      obtain rfl := hao
      obtain ⟨ao', c', hv', hx'⟩ := (hrd.out.below HB.out (Nat.le_refl _)).fir
      simp only [Value.slice.injEq] at hv'
      obtain ⟨rfl, _, rfl⟩ := hv'
      obtain ⟨b', o', hao, p0, p1, p2, p3⟩ := hx' k _ (List.getElem?_eq_getElem hlt)
      clear hx'
      simp only [Option.some.injEq, Addr.mk.injEq] at hao
      obtain ⟨rfl, rfl, _⟩ := hao
      have hmA : ∀ o1 o2, MapIs keyV Value.bool ((wr.alloc o1).alloc o2) w.heap.size m := fun o1 o2 => hm.kept (by rw [Below.heap_alloc _ _ _ (by simp; omega), Below.heap_alloc _ _ _ (by omega)])
      have hlook : ∀ o1 o2, (Instr.lookup 53 (.map (some w.heap.size)) (.agg #[.int .u64 l[k].id, .int .u64 l[k].gen]) false).run Try.prog ((wr.alloc o1).alloc o2) = .ok (.bool ((l.take k).any (fun g => decide ((g.id, g.gen) = (l[k].id, l[k].gen))))) ((wr.alloc o1).alloc o2) := by
        intro o1 o2
        have := (hmA o1 o2).run_lookup key_law Try.underlying53 bool_zero (l[k].id, l[k].gen) false
        rw [hmet (l[k].id, l[k].gen)] at this
        rw [show (Value.agg #[.int .u64 l[k].id, .int .u64 l[k].gen]) = keyV (l[k].id, l[k].gen) from rfl, this]
        cases (l.take k).any (fun g => decide ((g.id, g.gen) = (l[k].id, l[k].gen))) <;> rfl
      have HM := hid hmA
      have HMet := hid (hmet.step hlt)
      have hstep := hid (faultsTo_succ l k)
      have hbad := hid (show badAt l k = (decide (l[k].tk < l[k].dl) || (l.take k).any (fun g => decide ((g.id, g.gen) = (l[k].id, l[k].gen)))) by simp [badAt, hlt])
      clear hmA hmet hm
      generalize (l.take k).any (fun g => decide ((g.id, g.gen) = (l[k].id, l[k].gen))) = met at hlook hbad
      have hcn := cells_new ((wr.alloc (.cells #[.int .u64 l[k].id, .int .u64 l[k].gen, .int .u64 l[k].dl, .int .u64 l[k].tk] 30)).alloc (.cells #[.int .u64 l[k].id, .int .u64 l[k].gen] 55)) [.int .i64 k] 3
      simp only [World.size_alloc] at hcn
      have HC := hid hcn
      clear hcn
      by_cases he : l[k].tk < l[k].dl
      · have hed : decide (l[k].tk < l[k].dl) = true := by simp [he]
        go_wp2_with (first | (at_builtin; refine wpList_append_own _ rfl _ _ 36 rfl (w.heap.size + 1) 3 i0 _ 1 8 Try.underlying36 hi hz0 hz1 hz2 rfl (by decide) u3 _ _ rfl (((hown.alloc _).alloc _).alloc _) ⟨wr.heap.size + 1 + 1, 0, none⟩ 1 1 [.int .i64 k] rfl rfl (HC.out) (by simp [Value.oneCell']) (by unfold maxLen; omega) (by omega) (by simp; omega) ?_; intro v' w1 hown' hgrow _; have hm1 := hid (faults_map HM.out hown hgrow); have hB1 := hid (faults_below HB.out hsz hown hgrow); have hs1 := faults_size hgrow; have hk0 := grow_new_cell (p := ⟨wr.heap.size + 1, 0, none⟩) (u := .int .u64 l[k].id) hown hgrow (by simp) (by go_cell); have hk1 := grow_new_cell (p := ⟨wr.heap.size + 1, 1, none⟩) (u := .int .u64 l[k].gen) hown hgrow (by simp) (by go_cell); obtain ⟨bo, cap, rfl⟩ := owns_shape hown') | (at_mapUpdate; refine wpList_update _ rfl 53 _ _ _ rfl key_law Try.underlying53 w.heap.size m hm1.out rfl (l[k].id, l[k].gen) rfl true rfl ?_; intro w2 hm2 hg2 hs2))
        go_roundw
        case rel => exact ⟨k + 1, by omega, by go_num, by rw [hstep.out, if_pos (by rw [hbad.out, hed]; rfl), List.length_append, List.map_append]; exact hown'.kept hg2 (.inr (owns_not hown')), hB1.out.grown hg2 (by omega) (fun j e => by cases e; exact Nat.le_refl _), by omega, _, hm2, HMet.out⟩
        case measure => simp [intOf]; omega
      · have hed : decide (l[k].tk < l[k].dl) = false := by simp [he]
        cases met
        · go_wp2_with ((at_mapUpdate; refine wpList_update _ rfl 53 _ _ _ rfl key_law Try.underlying53 w.heap.size m (HM.out _ _) rfl (l[k].id, l[k].gen) rfl true rfl ?_; intro w2 hm2 hg2 hs2))
          go_roundw
          case rel => exact ⟨k + 1, by omega, by go_num, by rw [hstep.out, if_neg (by rw [hbad.out, hed]; simp), List.append_nil]; exact ((hown.alloc _).alloc _).kept hg2 (.inr (owns_not hown)), (((HB.out.alloc (by omega) _).alloc (by simp; omega) _).grown hg2 (by simp; omega) (fun j e => by cases e; exact Nat.le_refl _)), by simp at hs2; omega, _, hm2, HMet.out⟩
          case measure => simp [intOf]; omega
        · go_wp2_with (first | (at_builtin; refine wpList_append_own _ rfl _ _ 36 rfl (w.heap.size + 1) 3 i0 _ 1 8 Try.underlying36 hi hz0 hz1 hz2 rfl (by decide) u3 _ _ rfl (((hown.alloc _).alloc _).alloc _) ⟨wr.heap.size + 1 + 1, 0, none⟩ 1 1 [.int .i64 k] rfl rfl (HC.out) (by simp [Value.oneCell']) (by unfold maxLen; omega) (by omega) (by simp; omega) ?_; intro v' w1 hown' hgrow _; have hm1 := hid (faults_map HM.out hown hgrow); have hB1 := hid (faults_below HB.out hsz hown hgrow); have hs1 := faults_size hgrow; have hk0 := grow_new_cell (p := ⟨wr.heap.size + 1, 0, none⟩) (u := .int .u64 l[k].id) hown hgrow (by simp) (by go_cell); have hk1 := grow_new_cell (p := ⟨wr.heap.size + 1, 1, none⟩) (u := .int .u64 l[k].gen) hown hgrow (by simp) (by go_cell); obtain ⟨bo, cap, rfl⟩ := owns_shape hown') | (at_mapUpdate; refine wpList_update _ rfl 53 _ _ _ rfl key_law Try.underlying53 w.heap.size m hm1.out rfl (l[k].id, l[k].gen) rfl true rfl ?_; intro w2 hm2 hg2 hs2))
          go_roundw
          case rel => exact ⟨k + 1, by omega, by go_num, by rw [hstep.out, if_pos (by rw [hbad.out, hed]; rfl), List.length_append, List.map_append]; exact hown'.kept hg2 (.inr (owns_not hown')), hB1.out.grown hg2 (by omega) (fun j e => by cases e; exact Nat.le_refl _), by omega, _, hm2, HMet.out⟩
          case measure => simp [intOf]; omega
    · go_wp2
      go_ret
      obtain rfl : k = l.length := by omega
      exact ⟨_, rfl, owns_base hown (by omega), HB.out⟩
end Go.Proofs.Ytofkjmhcddgeeaa
