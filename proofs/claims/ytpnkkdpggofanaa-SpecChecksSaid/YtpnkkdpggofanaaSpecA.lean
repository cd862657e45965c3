/- slices.Index, slices.Contains over ints; the small functions of spec. -/
import Derived.Test.YtpnkkdpggofanaaRep
import Derived.Test.YtpnkkdpggofanaaAdd
import Derived.Test.YtpnkkdpggofanaaFir
import Derived.StillTailTactics
import Derived.Deep.RegionHeld3
namespace Go.Proofs.Ytpnkkdpggofanaa
open Go.RowKit

theorem quiet_of_eq {P : Program} {f : FuncId} {args : Array Value} {w : World} {n : Nat} {v : Value} (h : Calls P f args (w.drewN n) fun e w' => e = .returned v ∧ w.drewN n = w') :
    Calls P f args (w.drewN n) fun e w'' => e = .returned v ∧ ∃ m, w'' = w.drewN m := h.mono fun _ _ ⟨he, hm⟩ => ⟨he, n, hm.symm⟩
theorem Chg.drew {S : Nat → Prop} {a w : World} (h : Chg S a w) : Chg S a w.drew := ⟨h.os, h.tape, h.output, h.size, h.block⟩
theorem Chg.undrewN {S : Nat → Prop} {a w : World} (h : Chg S a w) (n : Nat) : Chg S a (w.drewN n) := ⟨h.os, h.tape, h.output, h.size, h.block⟩
theorem Chg.sets {S : Nat → Prop} {a w : World} (h : Chg S a w) {b : Nat} (hS : S b) (i : Nat) (v : Value) : Chg S a (w.setCell ⟨b, i, none⟩ v) := h.trans (Chg.set w ⟨b, i, none⟩ v hS)

theorem index_any (l : List Int) (x : Int) (v : Value) (w : World) (h1 : Reads w v l.length (l.map (Value.int .i64))) (hn : l.length ≤ 1000000) :
    Calls Try.prog 118 #[v, .int .i64 x] w fun e w' => ∃ r : Int, e = .returned (.int .i64 r) ∧ (0 ≤ r ↔ x ∈ l) ∧ w = w' := by
  obtain ⟨a1, c1, rfl, g1⟩ := h1.ints
  have H1 := hid g1
  clear g1 h1
  go_enter Try.func118, Try.ntmps118
  go_wp2
  go_loop [8] (fun i => ∃ k : Nat, k ≤ l.length ∧ i = .int .i64 k ∧ x ∉ l.take k) (fun i => l.length - (intOf i).toNat)
  case atStart => exact ⟨0, by omega, rfl, by simp⟩
  case round =>
    obtain ⟨k, hk, rfl, hno⟩ := hrel
    have HN := hid hno
    clear hno
    by_cases hlt : k < l.length
    · obtain ⟨b1, o1, rfl, p0⟩ := H1.out k _ (List.getElem?_eq_getElem hlt)
      by_cases he : x = l[k]
      · have he' : (x == l[k]) = true := by simp [he]
        have HE := hid he
        clear he
        go_wp2
        go_ret
        exact ⟨_, rfl, by simp [HE.out], rfl⟩
      · have he' : (x == l[k]) = false := by simp [he]
        have HE := hid he
        clear he
        go_wp2
        go_round
        case rel => exact ⟨k + 1, by omega, by go_num, fun hm => by rw [take_snoc_list l k hlt, List.mem_append] at hm; rcases hm with hm | hm; exact HN.out hm; exact HE.out (by simpa using hm)⟩
        case measure => simp [intOf]; omega
    · go_wp2
      go_ret
      obtain rfl : k = l.length := by omega
      exact ⟨_, rfl, by have := HN.out; rw [List.take_length] at this; simp [this], rfl⟩

theorem contains_any (l : List Int) (x : Int) (v : Value) (w : World) (h1 : Reads w v l.length (l.map (Value.int .i64))) (hn : l.length ≤ 1000000) :
    Calls Try.prog 115 #[v, .int .i64 x] w fun e w' => e = .returned (.bool (decide (x ∈ l))) ∧ w = w' := by
  have H1 := hid h1
  clear h1
  go_enter Try.func115, Try.ntmps115
  go_wp2_with (go_at_call 118; refine (index_any l x _ _ H1.out hn).mono ?_; rintro e w' ⟨r, rfl, hr, rfl⟩; have HR := hid hr; clear hr)
  go_ret
  exact ⟨by simp only [← HR.out]; rfl, rfl⟩

theorem fits_any (a b : Int) (w : World) (ha : U64 a) (hb : U64 b) :
    Calls Try.prog 103 #[.int .u64 a, .int .u64 b] w fun e w' => e = .returned (.bool (fitsB a b)) ∧ w = w' := by
  have he : (addE a b == 0) = fitsB a b := by unfold addE fitsB; split <;> simp [*]
  have HE := hid he
  clear he
  obtain ⟨ha, ha'⟩ := ha
  obtain ⟨hb, hb'⟩ := hb
  go_enter Try.func103, Try.ntmps103
  go_wp2_with (go_at_call 42; refine (add_any a b _ ha ha' hb hb').mono ?_; rintro e w' ⟨rfl, rfl⟩)
  go_ret
  exact ⟨by rw [← HE.out]; rfl, rfl⟩

theorem what_any (l : List Int) (v : Value) (w : World) {bm b : Nat} {c : Cl} (h1 : Reads w v l.length (l.map (Value.int .i64))) (hn : l.length ≤ 1000000)
    (hc : w.cell? ⟨bm, 9, none⟩ = some (ptrV b)) (hb : w.cell? ⟨b, 3, none⟩ = some (.int .i64 c.bg.what)) :
    Calls Try.prog 102 #[ptrV bm, v] w fun e w' => e = .returned (.bool (decide (c.bg.what ∈ l))) ∧ w = w' := by
  have H1 := hid h1
  clear h1
  go_enter Try.func102, Try.ntmps102
  go_wp2_with (go_at_call 115; refine (contains_any l _ _ _ H1.out hn).mono ?_; rintro e w' ⟨rfl, rfl⟩)
  go_ret
  exact ⟨rfl, rfl⟩

theorem period_any (w : World) {bm b : Nat} {c : Cl} (hw : c.bg.wf) (hc : w.cell? ⟨bm, 9, none⟩ = some (ptrV b)) (hd : w.cell? ⟨b, 6, none⟩ = some (.int .u64 c.bg.dl)) (hp : w.cell? ⟨b, 7, none⟩ = some (.int .u64 c.bg.per)) :
    Calls Try.prog 104 #[ptrV bm] w fun e w' => e = .returned (.bool (perOk c)) ∧ ∃ n, w' = w.drewN n := by
  have hdl := hid hw.dl
  have hper := hid hw.per
  by_cases h : 0 < c.bg.per
  · have hP := hid (show perOk c = fitsB c.bg.dl c.bg.per by simp [perOk, h])
    go_enter Try.func104, Try.ntmps104
    have hd0 : decide (0 < c.bg.per) = true := by simp [h]
    go_wp2
    go_quiet ((go_at_call 103; exact quiet_of_eq (fits_any _ _ _ hdl.out hper.out)))
    go_wp2
    go_ret
    exact ⟨by rw [hP.out]; rfl, _, rfl⟩
  · have hP := hid (show perOk c = false by simp [perOk]; intro h'; omega)
    go_enter Try.func104, Try.ntmps104
    have hd0 : decide (0 < c.bg.per) = false := by simp [h]
    go_wp2
    go_quiet (fail)
    go_wp2
    go_ret
    exact ⟨by rw [hP.out]; rfl, _, rfl⟩

/-- What the machine's cells hold, as the walks read them. -/
theorem Rep.cells {B : Nat} {w : World} {bm : Nat} {G : Gm} (h : Rep B w bm G) : w.cell? ⟨bm, 0, none⟩ = some (.int .i64 G.room) ∧ w.cell? ⟨bm, 1, none⟩ = some (.int .u64 G.now) ∧ w.cell? ⟨bm, 2, none⟩ = some (.bool G.closed) ∧ w.cell? ⟨bm, 3, none⟩ = some (.bool G.ended) ∧
    w.cell? ⟨bm, 4, none⟩ = some (.int .i64 G.closer) ∧ w.cell? ⟨bm, 5, none⟩ = some G.vc ∧ w.cell? ⟨bm, 6, none⟩ = some (.map (some G.bo)) ∧ w.cell? ⟨bm, 7, none⟩ = some (.map (some G.ba)) ∧ w.cell? ⟨bm, 8, none⟩ = some (.map (some G.bl)) ∧ w.cell? ⟨bm, 9, none⟩ = some G.cp :=
  ⟨h.mach.cell 0 rfl, h.mach.cell 1 rfl, h.mach.cell 2 rfl, h.mach.cell 3 rfl, h.mach.cell 4 rfl, h.mach.cell 5 rfl, h.mach.cell 6 rfl, h.mach.cell 7 rfl, h.mach.cell 8 rfl, h.mach.cell 9 rfl⟩

theorem Cl.fin_wf {c : Cl} (h : c.wf) (id gen err : Int) : ({ c with done := true, id := id, gen := gen, err := err } : Cl).wf := ⟨h.bg⟩

theorem set_modify {G : Gm} {i b : Nat} {c : Cl} (hi : G.cs[i]? = some (b, c)) (f : Cl → Cl) : (G.cs.set i (b, f c)).map (·.2) = (G.cs.map (·.2)).modify i f := by
  apply List.ext_getElem?
  intro j
  have hlt := (List.getElem?_eq_some_iff.1 hi).1
  simp only [List.getElem?_map, List.getElem?_set, List.getElem?_modify]
  by_cases hj : i = j
  · subst hj; have := (List.getElem?_eq_some_iff.1 hi).2; simp [hlt, this]
  · simp [hj]

theorem finish_any (B : Nat) (w : World) {bm b i : Nat} {c : Cl} {G : Gm} (h : Rep B w bm G) (hi : G.cs[i]? = some (b, c)) (hc : G.cp = ptrV b) (id gen err : Int) :
    Calls Try.prog 105 #[ptrV bm, .int .u64 id, .int .u64 gen, .int .i64 err] w fun e w' => e = .returned (.bool true) ∧ Rep B w' bm { G with cs := G.cs.set i (b, { c with done := true, id := id, gen := gen, err := err }) } ∧ Chg (· = b) w w' := by
  have hm : (b, c) ∈ G.cs := List.mem_of_getElem? hi
  have hB := (h.cl _ hm).1
  have h9 := hc ▸ h.mach.cell 9 rfl
  have c2 := hB.cell 11 (u := .bool c.done) rfl
  have c3 := hB.cell 12 (u := .int .u64 c.id) rfl
  have c4 := hB.cell 13 (u := .int .u64 c.gen) rfl
  have c5 := hB.cell 14 (u := .int .i64 c.err) rfl
  have f2 := hB.frozen 11
  have f3 := hB.frozen 12
  have f4 := hB.frozen 13
  have f5 := hB.frozen 14
  have hne : bm ≠ b := fun e => hB.ne h.mach (by decide) e.symm
  have hne' : b ≠ bm := hne.symm
  have hR := hid h
  have HB := hid hB
  clear h hB
  go_enter Try.func105, Try.ntmps105
  go_wp2
  go_region_held3 (fun W => W.cell? ⟨bm, 9, none⟩ = some (ptrV b)) (go_keep) (fail)
  all_goals go_wp2
  all_goals go_ret
  have hch := ((((((Chg.refl (· = b) w).sets rfl 11 (.bool true)).sets rfl 12 (.int .u64 id)).sets rfl 13 (.int .u64 gen)).sets rfl 14 (.int .i64 err)).drew)
  exact ⟨rfl, hR.out.cset hi hch (show Blk _ b _ (clC _) from ((((HB.out.set 11 (.bool true)).set 12 (.int .u64 id)).set 13 (.int .u64 gen)).set 14 (.int .i64 err))) (Cl.fin_wf (hR.out.cl _ hm).2.2 _ _ _), hch⟩
end Go.Proofs.Ytpnkkdpggofanaa
