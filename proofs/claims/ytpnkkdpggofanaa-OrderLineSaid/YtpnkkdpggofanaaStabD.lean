/- slices' stable sort at a slice of structs, by its walks: symMerge to any depth, insertionSort. -/
import Derived.Test.YtpnkkdpggofanaaStabC
namespace Go.Proofs.Ytpnkkdpggofanaa
open Go.Shelf Go.RowKit Go.Lib Go.Sort Go.Proofs
variable {P : Program} {α : Type} [Inhabited α]

theorem symM_any (k : Nat) (L : SLay P k) (enc : α → List Value) (cf : α → α → Int) (g : Nat) (cb : Array Value) (blk off cap n : Nat) (d0 : Array α) (w0 : World)
    (eg : ∀ args w, (callFunc g args).run P w = .ok (.enter g args) w) (hC : CmpLays P g cb enc k cf blk off n w0)
    (R : RowK enc k w0 blk off d0) (hs : d0.size = n) (hsz : n < 2305843009213693952) : ∀ N, SymAt P k enc cf g cb blk off cap n w0 N := by
  intro N
  induction N with
  | zero => intro a m b d w h0 h1 h2 h3 h4 h5; omega
  | succ N ih =>
    intro a m b d w h0 h1 h2 h3 h4 h5
    subst h0
    by_cases c1 : m - a = 1
    · rw [symM, if_pos c1]
      exact sym1_any k L enc cf g cb blk off cap a m b d0 d w0 w eg hC R hs h5 (by omega) h3 h4 hsz
    · by_cases c2 : b - m = 1
      · rw [symM, if_neg c1, if_pos c2]
        exact sym2_any k L enc cf g cb blk off cap a m b d0 d w0 w eg hC R hs h5 h2 (by omega) (by omega) h4 hsz
      · exact sym3_any k L enc cf g cb blk off cap N a m b d0 d w0 w eg hC R hs h5 h1 h2 c1 h3 c2 h4 hsz ih

set_option maxHeartbeats 4000000 in
set_option maxRecDepth 1000000 in
theorem insertion_any (k : Nat) (L : SLay P k) (enc : α → List Value) (cf : α → α → Int) (g : Nat) (cb : Array Value) (blk off cap a b : Nat) (d0 d : Array α) (w0 w : World)
    (eg : ∀ args w, (callFunc g args).run P w = .ok (.enter g args) w) (hC : CmpLays P g cb enc k cf blk off d.size w0)
    (R : RowK enc k w0 blk off d0) (hs : d0.size = d.size) (S : SWK enc k w0 blk off d w) (hab : a ≤ b) (hb : b ≤ d.size) (hsz : d.size < 2305843009213693952) :
    Calls P 107 #[.slice (some ⟨blk, off, none⟩) d.size cap, .int .i64 a, .int .i64 b, .func (.func g) #[] cb] w fun e w' => e = .returned (.tuple #[]) ∧ SWK enc k w0 blk off (Sort.insertionSort (ltOf cf) d a b) w' := by
  have mixed := L.mixed; have t0 := L.t0; have a0 := L.a0; have z0 := L.z0; have v0 := L.v0; have t3 := L.t3; have a3 := L.a3; have z3 := L.z3; have v3 := L.v3; have t4 := L.t4; have a4 := L.a4; have z4 := L.z4; have v4 := L.v4; have tS := L.tS; have aS := L.aS; have zS := L.zS; have vS := L.vS; have tf := L.tf; have af := L.af; have zf := L.zf; have vf := L.vf; have aE := L.aE; have zE := L.zE
  have S0 : Aside (SWK enc k w0 blk off d w) := S
  have HC : Aside _ := hC
  clear S hC
  go_enter L.f4, Try.ntmps107
  go_wp2
  go_loopg [8] (b - a) (fun g1 vi wr => ∃ (i : Nat) (dk : Array α), vi = .int .i64 i ∧ a < i ∧ i ≤ b + 1 ∧ b + 1 - i ≤ g1 + 1 ∧ dk.size = d.size ∧ Aside (SWK enc k w0 blk off dk wr) ∧ Hid (insOuter (ltOf cf) a b i dk = insOuter (ltOf cf) a b (a + 1) d))
  case atStart => exact ⟨a + 1, d, by go_num, by omega, by omega, by omega, rfl, S0, rfl⟩
  case round =>
    clear S0
    rename World => wo
    obtain ⟨i, dk, rfl, hai, hib, hg1, hsk, SO, HO⟩ := hrel
    by_cases hlt : i < b
    · have hltz : (i : Int) < (b : Int) := by omega
      go_wp2
      go_loopg [9] i (fun g2 vj wr2 => ∃ (j : Nat) (dj : Array α), vj = .int .i64 j ∧ a ≤ j ∧ j ≤ i ∧ j ≤ g2 ∧ dj.size = d.size ∧ Aside (SWK enc k w0 blk off dj wr2) ∧ Hid (insInner (ltOf cf) a j dj = insInner (ltOf cf) a i dk))
      case atStart => exact ⟨i, dk, rfl, by omega, Nat.le_refl _, Nat.le_refl _, hsk, SO, rfl⟩
      case round =>
        clear SO
        obtain ⟨j, dj, rfl, haj, hji, hg2, hsj, S1, HI⟩ := hrel
        have out : (j ≤ a ∨ ltOf cf dj[j]! dj[j - 1]! = false) → Hid (insOuter (ltOf cf) a b (i + 1) dj = insOuter (ltOf cf) a b (a + 1) d) := fun hs => by
          show _ = _
          rw [← HO.out, insOuter_go _ _ _ _ _ hlt, ← HI.out, insInner_stop _ _ _ _ hs]
        have OUT : Aside _ := out
        clear out
        by_cases hja : a < j
        · have hjaz : (a : Int) < (j : Int) := by omega
          obtain ⟨jp, rfl⟩ : ∃ jp, j = jp + 1 := ⟨j - 1, by omega⟩
          have rc : IntKind.i64.wrap (jp : Int) = (jp : Int) := by rw [IntKind.wrap_i64]; omega
          have ba : (jp : Int) + 1 < (d.size : Int) := by omega
          have bc : (jp : Int) < (d.size : Int) := by omega
          have hjaz' : (a : Int) < (jp : Int) + 1 := by omega
          have pa : (0 : Int) ≤ (jp : Int) + 1 := by omega
          have ea : ((jp : Int) + 1).toNat = jp + 1 := by omega
          have lj := S1.out.ld R (by omega) P (jp + 1) (by omega)
          have lp := S1.out.ld R (by omega) P jp (by omega)
          have hcg := S1.out.cmp HC.out hsj dj[jp + 1]! dj[jp]!
          have CLS := hid (fun n os => S1.out.grown (enc := enc) n os)
          obtain ⟨xj, hxj⟩ : ∃ x, dj[jp + 1]! = x := ⟨_, rfl⟩
          obtain ⟨xp, hxp⟩ : ∃ x, dj[jp]! = x := ⟨_, rfl⟩
          rw [hxj] at lj hcg
          rw [hxp] at lp hcg
          have HX := hid (And.intro hxj hxp)
          have HSJ := hid hsj
          clear hxj hxp S1
          by_cases hlv : cf xj xp < 0
          · go_wp2_with fail
            go_quiet_grown (first | (go_at_fn g; refine Calls.grown_of (hcg _ _)))
            have S2 : Aside (SWK enc k w0 blk off dj (grow (wr.drewN nq) osq)) := CLS.out nq osq
            clear lj lp hcg CLS
            generalize grow (wr.drewN nq) osq = wx at S2 ⊢
            go_wp2_with fail
            have S3 : Aside (SWK enc k w0 blk off (swp dj (jp + 1) jp) ((wx.drew.setCells blk (off + (jp + 1) * k) (enc dj[jp]!)).setCells blk (off + jp * k) (enc dj[jp + 1]!))) := S2.out.swapped R (jp + 1) jp (by omega) (by omega)
            have l44a := S2.out.ld1 R (by omega) P (jp + 1) (by omega)
            have l44b := S2.out.ld1 R (by omega) P jp (by omega)
            have s44a := S2.out.st1 R (by omega) P (jp + 1) (by omega) dj[jp]!
            have s44b := S2.out.st2 R (by omega) P (jp + 1) jp (by omega) (by omega) dj[jp]! dj[jp + 1]!
            have n44a : (enc dj[jp + 1]!).length = k := R.hk _
            have n44b : (enc dj[jp]!).length = k := R.hk _
            generalize enc dj[jp + 1]! = cI44 at S3 l44a s44b n44a
            generalize enc dj[jp]! = cJ44 at S3 l44b s44a s44b n44b
            clear S2
            go_big_region_o
            clear l44a l44b s44a s44b
            generalize (wx.drew.setCells blk (off + (jp + 1) * k) cJ44).setCells blk (off + jp * k) cI44 = w2 at S3 ⊢
            go_wp2
            go_roundg jp
            case measure => omega
            case rel =>
              refine ⟨jp, swp dj (jp + 1) jp, by first | rfl | go_num | (congr 1; omega), by omega, by omega, Nat.le_refl _, by rw [size_swp]; exact hsj, S3, (show Hid _ from ?_)⟩
              show _ = _
              have := insInner_go (ltOf cf) a (jp + 1) dj hja (by simp only [Nat.add_sub_cancel]; rw [HX.out.1, HX.out.2]; exact decide_eq_true hlv)
              simp only [Nat.add_sub_cancel] at this
              rw [← HI.out, this]
          · go_wp2_with fail
            go_quiet_grown (first | (go_at_fn g; refine Calls.grown_of (hcg _ _)))
            go_wp2
            go_roundg (b - (i + 1))
            case measure => omega
            case rel => exact ⟨i + 1, dj, by go_num, by omega, by omega, by omega, hsj, CLS.out nq osq, OUT.out (Or.inr (by simp only [Nat.add_sub_cancel]; rw [HX.out.1, HX.out.2]; exact decide_eq_false (by omega)))⟩
        · have hjaz : decide ((j : Int) > (a : Int)) = false := decide_eq_false (by omega)
          have hjaz' : ¬ (a : Int) < (j : Int) := by omega
          have HDR := hid (S1.out.drew)
          clear S1
          go_wp2_with fail
          go_big_region_o
          all_goals go_wp2
          go_roundg (b - (i + 1))
          case measure => omega
          case rel => exact ⟨i + 1, dj, by go_num, by omega, by omega, by omega, hsj, HDR.out, OUT.out (Or.inl (by omega))⟩
    · have hltz : ¬ (i : Int) < (b : Int) := by omega
      go_wp2
      go_end0
      refine ⟨rfl, ?_⟩
      unfold Sort.insertionSort
      rw [← HO.out, insOuter_stop _ _ _ _ _ hlt]
      exact SO.out
end Go.Proofs.Ytpnkkdpggofanaa
