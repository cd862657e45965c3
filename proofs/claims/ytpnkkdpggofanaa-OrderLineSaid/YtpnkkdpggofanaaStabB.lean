/- slices' stable sort at a slice of structs, by its walks: symMerge, its two short ways. -/
import Derived.Test.YtpnkkdpggofanaaStabA
namespace Go.Proofs.Ytpnkkdpggofanaa
open Go.Shelf Go.RowKit Go.Lib Go.Sort Go.Proofs
variable {P : Program} {α : Type} [Inhabited α]

set_option maxHeartbeats 4000000 in
set_option maxRecDepth 1000000 in
theorem sym1_any (k : Nat) (L : SLay P k) (enc : α → List Value) (cf : α → α → Int) (g : Nat) (cb : Array Value) (blk off cap a m b : Nat) (d0 d : Array α) (w0 w : World)
    (eg : ∀ args w, (callFunc g args).run P w = .ok (.enter g args) w) (hC : CmpLays P g cb enc k cf blk off d.size w0)
    (R : RowK enc k w0 blk off d0) (hs : d0.size = d.size) (S : SWK enc k w0 blk off d w) (ham : m = a + 1) (hmb : m < b) (hb : b ≤ d.size) (hsz : d.size < 2305843009213693952) :
    Calls P 108 #[.slice (some ⟨blk, off, none⟩) d.size cap, .int .i64 a, .int .i64 m, .int .i64 b, .func (.func g) #[] cb] w fun e w' => e = .returned (.tuple #[]) ∧ SWK enc k w0 blk off (shR (bsr (fun h => ltOf cf d[h]! d[a]!) m b - 1) a d) w' := by
  have mixed := L.mixed; have t0 := L.t0; have a0 := L.a0; have z0 := L.z0; have v0 := L.v0; have t3 := L.t3; have a3 := L.a3; have z3 := L.z3; have v3 := L.v3; have t4 := L.t4; have a4 := L.a4; have z4 := L.z4; have v4 := L.v4; have tS := L.tS; have aS := L.aS; have zS := L.zS; have vS := L.vS; have tf := L.tf; have af := L.af; have zf := L.zf; have vf := L.vf; have aE := L.aE; have zE := L.zE; have tu := L.tu; have au := L.au; have zu := L.zu; have vu := L.vu
  have S0 : Aside (SWK enc k w0 blk off d w) := S
  have HC : Aside _ := hC
  clear S hC
  have c1 : ((m : Int) - (a : Int) == 1) = true := by simp; omega
  have c1' : ((m : Int) - (a : Int)) = 1 := by omega
  have HAM := hid ham
  clear ham
  generalize hp : (fun h : Nat => ltOf cf d[h]! d[a]!) = p
  have HP := hid hp
  clear hp
  go_enter L.f3, Try.ntmps108
  go_wp2
  go_loopg [10, 11] (b - m) (fun kx vi vj wr => ∃ (i j : Nat), vi = .int .i64 i ∧ vj = .int .i64 j ∧ m ≤ i ∧ i ≤ j ∧ j ≤ b ∧ j - i ≤ kx ∧ Aside (SWK enc k w0 blk off d wr) ∧ bsr p i j = bsr p m b)
  case atStart => exact ⟨m, b, rfl, rfl, Nat.le_refl _, by omega, Nat.le_refl _, Nat.le_refl _, S0, rfl⟩
  case round =>
    clear S0
    obtain ⟨i, j, rfl, rfl, hmi, hij, hjb, hkx, S1, heq⟩ := hrel
    have HEQ := hid heq
    clear heq
    by_cases hlt : i < j
    · have hltz : (i : Int) < (j : Int) := by omega
      obtain ⟨hN, hhN⟩ : ∃ hN : Nat, hN = (i + j) / 2 := ⟨_, rfl⟩
      have ehz : ((i : Int) + (j : Int)) / 2 = (hN : Int) := by omega
      have hN1 : i ≤ hN := by omega
      have hN2 : hN < j := by omega
      have HHN := hid hhN
      have EHZ := hid ehz
      clear hhN ehz
      go_wp2_with fail
      rw [EHZ.out]
      have lh := S1.out.ld R (by omega) P hN (by omega)
      have la := S1.out.ld R (by omega) P a (by have := HAM.out; omega)
      have hcg := S1.out.cmp HC.out rfl d[hN]! d[a]!
      have CLS := hid (fun n os => S1.out.grown (enc := enc) n os)
      have hal : a < d.size := by have := HAM.out; omega
      generalize hxh : d[hN]! = xh at lh hcg
      generalize hxa : d[a]! = xa at la hcg
      have HX := hid (And.intro hxh hxa)
      clear hxh hxa S1
      have ea : ((hN : Int)).toNat = hN := by omega
      have pa : (0 : Int) ≤ (hN : Int) := by omega
      have ba : (hN : Int) < (d.size : Int) := by omega
      have ra : IntKind.i64.wrap ((hN : Int)) = (hN : Int) := by rw [IntKind.wrap_i64]; omega
      have ec : ((a : Int)).toNat = a := by omega
      have pc : (0 : Int) ≤ (a : Int) := by omega
      have bc : (a : Int) < (d.size : Int) := by omega
      have rc : IntKind.i64.wrap ((a : Int)) = (a : Int) := by rw [IntKind.wrap_i64]; omega
      by_cases hlv : cf xh xa < 0
      · go_quiet_grown (first | (go_at_fn g; refine Calls.grown_of (hcg _ _)))
        have S2 : Aside _ := CLS.out nq osq
        clear lh la hcg CLS
        generalize grow (wr.drewN nq) osq = w2 at S2 ⊢
        go_wp2
        go_roundg (j - (hN + 1))
        case measure => omega
        case rel =>
          refine ⟨hN + 1, j, by go_num, rfl, by omega, by omega, hjb, Nat.le_refl _, S2, ?_⟩
          have heq := HEQ.out
          rw [bsr, if_pos hlt, ← HHN.out, if_pos (show p hN = true by rw [← HP.out]; show ltOf cf d[hN]! d[a]! = true; rw [HX.out.1, HX.out.2]; exact decide_eq_true hlv)] at heq
          exact heq
      · go_quiet_grown (first | (go_at_fn g; refine Calls.grown_of (hcg _ _)))
        have S2 : Aside _ := CLS.out nq osq
        clear lh la hcg CLS
        generalize grow (wr.drewN nq) osq = w2 at S2 ⊢
        go_wp2
        go_roundg (hN - i)
        case measure => omega
        case rel =>
          refine ⟨i, hN, rfl, rfl, by omega, by omega, by omega, Nat.le_refl _, S2, ?_⟩
          have heq := HEQ.out
          rw [bsr, if_pos hlt, ← HHN.out, if_neg (show ¬ p hN = true by rw [← HP.out]; show ¬ ltOf cf d[hN]! d[a]! = true; rw [HX.out.1, HX.out.2]; simp [ltOf, hlv])] at heq
          exact heq
    · have hltz : ¬ (i : Int) < (j : Int) := by omega
      have hi2 : i = bsr p m b := by
        have heq := HEQ.out
        rw [bsr, if_neg hlt] at heq
        exact heq
      have HI2 := hid hi2
      clear hi2 HEQ
      have him : a + 1 ≤ i := by have := HAM.out; omega
      have hid2 : i ≤ d.size := by omega
      go_wp2
      clear hlt hltz
      go_loopg [13] (i - 1 - a) (fun kx vk wr => ∃ (q : Nat) (dk : Array α), vk = .int .i64 q ∧ a ≤ q ∧ q ≤ i - 1 ∧ i - 1 - q ≤ kx ∧ dk.size = d.size ∧ Aside (SWK enc k w0 blk off dk wr) ∧ shR (i - 1) q dk = shR (i - 1) a d)
      case atStart => exact ⟨a, d, rfl, Nat.le_refl _, by omega, Nat.le_refl _, rfl, S1, rfl⟩
      case round =>
        clear S1
        obtain ⟨q, dk, rfl, haq, hqi, hkx2, hds, S1, heq⟩ := hrel
        have HEQ := hid heq
        clear heq
        by_cases hlt : q < i - 1
        · have hltz : (q : Int) < (i : Int) - 1 := by omega
          go_wp2_with fail
          have ea : ((q : Int)).toNat = q := by omega
          have pa : (0 : Int) ≤ (q : Int) := by omega
          have ba : (q : Int) < (d.size : Int) := by omega
          have ra : IntKind.i64.wrap ((q : Int)) = (q : Int) := by rw [IntKind.wrap_i64]; omega
          have ec : ((q : Int) + 1).toNat = q + 1 := by omega
          have pc : (0 : Int) ≤ (q : Int) + 1 := by omega
          have bc : (q : Int) + 1 < (d.size : Int) := by omega
          have rc : IntKind.i64.wrap ((q : Int) + 1) = (q : Int) + 1 := by rw [IntKind.wrap_i64]; omega
          have S2 : Aside (SWK enc k w0 blk off (swp dk q (q + 1)) ((wr.drew.setCells blk (off + q * k) (enc dk[q + 1]!)).setCells blk (off + (q + 1) * k) (enc dk[q]!))) := S1.out.swapped R q (q + 1) (by omega) (by omega)
          have l44a := S1.out.ld1 R (by omega) P q (by omega)
          have l44b := S1.out.ld1 R (by omega) P (q + 1) (by omega)
          have s44a := S1.out.st1 R (by omega) P q (by omega) dk[q + 1]!
          have s44b := S1.out.st2 R (by omega) P q (q + 1) (by omega) (by omega) dk[q + 1]! dk[q]!
          have n44a : (enc dk[q]!).length = k := R.hk _
          have n44b : (enc dk[q + 1]!).length = k := R.hk _
          generalize enc dk[q]! = cI44 at S2 l44a s44b n44a
          generalize enc dk[q + 1]! = cJ44 at S2 l44b s44a s44b n44b
          clear S1
          go_big_region_o
          clear l44a l44b s44a s44b
          generalize (wr.drew.setCells blk (off + q * k) cJ44).setCells blk (off + (q + 1) * k) cI44 = w2 at S2 ⊢
          go_wp2
          go_roundg (i - 1 - (q + 1))
          case measure => omega
          case rel =>
            have heq := HEQ.out
            rw [shR, if_pos hlt] at heq
            exact ⟨q + 1, swp dk q (q + 1), by go_num, by omega, by omega, Nat.le_refl _, by rw [size_swp]; exact hds, S2, heq⟩
        · have hltz : ¬ (q : Int) < (i : Int) - 1 := by omega
          go_wp2
          refine bodyPost_ret (results_none rfl _ _ _) rfl ?_
          refine ⟨rfl, ?_⟩
          have heq := HEQ.out
          rw [shR, if_neg hlt] at heq
          rw [← HI2.out, ← heq]
          exact S1.out
set_option maxHeartbeats 4000000 in
set_option maxRecDepth 1000000 in
theorem sym2_any (k : Nat) (L : SLay P k) (enc : α → List Value) (cf : α → α → Int) (g : Nat) (cb : Array Value) (blk off cap a m b : Nat) (d0 d : Array α) (w0 w : World)
    (eg : ∀ args w, (callFunc g args).run P w = .ok (.enter g args) w) (hC : CmpLays P g cb enc k cf blk off d.size w0)
    (R : RowK enc k w0 blk off d0) (hs : d0.size = d.size) (S : SWK enc k w0 blk off d w) (ham : a < m) (hne : m ≠ a + 1) (hmb : b = m + 1) (hb : b ≤ d.size) (hsz : d.size < 2305843009213693952) :
    Calls P 108 #[.slice (some ⟨blk, off, none⟩) d.size cap, .int .i64 a, .int .i64 m, .int .i64 b, .func (.func g) #[] cb] w fun e w' => e = .returned (.tuple #[]) ∧ SWK enc k w0 blk off (shL (bsr (fun h => !ltOf cf d[m]! d[h]!) a m) m d) w' := by
  have mixed := L.mixed; have t0 := L.t0; have a0 := L.a0; have z0 := L.z0; have v0 := L.v0; have t3 := L.t3; have a3 := L.a3; have z3 := L.z3; have v3 := L.v3; have t4 := L.t4; have a4 := L.a4; have z4 := L.z4; have v4 := L.v4; have tS := L.tS; have aS := L.aS; have zS := L.zS; have vS := L.vS; have tf := L.tf; have af := L.af; have zf := L.zf; have vf := L.vf; have aE := L.aE; have zE := L.zE; have tu := L.tu; have au := L.au; have zu := L.zu; have vu := L.vu
  have S0 : Aside (SWK enc k w0 blk off d w) := S
  have HC : Aside _ := hC
  clear S hC
  have c1 : ((m : Int) - (a : Int) == 1) = false := by simp; omega
  have c2 : ((b : Int) - (m : Int) == 1) = true := by simp; omega
  have c2' : ((b : Int) - (m : Int)) = 1 := by omega
  have hmd : m < d.size := by omega
  clear hne hmb
  generalize hp : (fun h : Nat => !ltOf cf d[m]! d[h]!) = p
  have HP := hid hp
  clear hp
  go_enter L.f3, Try.ntmps108
  go_wp2
  go_loopg [14, 15] (m - a) (fun kx vi vj wr => ∃ (i j : Nat), vi = .int .i64 i ∧ vj = .int .i64 j ∧ a ≤ i ∧ i ≤ j ∧ j ≤ m ∧ j - i ≤ kx ∧ Aside (SWK enc k w0 blk off d wr) ∧ bsr p i j = bsr p a m)
  case atStart => exact ⟨a, m, rfl, rfl, Nat.le_refl _, by omega, Nat.le_refl _, Nat.le_refl _, S0, rfl⟩
  case round =>
    clear S0
    obtain ⟨i, j, rfl, rfl, hmi, hij, hjb, hkx, S1, heq⟩ := hrel
    have HEQ := hid heq
    clear heq
    by_cases hlt : i < j
    · have hltz : (i : Int) < (j : Int) := by omega
      obtain ⟨hN, hhN⟩ : ∃ hN : Nat, hN = (i + j) / 2 := ⟨_, rfl⟩
      have ehz : ((i : Int) + (j : Int)) / 2 = (hN : Int) := by omega
      have hN1 : i ≤ hN := by omega
      have hN2 : hN < j := by omega
      have HHN := hid hhN
      have EHZ := hid ehz
      clear hhN ehz
      go_wp2_with fail
      rw [EHZ.out]
      have lh := S1.out.ld R (by omega) P hN (by omega)
      have la := S1.out.ld R (by omega) P m (by omega)
      have hcg := S1.out.cmp HC.out rfl d[m]! d[hN]!
      have CLS := hid (fun n os => S1.out.grown (enc := enc) n os)
      generalize hxh : d[hN]! = xh at lh hcg
      generalize hxa : d[m]! = xa at la hcg
      have HX := hid (And.intro hxh hxa)
      clear hxh hxa S1
      have ea : ((hN : Int)).toNat = hN := by omega
      have pa : (0 : Int) ≤ (hN : Int) := by omega
      have ba : (hN : Int) < (d.size : Int) := by omega
      have ra : IntKind.i64.wrap ((hN : Int)) = (hN : Int) := by rw [IntKind.wrap_i64]; omega
      have ec : ((m : Int)).toNat = m := by omega
      have pc : (0 : Int) ≤ (m : Int) := by omega
      have bc : (m : Int) < (d.size : Int) := by omega
      have rc : IntKind.i64.wrap ((m : Int)) = (m : Int) := by rw [IntKind.wrap_i64]; omega
      by_cases hlv : cf xa xh < 0
      · go_quiet_grown (first | (go_at_fn g; refine Calls.grown_of (hcg _ _)))
        have S2 : Aside _ := CLS.out nq osq
        clear lh la hcg CLS
        generalize grow (wr.drewN nq) osq = w2 at S2 ⊢
        go_wp2
        go_roundg (hN - i)
        case measure => omega
        case rel =>
          refine ⟨i, hN, rfl, rfl, by omega, by omega, by omega, Nat.le_refl _, S2, ?_⟩
          have heq := HEQ.out
          rw [bsr, if_pos hlt, ← HHN.out, if_neg (show ¬ p hN = true by rw [← HP.out]; show ¬ (!ltOf cf d[m]! d[hN]!) = true; rw [HX.out.1, HX.out.2]; simp [ltOf, hlv])] at heq
          exact heq
      · go_quiet_grown (first | (go_at_fn g; refine Calls.grown_of (hcg _ _)))
        have S2 : Aside _ := CLS.out nq osq
        clear lh la hcg CLS
        generalize grow (wr.drewN nq) osq = w2 at S2 ⊢
        go_wp2
        go_roundg (j - (hN + 1))
        case measure => omega
        case rel =>
          refine ⟨hN + 1, j, by go_num, rfl, by omega, by omega, hjb, Nat.le_refl _, S2, ?_⟩
          have heq := HEQ.out
          rw [bsr, if_pos hlt, ← HHN.out, if_pos (show p hN = true by rw [← HP.out]; show (!ltOf cf d[m]! d[hN]!) = true; rw [HX.out.1, HX.out.2]; simp [ltOf, hlv])] at heq
          exact heq
    · have hltz : ¬ (i : Int) < (j : Int) := by omega
      have hi2 : i = bsr p a m := by
        have heq := HEQ.out
        rw [bsr, if_neg hlt] at heq
        exact heq
      have HI2 := hid hi2
      clear hi2 HEQ
      go_wp2
      clear hlt hltz
      go_loopg [17] (m - i) (fun kx vk wr => ∃ (q : Nat) (dk : Array α), vk = .int .i64 q ∧ i ≤ q ∧ q ≤ m ∧ q - i ≤ kx ∧ dk.size = d.size ∧ Aside (SWK enc k w0 blk off dk wr) ∧ shL i q dk = shL i m d)
      case atStart => exact ⟨m, d, rfl, by omega, Nat.le_refl _, Nat.le_refl _, rfl, S1, rfl⟩
      case round =>
        clear S1
        obtain ⟨q, dk, rfl, hiq, hqm, hkx2, hds, S1, heq⟩ := hrel
        have HEQ := hid heq
        clear heq
        by_cases hlt : i < q
        · have hltz : (i : Int) < (q : Int) := by omega
          obtain ⟨r, hr⟩ : ∃ r, q = r + 1 := ⟨q - 1, by omega⟩
          subst hr
          have e0 : ((r + 1 : Nat) : Int) - 1 = (r : Int) := by omega
          go_wp2_with fail
          have ea : ((r : Int) + 1).toNat = r + 1 := by omega
          have pa : (0 : Int) ≤ (r : Int) + 1 := by omega
          have ba : (r : Int) + 1 < (d.size : Int) := by omega
          have ra : IntKind.i64.wrap ((r : Int) + 1) = (r : Int) + 1 := by rw [IntKind.wrap_i64]; omega
          have ec : ((r : Int)).toNat = r := by omega
          have pc : (0 : Int) ≤ (r : Int) := by omega
          have bc : (r : Int) < (d.size : Int) := by omega
          have rc : IntKind.i64.wrap ((r : Int)) = (r : Int) := by rw [IntKind.wrap_i64]; omega
          have S2 : Aside (SWK enc k w0 blk off (swp dk (r + 1) r) ((wr.drew.setCells blk (off + (r + 1) * k) (enc dk[r]!)).setCells blk (off + r * k) (enc dk[r + 1]!))) := S1.out.swapped R (r + 1) r (by omega) (by omega)
          have l44a := S1.out.ld1 R (by omega) P (r + 1) (by omega)
          have l44b := S1.out.ld1 R (by omega) P r (by omega)
          have s44a := S1.out.st1 R (by omega) P (r + 1) (by omega) dk[r]!
          have s44b := S1.out.st2 R (by omega) P (r + 1) r (by omega) (by omega) dk[r]! dk[r + 1]!
          have n44a : (enc dk[r + 1]!).length = k := R.hk _
          have n44b : (enc dk[r]!).length = k := R.hk _
          generalize enc dk[r + 1]! = cI44 at S2 l44a s44b n44a
          generalize enc dk[r]! = cJ44 at S2 l44b s44a s44b n44b
          clear S1
          go_big_region_o
          clear l44a l44b s44a s44b
          generalize (wr.drew.setCells blk (off + (r + 1) * k) cJ44).setCells blk (off + r * k) cI44 = w2 at S2 ⊢
          go_wp2
          go_roundg (r - i)
          case measure => omega
          case rel =>
            have heq := HEQ.out
            rw [shL, if_pos hlt] at heq
            exact ⟨r, swp dk (r + 1) r, by first | rfl | go_num | (congr 1; omega), by omega, by omega, Nat.le_refl _, by rw [size_swp]; exact hds, S2, heq⟩
        · have hltz : ¬ (i : Int) < (q : Int) := by omega
          go_wp2
          refine bodyPost_ret (results_none rfl _ _ _) rfl ?_
          refine ⟨rfl, ?_⟩
          have heq := HEQ.out
          have hq : shL i q dk = dk := by
            cases q with
            | zero => rw [shL]
            | succ q => rw [shL, if_neg (by omega)]
          rw [hq] at heq
          rw [← HI2.out, ← heq]
          exact S1.out

end Go.Proofs.Ytpnkkdpggofanaa
