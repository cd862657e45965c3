/- slices' stable sort at a slice of structs, by its walks: swapRange, rotate. The program is a variable: only what is asked of it (SLay) is known. slices' stable sort at a slice of structs, by its walks: symMerge, its two short ways. -/
import Derived.Test.YtpnkkdpggofanaaProg
import Derived.Test.YtpnkkdpggofanaaStab
import Derived.Test.YtpnkkdpggofanaaGen
import Derived.Shelf.SlSortCmp.KitK
import Derived.Sort.WalkB2
import Derived.Sort.WalkB12
import Derived.Deep.LoopGhost
namespace Go.Proofs.Ytpnkkdpggofanaa
open Go.Shelf Go.RowKit Go.Lib Go.Sort Go.Proofs

/-- What the walks ask of the program. -/
structure SLay (P : Program) (k : Nat) : Prop where
  mixed : P.follows .mixedOrders = true
  f1 : P.funcs[119]? = some Try.f119
  f2 : P.funcs[116]? = some Try.f116
  f3 : P.funcs[108]? = some Try.f108
  f4 : P.funcs[107]? = some Try.f107
  f5 : P.funcs[89]? = some Try.f89
  t0 : P.underlying 0 = some (TypeDesc.tuple #[])
  a0 : ∀ w, (isAgg 0).run P w = .ok false w
  z0 : ∀ w, (Go.sizeOf 0).run P w = .ok 1 w
  v0 : ∀ w, (zeroValue 0).run P w = .ok (Value.tuple #[]) w
  t3 : P.underlying 3 = some (TypeDesc.int IntKind.i64)
  a3 : ∀ w, (isAgg 3).run P w = .ok false w
  z3 : ∀ w, (Go.sizeOf 3).run P w = .ok 1 w
  v3 : ∀ w, (zeroValue 3).run P w = .ok (Value.int IntKind.i64 0) w
  t4 : P.underlying 4 = some (TypeDesc.bool)
  a4 : ∀ w, (isAgg 4).run P w = .ok false w
  z4 : ∀ w, (Go.sizeOf 4).run P w = .ok 1 w
  v4 : ∀ w, (zeroValue 4).run P w = .ok (Value.bool false) w
  tu : P.underlying 137 = some (TypeDesc.int IntKind.u64)
  au : ∀ w, (isAgg 137).run P w = .ok false w
  zu : ∀ w, (Go.sizeOf 137).run P w = .ok 1 w
  vu : ∀ w, (zeroValue 137).run P w = .ok (Value.int IntKind.u64 0) w
  tS : P.underlying 33 = some (TypeDesc.slice 40)
  aS : ∀ w, (isAgg 33).run P w = .ok false w
  zS : ∀ w, (Go.sizeOf 33).run P w = .ok 1 w
  vS : ∀ w, (zeroValue 33).run P w = .ok (Value.slice none 0 0) w
  tf : P.underlying 130 = some (TypeDesc.func #[40, 40] #[3] false)
  af : ∀ w, (isAgg 130).run P w = .ok false w
  zf : ∀ w, (Go.sizeOf 130).run P w = .ok 1 w
  vf : ∀ w, (zeroValue 130).run P w = .ok (Value.nilFunc) w
  aE : ∀ w, (isAgg 40).run P w = .ok true w
  zE : ∀ w, (Go.sizeOf 40).run P w = .ok k w

variable {P : Program} {α : Type} [Inhabited α]

set_option maxHeartbeats 4000000 in
set_option maxRecDepth 1000000 in
theorem swapRange_any (k : Nat) (L : SLay P k) (enc : α → List Value) (g : Nat) (cb : Array Value) (blk off cap a b n : Nat) (d0 d : Array α) (w0 w : World)
    (R : RowK enc k w0 blk off d0) (hs : d0.size = d.size) (S : SWK enc k w0 blk off d w) (hab : a + n ≤ b) (hb : b + n ≤ d.size) (hsz : d.size < 4611686018427387904) :
    Calls P 119 #[.slice (some ⟨blk, off, none⟩) d.size cap, .int .i64 a, .int .i64 b, .int .i64 n, .func (.func g) #[] cb] w fun e w' => e = .returned (.tuple #[]) ∧ SWK enc k w0 blk off (swapRng a b n 0 d) w' := by
  have mixed := L.mixed; have t0 := L.t0; have a0 := L.a0; have z0 := L.z0; have v0 := L.v0; have t3 := L.t3; have a3 := L.a3; have z3 := L.z3; have v3 := L.v3; have t4 := L.t4; have a4 := L.a4; have z4 := L.z4; have v4 := L.v4; have tS := L.tS; have aS := L.aS; have zS := L.zS; have vS := L.vS; have tf := L.tf; have af := L.af; have zf := L.zf; have vf := L.vf; have aE := L.aE; have zE := L.zE
  have S0 : Aside (SWK enc k w0 blk off d w) := S
  clear S
  go_enter L.f1, Try.ntmps119
  go_wp2
  go_loopg [10] n (fun kx vi wr => ∃ (i : Nat) (dk : Array α), vi = .int .i64 i ∧ i ≤ n ∧ n - i ≤ kx ∧ dk.size = d.size ∧ Aside (SWK enc k w0 blk off dk wr) ∧ swapRng a b n i dk = swapRng a b n 0 d)
  case atStart => exact ⟨0, d, rfl, by omega, by omega, rfl, S0, rfl⟩
  case round =>
    clear S0
    obtain ⟨i, dk, rfl, hin, hkx, hds, S1, heq⟩ := hrel
    have HEQ := hid heq
    clear heq
    by_cases hlt : i < n
    · have hltz : (i : Int) < (n : Int) := by omega
      go_wp2_with fail
      have ea : ((a : Int) + (i : Int)).toNat = a + i := by omega
      have pa : (0 : Int) ≤ (a : Int) + (i : Int) := by omega
      have ba : (a : Int) + (i : Int) < (d.size : Int) := by omega
      have ra : IntKind.i64.wrap ((a : Int) + (i : Int)) = (a : Int) + (i : Int) := by rw [IntKind.wrap_i64]; omega
      have ec : ((b : Int) + (i : Int)).toNat = b + i := by omega
      have pc : (0 : Int) ≤ (b : Int) + (i : Int) := by omega
      have bc : (b : Int) + (i : Int) < (d.size : Int) := by omega
      have rc : IntKind.i64.wrap ((b : Int) + (i : Int)) = (b : Int) + (i : Int) := by rw [IntKind.wrap_i64]; omega
      have S2 : Aside (SWK enc k w0 blk off (swp dk (a + i) (b + i)) ((wr.drew.setCells blk (off + (a + i) * k) (enc dk[b + i]!)).setCells blk (off + (b + i) * k) (enc dk[a + i]!))) := S1.out.swapped R (a + i) (b + i) (by omega) (by omega)
      have l44a := S1.out.ld1 R (by omega) P (a + i) (by omega)
      have l44b := S1.out.ld1 R (by omega) P (b + i) (by omega)
      have s44a := S1.out.st1 R (by omega) P (a + i) (by omega) dk[b + i]!
      have s44b := S1.out.st2 R (by omega) P (a + i) (b + i) (by omega) (by omega) dk[b + i]! dk[a + i]!
      have n44a : (enc dk[a + i]!).length = k := R.hk _
      have n44b : (enc dk[b + i]!).length = k := R.hk _
      generalize enc dk[a + i]! = cI44 at S2 l44a s44b n44a
      generalize enc dk[b + i]! = cJ44 at S2 l44b s44a s44b n44b
      clear S1
      go_big_region_o
      clear l44a l44b s44a s44b
      generalize (wr.drew.setCells blk (off + (a + i) * k) cJ44).setCells blk (off + (b + i) * k) cI44 = w2 at S2 ⊢
      go_wp2
      go_roundg (n - (i + 1))
      case measure => omega
      case rel =>
        have heq := HEQ.out
        rw [swapRng, if_pos hlt] at heq
        exact ⟨i + 1, swp dk (a + i) (b + i), by go_num, by omega, Nat.le_refl _, by rw [size_swp]; exact hds, S2, heq⟩
    · have hltz : ¬ (i : Int) < (n : Int) := by omega
      go_wp2
      go_end0
      refine ⟨rfl, ?_⟩
      have heq := HEQ.out
      rw [swapRng, if_neg hlt] at heq
      rw [← heq]
      exact S1.out

set_option maxHeartbeats 4000000 in
set_option maxRecDepth 1000000 in
theorem rotate_any (k : Nat) (L : SLay P k) (enc : α → List Value) (g : Nat) (cb : Array Value) (blk off cap a m b : Nat) (d0 d : Array α) (w0 w : World)
    (R : RowK enc k w0 blk off d0) (hs : d0.size = d.size) (S : SWK enc k w0 blk off d w) (ham : a < m) (hmb : m < b) (hb : b ≤ d.size) (hsz : d.size < 4611686018427387904) :
    Calls P 116 #[.slice (some ⟨blk, off, none⟩) d.size cap, .int .i64 a, .int .i64 m, .int .i64 b, .func (.func g) #[] cb] w fun e w' => e = .returned (.tuple #[]) ∧ SWK enc k w0 blk off (rotL m (m - a) (b - m) d) w' := by
  have mixed := L.mixed; have t0 := L.t0; have a0 := L.a0; have z0 := L.z0; have v0 := L.v0; have t3 := L.t3; have a3 := L.a3; have z3 := L.z3; have v3 := L.v3; have t4 := L.t4; have a4 := L.a4; have z4 := L.z4; have v4 := L.v4; have tS := L.tS; have aS := L.aS; have zS := L.zS; have vS := L.vS; have tf := L.tf; have af := L.af; have zf := L.zf; have vf := L.vf; have aE := L.aE; have zE := L.zE
  have S0 : Aside (SWK enc k w0 blk off d w) := S
  clear S
  have es : ((m : Int) - (a : Int)) = ((m - a : Nat) : Int) := by omega
  have es2 : ((b : Int) - (m : Int)) = ((b - m : Nat) : Int) := by omega
  have ES := hid (And.intro es es2)
  clear es es2
  have hsw := fun (x y n : Nat) (dk : Array α) (W : World) (hds : dk.size = d.size) (S1 : SWK enc k w0 blk off dk W) (h1 : x + n ≤ y) (h2 : y + n ≤ dk.size) => swapRange_any k L enc g cb blk off cap x y n d0 dk w0 W R (by omega) S1 h1 h2 (by omega)
  have HSW := hid hsw
  clear hsw
  have e1 : ∀ args w, (callFunc 119 args).run P w = .ok (.enter 119 args) w := enters_of L.f1 (by kernel_rfl) rfl
  go_enter L.f2, Try.ntmps116
  go_wp2
  go_loopg [10, 11] (m - a + (b - m)) (fun kx vi vj wr => ∃ (i j : Nat) (dk : Array α), vi = .int .i64 i ∧ vj = .int .i64 j ∧ 0 < i ∧ 0 < j ∧ a + i ≤ m ∧ m + j ≤ b ∧ i + j ≤ kx ∧ dk.size = d.size ∧ Aside (SWK enc k w0 blk off dk wr) ∧ rotL m i j dk = rotL m (m - a) (b - m) d)
  case atStart => exact ⟨m - a, b - m, d, by rw [ES.out.1], by rw [ES.out.2], by omega, by omega, by omega, by omega, Nat.le_refl _, rfl, S0, rfl⟩
  case round =>
    clear S0
    obtain ⟨i, j, dk, rfl, rfl, hi, hj, him, hjb, hkx, hds, S1, heq⟩ := hrel
    have HEQ := hid heq
    have HDS := hid hds
    clear heq hds
    have ei : ((m : Int) - (i : Int)) = ((m - i : Nat) : Int) := by omega
    have HEI := hid ei
    clear ei
    by_cases hij : i = j
    · have c1 : ((i : Int) == (j : Int)) = true := by simp [hij]
      have c1' : ((i : Int) != (j : Int)) = false := by simp [hij]
      have HIJ := hid hij
      clear hij
      go_wp2_with fail
      rw [HEI.out, ← HDS.out]
      refine (HSW.out (m - i) m i dk wr HDS.out S1.out (by omega) (by rw [HDS.out]; have := HIJ.out; omega)).mono ?_
      rintro e w1 ⟨rfl, S2⟩
      have S3 : Aside (SWK enc k w0 blk off (swapRng (m - i) m i 0 dk) w1) := S2
      clear S2
      go_wp2
      go_end0
      refine ⟨rfl, ?_⟩
      have heq := HEQ.out
      rw [rotL, if_pos HIJ.out] at heq
      rw [← heq]
      exact S3.out
    · have c1 : ((i : Int) == (j : Int)) = false := by simp; omega
      have c1' : ((i : Int) != (j : Int)) = true := by simp; omega
      have HIJ := hid hij
      clear hij
      by_cases hlt : j < i
      · have c2 : (j : Int) < (i : Int) := by omega
        go_wp2_with fail
        rw [HEI.out, ← HDS.out]
        refine (HSW.out (m - i) m j dk wr HDS.out S1.out (by omega) (by rw [HDS.out]; omega)).mono ?_
        rintro e w1 ⟨rfl, S2⟩
        have S3 : Aside (SWK enc k w0 blk off (swapRng (m - i) m j 0 dk) w1) := S2
        clear S2 S1
        rw [HDS.out]
        have hz1 := (swapRng_perm (m - i) m j 0 dk.size j 0 dk rfl (by omega) (by omega) (by rw [HDS.out]; omega) (Nat.le_refl _)).1
        have HZ := hid (hz1.trans HDS.out)
        clear hz1
        have e9 : IntKind.i64.wrap ((i : Int) - (j : Int)) = (i : Int) - (j : Int) := by rw [IntKind.wrap_i64]; omega
        go_wp2
        go_roundg (i - j + j)
        case measure => omega
        case rel =>
          have heq := HEQ.out
          rw [rotL, if_neg HIJ.out, dif_pos ⟨hi, hj⟩, if_pos hlt] at heq
          exact ⟨i - j, j, _, by congr 1; omega, rfl, by omega, hj, by omega, by omega, by omega, HZ.out, S3, heq⟩
      · have c2 : ¬ (j : Int) < (i : Int) := by omega
        have ej : ((m : Int) + (j : Int) - (i : Int)) = ((m + j - i : Nat) : Int) := by omega
        have HEJ := hid ej
        clear ej
        go_wp2_with fail
        rw [HEI.out, HEJ.out, ← HDS.out]
        refine (HSW.out (m - i) (m + j - i) i dk wr HDS.out S1.out (by omega) (by rw [HDS.out]; omega)).mono ?_
        rintro e w1 ⟨rfl, S2⟩
        have S3 : Aside (SWK enc k w0 blk off (swapRng (m - i) (m + j - i) i 0 dk) w1) := S2
        clear S2 S1
        rw [HDS.out]
        have hz1 := (swapRng_perm (m - i) (m + j - i) i 0 dk.size i 0 dk rfl (by omega) (by omega) (by rw [HDS.out]; omega) (Nat.le_refl _)).1
        have HZ := hid (hz1.trans HDS.out)
        clear hz1
        have e9 : IntKind.i64.wrap ((j : Int) - (i : Int)) = (j : Int) - (i : Int) := by rw [IntKind.wrap_i64]; omega
        go_wp2
        go_roundg (i + (j - i))
        case measure => omega
        case rel =>
          have heq := HEQ.out
          rw [rotL, if_neg HIJ.out, dif_pos ⟨hi, hj⟩, if_neg hlt] at heq
          exact ⟨i, j - i, _, rfl, by congr 1; omega, hi, by have := HIJ.out; omega, by omega, by omega, by omega, HZ.out, S3, heq⟩
end Go.Proofs.Ytpnkkdpggofanaa

namespace Go.Proofs.Ytpnkkdpggofanaa
open Go.Shelf Go.RowKit Go.Lib Go.Sort Go.Proofs
variable {P : Program} {α : Type} [Inhabited α]

set_option maxHeartbeats 4000000 in
set_option maxRecDepth 1000000 in
theorem sym1_any (k : Nat) (L : SLay P k) (enc : α → List Value) (cf : α → α → Int) (g : Nat) (cb : Array Value) (blk off cap a m b : Nat) (d0 d : Array α) (w0 w : World)
    (eg : ∀ args w, (callFunc g args).run P w = .ok (.enter g args) w) (hC : CmpLays P g cb enc k cf blk off d.size w0)
    (R : RowK enc k w0 blk off d0) (hs : d0.size = d.size) (S : SWK enc k w0 blk off d w) (ham : m = a + 1) (hmb : m < b) (hb : b ≤ d.size) (hsz : d.size < 2305843009213693952) :
    Calls P 108 #[.slice (some ⟨blk, off, none⟩) d.size cap, .int .i64 a, .int .i64 m, .int .i64 b, .func (.func g) #[] cb] w fun e w' => e = .returned (.tuple #[]) ∧ SWK enc k w0 blk off (shR (bsr (fun h => ltOf cf d[h]! d[a]!) m b - 1) a d) w' := by
  have mixed := L.mixed; have t0 := L.t0; have a0 := L.a0; have z0 := L.z0; have v0 := L.v0; have t3 := L.t3; have a3 := L.a3; have z3 := L.z3; have v3 := L.v3; have t4 := L.t4; have a4 := L.a4; have z4 := L.z4; have v4 := L.v4; have tS := L.tS; have aS := L.aS; have zS := L.zS; have vS := L.vS; have tf := L.tf; have af := L.af; have zf := L.zf; have vf := L.vf; have aE := L.aE; have zE := L.zE; have tu := L.tu; have au := L.au; have zu := L.zu; have vu := L.vu
  have S0 : Aside (SWK enc k w0 blk off d w) := S
  have HC : Aside _ := hC
  clear S hC
  have c1 : ((m : Int) - (a : Int) == 1) = true := by simp; omega
  have c1' : ((m : Int) - (a : Int)) = 1 := by omega
  have HAM := hid ham
  clear ham
  generalize hp : (fun h : Nat => ltOf cf d[h]! d[a]!) = p
  have HP := hid hp
  clear hp
  go_enter L.f3, Try.ntmps108
  go_wp2
  go_loopg [10, 11] (b - m) (fun kx vi vj wr => ∃ (i j : Nat), vi = .int .i64 i ∧ vj = .int .i64 j ∧ m ≤ i ∧ i ≤ j ∧ j ≤ b ∧ j - i ≤ kx ∧ Aside (SWK enc k w0 blk off d wr) ∧ bsr p i j = bsr p m b)
  case atStart => exact ⟨m, b, rfl, rfl, Nat.le_refl _, by omega, Nat.le_refl _, Nat.le_refl _, S0, rfl⟩
  case round =>
    clear S0
    obtain ⟨i, j, rfl, rfl, hmi, hij, hjb, hkx, S1, heq⟩ := hrel
    have HEQ := hid heq
    clear heq
    by_cases hlt : i < j
    · have hltz : (i : Int) < (j : Int) := by omega
      obtain ⟨hN, hhN⟩ : ∃ hN : Nat, hN = (i + j) / 2 := ⟨_, rfl⟩
      have ehz : ((i : Int) + (j : Int)) / 2 = (hN : Int) := by omega
      have hN1 : i ≤ hN := by omega
      have hN2 : hN < j := by omega
      have HHN := hid hhN
      have EHZ := hid ehz
      clear hhN ehz
      go_wp2_with fail
      rw [EHZ.out]
      have lh := S1.out.ld R (by omega) P hN (by omega)
      have la := S1.out.ld R (by omega) P a (by have := HAM.out; omega)
      have hcg := S1.out.cmp HC.out rfl d[hN]! d[a]!
      have CLS := hid (fun n os => S1.out.grown (enc := enc) n os)
      have hal : a < d.size := by have := HAM.out; omega
      generalize hxh : d[hN]! = xh at lh hcg
      generalize hxa : d[a]! = xa at la hcg
      have HX := hid (And.intro hxh hxa)
      clear hxh hxa S1
      have ea : ((hN : Int)).toNat = hN := by omega
      have pa : (0 : Int) ≤ (hN : Int) := by omega
      have ba : (hN : Int) < (d.size : Int) := by omega
      have ra : IntKind.i64.wrap ((hN : Int)) = (hN : Int) := by rw [IntKind.wrap_i64]; omega
      have ec : ((a : Int)).toNat = a := by omega
      have pc : (0 : Int) ≤ (a : Int) := by omega
      have bc : (a : Int) < (d.size : Int) := by omega
      have rc : IntKind.i64.wrap ((a : Int)) = (a : Int) := by rw [IntKind.wrap_i64]; omega
      by_cases hlv : cf xh xa < 0
      · go_quiet_grown (first | (go_at_fn g; refine Calls.grown_of (hcg _ _)))
        have S2 : Aside _ := CLS.out nq osq
        clear lh la hcg CLS
        generalize grow (wr.drewN nq) osq = w2 at S2 ⊢
        go_wp2
        go_roundg (j - (hN + 1))
        case measure => omega
        case rel =>
          refine ⟨hN + 1, j, by go_num, rfl, by omega, by omega, hjb, Nat.le_refl _, S2, ?_⟩
          have heq := HEQ.out
          rw [bsr, if_pos hlt, ← HHN.out, if_pos (show p hN = true by rw [← HP.out]; show ltOf cf d[hN]! d[a]! = true; rw [HX.out.1, HX.out.2]; exact decide_eq_true hlv)] at heq
          exact heq
      · go_quiet_grown (first | (go_at_fn g; refine Calls.grown_of (hcg _ _)))
        have S2 : Aside _ := CLS.out nq osq
        clear lh la hcg CLS
        generalize grow (wr.drewN nq) osq = w2 at S2 ⊢
        go_wp2
        go_roundg (hN - i)
        case measure => omega
        case rel =>
          refine ⟨i, hN, rfl, rfl, by omega, by omega, by omega, Nat.le_refl _, S2, ?_⟩
          have heq := HEQ.out
          rw [bsr, if_pos hlt, ← HHN.out, if_neg (show ¬ p hN = true by rw [← HP.out]; show ¬ ltOf cf d[hN]! d[a]! = true; rw [HX.out.1, HX.out.2]; simp [ltOf, hlv])] at heq
          exact heq
    · have hltz : ¬ (i : Int) < (j : Int) := by omega
      have hi2 : i = bsr p m b := by
        have heq := HEQ.out
        rw [bsr, if_neg hlt] at heq
        exact heq
      have HI2 := hid hi2
      clear hi2 HEQ
      have him : a + 1 ≤ i := by have := HAM.out; omega
      have hid2 : i ≤ d.size := by omega
      go_wp2
      clear hlt hltz
      go_loopg [13] (i - 1 - a) (fun kx vk wr => ∃ (q : Nat) (dk : Array α), vk = .int .i64 q ∧ a ≤ q ∧ q ≤ i - 1 ∧ i - 1 - q ≤ kx ∧ dk.size = d.size ∧ Aside (SWK enc k w0 blk off dk wr) ∧ shR (i - 1) q dk = shR (i - 1) a d)
      case atStart => exact ⟨a, d, rfl, Nat.le_refl _, by omega, Nat.le_refl _, rfl, S1, rfl⟩
      case round =>
        clear S1
        obtain ⟨q, dk, rfl, haq, hqi, hkx2, hds, S1, heq⟩ := hrel
        have HEQ := hid heq
        clear heq
        by_cases hlt : q < i - 1
        · have hltz : (q : Int) < (i : Int) - 1 := by omega
          go_wp2_with fail
          have ea : ((q : Int)).toNat = q := by omega
          have pa : (0 : Int) ≤ (q : Int) := by omega
          have ba : (q : Int) < (d.size : Int) := by omega
          have ra : IntKind.i64.wrap ((q : Int)) = (q : Int) := by rw [IntKind.wrap_i64]; omega
          have ec : ((q : Int) + 1).toNat = q + 1 := by omega
          have pc : (0 : Int) ≤ (q : Int) + 1 := by omega
          have bc : (q : Int) + 1 < (d.size : Int) := by omega
          have rc : IntKind.i64.wrap ((q : Int) + 1) = (q : Int) + 1 := by rw [IntKind.wrap_i64]; omega
          have S2 : Aside (SWK enc k w0 blk off (swp dk q (q + 1)) ((wr.drew.setCells blk (off + q * k) (enc dk[q + 1]!)).setCells blk (off + (q + 1) * k) (enc dk[q]!))) := S1.out.swapped R q (q + 1) (by omega) (by omega)
          have l44a := S1.out.ld1 R (by omega) P q (by omega)
          have l44b := S1.out.ld1 R (by omega) P (q + 1) (by omega)
          have s44a := S1.out.st1 R (by omega) P q (by omega) dk[q + 1]!
          have s44b := S1.out.st2 R (by omega) P q (q + 1) (by omega) (by omega) dk[q + 1]! dk[q]!
          have n44a : (enc dk[q]!).length = k := R.hk _
          have n44b : (enc dk[q + 1]!).length = k := R.hk _
          generalize enc dk[q]! = cI44 at S2 l44a s44b n44a
          generalize enc dk[q + 1]! = cJ44 at S2 l44b s44a s44b n44b
          clear S1
          go_big_region_o
          clear l44a l44b s44a s44b
          generalize (wr.drew.setCells blk (off + q * k) cJ44).setCells blk (off + (q + 1) * k) cI44 = w2 at S2 ⊢
          go_wp2
          go_roundg (i - 1 - (q + 1))
          case measure => omega
          case rel =>
            have heq := HEQ.out
            rw [shR, if_pos hlt] at heq
            exact ⟨q + 1, swp dk q (q + 1), by go_num, by omega, by omega, Nat.le_refl _, by rw [size_swp]; exact hds, S2, heq⟩
        · have hltz : ¬ (q : Int) < (i : Int) - 1 := by omega
          go_wp2
          refine bodyPost_ret (results_none rfl _ _ _) rfl ?_
          refine ⟨rfl, ?_⟩
          have heq := HEQ.out
          rw [shR, if_neg hlt] at heq
          rw [← HI2.out, ← heq]
          exact S1.out
set_option maxHeartbeats 4000000 in
set_option maxRecDepth 1000000 in
theorem sym2_any (k : Nat) (L : SLay P k) (enc : α → List Value) (cf : α → α → Int) (g : Nat) (cb : Array Value) (blk off cap a m b : Nat) (d0 d : Array α) (w0 w : World)
    (eg : ∀ args w, (callFunc g args).run P w = .ok (.enter g args) w) (hC : CmpLays P g cb enc k cf blk off d.size w0)
    (R : RowK enc k w0 blk off d0) (hs : d0.size = d.size) (S : SWK enc k w0 blk off d w) (ham : a < m) (hne : m ≠ a + 1) (hmb : b = m + 1) (hb : b ≤ d.size) (hsz : d.size < 2305843009213693952) :
    Calls P 108 #[.slice (some ⟨blk, off, none⟩) d.size cap, .int .i64 a, .int .i64 m, .int .i64 b, .func (.func g) #[] cb] w fun e w' => e = .returned (.tuple #[]) ∧ SWK enc k w0 blk off (shL (bsr (fun h => !ltOf cf d[m]! d[h]!) a m) m d) w' := by
  have mixed := L.mixed; have t0 := L.t0; have a0 := L.a0; have z0 := L.z0; have v0 := L.v0; have t3 := L.t3; have a3 := L.a3; have z3 := L.z3; have v3 := L.v3; have t4 := L.t4; have a4 := L.a4; have z4 := L.z4; have v4 := L.v4; have tS := L.tS; have aS := L.aS; have zS := L.zS; have vS := L.vS; have tf := L.tf; have af := L.af; have zf := L.zf; have vf := L.vf; have aE := L.aE; have zE := L.zE; have tu := L.tu; have au := L.au; have zu := L.zu; have vu := L.vu
  have S0 : Aside (SWK enc k w0 blk off d w) := S
  have HC : Aside _ := hC
  clear S hC
  have c1 : ((m : Int) - (a : Int) == 1) = false := by simp; omega
  have c2 : ((b : Int) - (m : Int) == 1) = true := by simp; omega
  have c2' : ((b : Int) - (m : Int)) = 1 := by omega
  have hmd : m < d.size := by omega
  clear hne hmb
  generalize hp : (fun h : Nat => !ltOf cf d[m]! d[h]!) = p
  have HP := hid hp
  clear hp
  go_enter L.f3, Try.ntmps108
  go_wp2
  go_loopg [14, 15] (m - a) (fun kx vi vj wr => ∃ (i j : Nat), vi = .int .i64 i ∧ vj = .int .i64 j ∧ a ≤ i ∧ i ≤ j ∧ j ≤ m ∧ j - i ≤ kx ∧ Aside (SWK enc k w0 blk off d wr) ∧ bsr p i j = bsr p a m)
  case atStart => exact ⟨a, m, rfl, rfl, Nat.le_refl _, by omega, Nat.le_refl _, Nat.le_refl _, S0, rfl⟩
  case round =>
    clear S0
    obtain ⟨i, j, rfl, rfl, hmi, hij, hjb, hkx, S1, heq⟩ := hrel
    have HEQ := hid heq
    clear heq
    by_cases hlt : i < j
    · have hltz : (i : Int) < (j : Int) := by omega
      obtain ⟨hN, hhN⟩ : ∃ hN : Nat, hN = (i + j) / 2 := ⟨_, rfl⟩
      have ehz : ((i : Int) + (j : Int)) / 2 = (hN : Int) := by omega
      have hN1 : i ≤ hN := by omega
      have hN2 : hN < j := by omega
      have HHN := hid hhN
      have EHZ := hid ehz
      clear hhN ehz
      go_wp2_with fail
      rw [EHZ.out]
      have lh := S1.out.ld R (by omega) P hN (by omega)
      have la := S1.out.ld R (by omega) P m (by omega)
      have hcg := S1.out.cmp HC.out rfl d[m]! d[hN]!
      have CLS := hid (fun n os => S1.out.grown (enc := enc) n os)
      generalize hxh : d[hN]! = xh at lh hcg
      generalize hxa : d[m]! = xa at la hcg
      have HX := hid (And.intro hxh hxa)
      clear hxh hxa S1
      have ea : ((hN : Int)).toNat = hN := by omega
      have pa : (0 : Int) ≤ (hN : Int) := by omega
      have ba : (hN : Int) < (d.size : Int) := by omega
      have ra : IntKind.i64.wrap ((hN : Int)) = (hN : Int) := by rw [IntKind.wrap_i64]; omega
      have ec : ((m : Int)).toNat = m := by omega
      have pc : (0 : Int) ≤ (m : Int) := by omega
      have bc : (m : Int) < (d.size : Int) := by omega
      have rc : IntKind.i64.wrap ((m : Int)) = (m : Int) := by rw [IntKind.wrap_i64]; omega
      by_cases hlv : cf xa xh < 0
      · go_quiet_grown (first | (go_at_fn g; refine Calls.grown_of (hcg _ _)))
        have S2 : Aside _ := CLS.out nq osq
        clear lh la hcg CLS
        generalize grow (wr.drewN nq) osq = w2 at S2 ⊢
        go_wp2
        go_roundg (hN - i)
        case measure => omega
        case rel =>
          refine ⟨i, hN, rfl, rfl, by omega, by omega, by omega, Nat.le_refl _, S2, ?_⟩
          have heq := HEQ.out
          rw [bsr, if_pos hlt, ← HHN.out, if_neg (show ¬ p hN = true by rw [← HP.out]; show ¬ (!ltOf cf d[m]! d[hN]!) = true; rw [HX.out.1, HX.out.2]; simp [ltOf, hlv])] at heq
          exact heq
      · go_quiet_grown (first | (go_at_fn g; refine Calls.grown_of (hcg _ _)))
        have S2 : Aside _ := CLS.out nq osq
        clear lh la hcg CLS
        generalize grow (wr.drewN nq) osq = w2 at S2 ⊢
        go_wp2
        go_roundg (j - (hN + 1))
        case measure => omega
        case rel =>
          refine ⟨hN + 1, j, by go_num, rfl, by omega, by omega, hjb, Nat.le_refl _, S2, ?_⟩
          have heq := HEQ.out
          rw [bsr, if_pos hlt, ← HHN.out, if_pos (show p hN = true by rw [← HP.out]; show (!ltOf cf d[m]! d[hN]!) = true; rw [HX.out.1, HX.out.2]; simp [ltOf, hlv])] at heq
          exact heq
    · have hltz : ¬ (i : Int) < (j : Int) := by omega
      have hi2 : i = bsr p a m := by
        have heq := HEQ.out
        rw [bsr, if_neg hlt] at heq
        exact heq
      have HI2 := hid hi2
      clear hi2 HEQ
      go_wp2
      clear hlt hltz
      go_loopg [17] (m - i) (fun kx vk wr => ∃ (q : Nat) (dk : Array α), vk = .int .i64 q ∧ i ≤ q ∧ q ≤ m ∧ q - i ≤ kx ∧ dk.size = d.size ∧ Aside (SWK enc k w0 blk off dk wr) ∧ shL i q dk = shL i m d)
      case atStart => exact ⟨m, d, rfl, by omega, Nat.le_refl _, Nat.le_refl _, rfl, S1, rfl⟩
      case round =>
        clear S1
        obtain ⟨q, dk, rfl, hiq, hqm, hkx2, hds, S1, heq⟩ := hrel
        have HEQ := hid heq
        clear heq
        by_cases hlt : i < q
        · have hltz : (i : Int) < (q : Int) := by omega
          obtain ⟨r, hr⟩ : ∃ r, q = r + 1 := ⟨q - 1, by omega⟩
          subst hr
          have e0 : ((r + 1 : Nat) : Int) - 1 = (r : Int) := by omega
          go_wp2_with fail
          have ea : ((r : Int) + 1).toNat = r + 1 := by omega
          have pa : (0 : Int) ≤ (r : Int) + 1 := by omega
          have ba : (r : Int) + 1 < (d.size : Int) := by omega
          have ra : IntKind.i64.wrap ((r : Int) + 1) = (r : Int) + 1 := by rw [IntKind.wrap_i64]; omega
          have ec : ((r : Int)).toNat = r := by omega
          have pc : (0 : Int) ≤ (r : Int) := by omega
          have bc : (r : Int) < (d.size : Int) := by omega
          have rc : IntKind.i64.wrap ((r : Int)) = (r : Int) := by rw [IntKind.wrap_i64]; omega
          have S2 : Aside (SWK enc k w0 blk off (swp dk (r + 1) r) ((wr.drew.setCells blk (off + (r + 1) * k) (enc dk[r]!)).setCells blk (off + r * k) (enc dk[r + 1]!))) := S1.out.swapped R (r + 1) r (by omega) (by omega)
          have l44a := S1.out.ld1 R (by omega) P (r + 1) (by omega)
          have l44b := S1.out.ld1 R (by omega) P r (by omega)
          have s44a := S1.out.st1 R (by omega) P (r + 1) (by omega) dk[r]!
          have s44b := S1.out.st2 R (by omega) P (r + 1) r (by omega) (by omega) dk[r]! dk[r + 1]!
          have n44a : (enc dk[r + 1]!).length = k := R.hk _
          have n44b : (enc dk[r]!).length = k := R.hk _
          generalize enc dk[r + 1]! = cI44 at S2 l44a s44b n44a
          generalize enc dk[r]! = cJ44 at S2 l44b s44a s44b n44b
          clear S1
          go_big_region_o
          clear l44a l44b s44a s44b
          generalize (wr.drew.setCells blk (off + (r + 1) * k) cJ44).setCells blk (off + r * k) cI44 = w2 at S2 ⊢
          go_wp2
          go_roundg (r - i)
          case measure => omega
          case rel =>
            have heq := HEQ.out
            rw [shL, if_pos hlt] at heq
            exact ⟨r, swp dk (r + 1) r, by first | rfl | go_num | (congr 1; omega), by omega, by omega, Nat.le_refl _, by rw [size_swp]; exact hds, S2, heq⟩
        · have hltz : ¬ (i : Int) < (q : Int) := by omega
          go_wp2
          refine bodyPost_ret (results_none rfl _ _ _) rfl ?_
          refine ⟨rfl, ?_⟩
          have heq := HEQ.out
          have hq : shL i q dk = dk := by
            cases q with
            | zero => rw [shL]
            | succ q => rw [shL, if_neg (by omega)]
          rw [hq] at heq
          rw [← HI2.out, ← heq]
          exact S1.out

end Go.Proofs.Ytpnkkdpggofanaa
