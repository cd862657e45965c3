/- slices' stable sort at a slice of structs, by its walks: stable. -/
import Derived.Test.YtpnkkdpggofanaaStabD
namespace Go.Proofs.Ytpnkkdpggofanaa
open Go.Shelf Go.RowKit Go.Lib Go.Sort Go.Proofs
variable {P : Program} {α : Type} [Inhabited α]

theorem insInner_size (lt : α → α → Bool) (a : Nat) : ∀ (j : Nat) (d : Array α), (insInner lt a j d).size = d.size := by
  intro j
  induction j with
  | zero => intro d; rw [insInner_stop _ _ _ _ (Or.inl (Nat.zero_le _))]
  | succ j ih =>
    intro d
    by_cases h : a < j + 1
    · by_cases h2 : lt d[j + 1]! d[j]! = true
      · have := insInner_go lt a (j + 1) d h (by simp only [Nat.add_sub_cancel]; exact h2)
        simp only [Nat.add_sub_cancel] at this
        rw [this, ih, size_swp]
      · rw [insInner_stop _ _ _ _ (Or.inr (by simp only [Nat.add_sub_cancel]; simpa using h2))]
    · rw [insInner_stop _ _ _ _ (Or.inl (by omega))]

theorem insertion_size (lt : α → α → Bool) (a b : Nat) (d : Array α) : (insertionSort lt d a b).size = d.size := by
  have key : ∀ (r i : Nat) (d : Array α), b - i = r → (insOuter lt a b i d).size = d.size := by
    intro r
    induction r with
    | zero => intro i d h; rw [insOuter_stop _ _ _ _ _ (by omega)]
    | succ r ih => intro i d h; rw [insOuter_go _ _ _ _ _ (by omega), ih _ _ (by omega), insInner_size]
  unfold Sort.insertionSort
  exact key _ _ _ rfl

set_option maxHeartbeats 4000000 in
set_option maxRecDepth 1000000 in
theorem stable_any (k : Nat) (L : SLay P k) (enc : α → List Value) (cf : α → α → Int) (g : Nat) (cb : Array Value) (blk off cap : Nat) (d0 d : Array α) (w0 w : World)
    (eg : ∀ args w, (callFunc g args).run P w = .ok (.enter g args) w) (hC : CmpLays P g cb enc k cf blk off d.size w0)
    (R : RowK enc k w0 blk off d0) (hs : d0.size = d.size) (S : SWK enc k w0 blk off d w) (hsz : d.size < 2305843009213693952) :
    Calls P 89 #[.slice (some ⟨blk, off, none⟩) d.size cap, .int .i64 d.size, .func (.func g) #[] cb] w fun e w' => e = .returned (.tuple #[]) ∧ SWK enc k w0 blk off (stab (ltOf cf) d) w' := by
  have mixed := L.mixed; have t0 := L.t0; have a0 := L.a0; have z0 := L.z0; have v0 := L.v0; have t3 := L.t3; have a3 := L.a3; have z3 := L.z3; have v3 := L.v3; have t4 := L.t4; have a4 := L.a4; have z4 := L.z4; have v4 := L.v4; have tS := L.tS; have aS := L.aS; have zS := L.zS; have vS := L.vS; have tf := L.tf; have af := L.af; have zf := L.zf; have vf := L.vf; have aE := L.aE; have zE := L.zE
  have S0 : Aside (SWK enc k w0 blk off d w) := S
  obtain ⟨n, hn⟩ : ∃ n, n = d.size := ⟨_, rfl⟩
  rw [← hn]
  have HIN := hid (fun (a b : Nat) (dk : Array α) (W : World) (hd : dk.size = n) (S1 : SWK enc k w0 blk off dk W) (h1 : a ≤ b) (h2 : b ≤ n) => show Calls P 107 #[.slice (some ⟨blk, off, none⟩) n cap, .int .i64 a, .int .i64 b, .func (.func g) #[] cb] W fun e w' => e = .returned (.tuple #[]) ∧ SWK enc k w0 blk off (Sort.insertionSort (ltOf cf) dk a b) w' by
    rw [← hd]; exact insertion_any k L enc cf g cb blk off cap a b d0 dk w0 W eg (by rw [hd, hn]; exact hC) R (by omega) S1 h1 (by omega) (by omega))
  have HSY := hid (fun (a m b : Nat) (dk : Array α) (W : World) (hd : dk.size = n) (S1 : SWK enc k w0 blk off dk W) (h1 : a < m) (h2 : m < b) (h3 : b ≤ n) => symM_any k L enc cf g cb blk off cap n d0 w0 eg (by rw [hn]; exact hC) R (by omega) (by omega) n a m b dk W hd (by omega) h1 h2 h3 S1)
  have HST := hid (show stab (ltOf cf) d = stRounds (ltOf cf) n n 20 (stBlk (ltOf cf) n 0 d) by rw [hn]; rfl)
  have e1 : ∀ args w, (callFunc 107 args).run P w = .ok (.enter 107 args) w := enters_of L.f4 (by kernel_rfl) rfl
  have e2 : ∀ args w, (callFunc 108 args).run P w = .ok (.enter 108 args) w := enters_of L.f3 (by kernel_rfl) rfl
  have hd0 : Hid (d.size = n) := hn.symm
  have hsz2 : n < 2305843009213693952 := by omega
  clear S hC R hs hsz hn
  go_enter L.f5, Try.ntmps89
  go_wp2
  go_loopg [7, 8] n (fun kx va vb wr => ∃ (x : Nat) (dk : Array α), va = .int .i64 x ∧ vb = .int .i64 ((x : Int) + 20) ∧ x ≤ n ∧ n - x ≤ kx ∧ Hid (dk.size = n) ∧ Aside (SWK enc k w0 blk off dk wr) ∧ Hid (stBlk (ltOf cf) n x dk = stBlk (ltOf cf) n 0 d))
  case atStart => exact ⟨0, d, rfl, rfl, by omega, by omega, hd0, S0, rfl⟩
  case round =>
    clear S0
    obtain ⟨x, dk, rfl, rfl, hxn, hkx, HDS, S1, HEQ⟩ := hrel
    by_cases hlt : x + 20 ≤ n
    · have hltz : (x : Int) + 20 ≤ (n : Int) := by omega
      go_wp2_with fail
      refine (HIN.out x (x + 20) dk wr HDS.out S1.out (by omega) hlt).mono ?_
      rintro e w1 ⟨rfl, Sx⟩
      have S2 : Aside (SWK enc k w0 blk off (Sort.insertionSort (ltOf cf) dk x (x + 20)) w1) := Sx
      clear Sx S1
      have HD2 : Hid ((Sort.insertionSort (ltOf cf) dk x (x + 20)).size = n) := (insertion_size _ _ _ _).trans HDS.out
      go_wp2
      go_roundg (n - (x + 20))
      case measure => omega
      case rel =>
        refine ⟨x + 20, _, by go_num, by go_num, hlt, Nat.le_refl _, HD2, S2, (show Hid _ from ?_)⟩
        show _ = _
        rw [← HEQ.out]
        conv => rhs; rw [stBlk, if_pos hlt]
    · have hltz : ¬ (x : Int) + 20 ≤ (n : Int) := by omega
      go_wp2_with fail
      refine (HIN.out x n dk wr HDS.out S1.out hxn (Nat.le_refl _)).mono ?_
      rintro e w1 ⟨rfl, Sx⟩
      have S2 : Aside (SWK enc k w0 blk off (Sort.insertionSort (ltOf cf) dk x n) w1) := Sx
      have HD2 : Hid ((Sort.insertionSort (ltOf cf) dk x n).size = n) := (insertion_size _ _ _ _).trans HDS.out
      have HE2 : Hid (Sort.insertionSort (ltOf cf) dk x n = stBlk (ltOf cf) n 0 d) := by
        show _ = _
        rw [← HEQ.out, stBlk, if_neg hlt]
      clear Sx S1 HEQ
      rw [HE2.out] at S2 HD2
      generalize stBlk (ltOf cf) n 0 d = d1 at S2 HD2 HST
      clear HE2 HDS hlt hltz hkx hxn
      go_wp2
      go_loopg [6] n (fun kx vz wr => ∃ (z : Nat) (dk : Array α), vz = .int .i64 z ∧ 0 < z ∧ n - z ≤ kx ∧ z ≤ 2 * n + 20 ∧ Hid (dk.size = n) ∧ Aside (SWK enc k w0 blk off dk wr) ∧ Hid (stRounds (ltOf cf) n n z dk = stRounds (ltOf cf) n n 20 d1))
      case atStart => exact ⟨20, d1, rfl, by omega, by omega, by omega, HD2, S2, rfl⟩
      case round =>
        clear S2 HD2
        rename World => wo
        obtain ⟨z, dz, rfl, hz, hkz, hz2, HDZ, SZ, HEZ⟩ := hrel
        by_cases hzn : z < n
        · have hznz : (z : Int) < (n : Int) := by omega
          go_wp2
          go_loopg [7, 8] n (fun kx va vb wr => ∃ (x : Nat) (dk : Array α), va = .int .i64 x ∧ vb = .int .i64 ((x : Int) + 2 * (z : Int)) ∧ x ≤ n ∧ n - x ≤ kx ∧ Hid (dk.size = n) ∧ Aside (SWK enc k w0 blk off dk wr) ∧ Hid (stPass (ltOf cf) n z n x dk = stPass (ltOf cf) n z n 0 dz))
          case atStart => exact ⟨0, dz, rfl, by go_num, by omega, by omega, HDZ, SZ, rfl⟩
          case round =>
            clear SZ HDZ
            obtain ⟨x, dk, rfl, rfl, hxn, hkx, HDS, S1, HEQ⟩ := hrel
            by_cases hlt : x + 2 * z ≤ n
            · have hltz : (x : Int) + 2 * (z : Int) ≤ (n : Int) := by omega
              go_wp2_with fail
              refine (HSY.out x (x + z) (x + 2 * z) dk wr HDS.out S1.out (by omega) (by omega) hlt).mono ?_
              rintro e w1 ⟨rfl, Sx⟩
              have S2 : Aside (SWK enc k w0 blk off (symM (ltOf cf) n x (x + z) (x + 2 * z) dk) w1) := Sx
              clear Sx S1
              have HD2 : Hid ((symM (ltOf cf) n x (x + z) (x + 2 * z) dk).size = n) := (symM_perm (ltOf cf) n x (x + z) (x + 2 * z) dk (by omega) (by omega) (by rw [HDS.out]; exact hlt)).1.trans HDS.out
              go_wp2
              go_roundg (n - (x + 2 * z))
              case measure => omega
              case rel =>
                refine ⟨x + 2 * z, _, by go_num, by go_num, hlt, Nat.le_refl _, HD2, S2, (show Hid _ from ?_)⟩
                show _ = _
                rw [← HEQ.out]
                conv => rhs; rw [stPass, dif_pos ⟨hlt, hz⟩]
            · have hltz : ¬ (x : Int) + 2 * (z : Int) ≤ (n : Int) := by omega
              by_cases hm : x + z < n
              · have hmz : (x : Int) + (z : Int) < (n : Int) := by omega
                go_wp2_with fail
                refine (HSY.out x (x + z) n dk wr HDS.out S1.out (by omega) hm (Nat.le_refl _)).mono ?_
                rintro e w1 ⟨rfl, Sx⟩
                have S2 : Aside (SWK enc k w0 blk off (symM (ltOf cf) n x (x + z) n dk) w1) := Sx
                clear Sx S1
                have HD2 : Hid ((symM (ltOf cf) n x (x + z) n dk).size = n) := (symM_perm (ltOf cf) n x (x + z) n dk (by omega) (by omega) (by rw [HDS.out]; exact Nat.le_refl _)).1.trans HDS.out
                go_wp2
                go_roundg (n - z * 2)
                case measure => omega
                case rel =>
                  refine ⟨z * 2, _, by go_num, by omega, Nat.le_refl _, by omega, HD2, S2, (show Hid _ from ?_)⟩
                  show _ = _
                  rw [← HEZ.out]
                  conv => rhs; rw [stRounds, dif_pos ⟨hzn, hz⟩, ← HEQ.out, stPass, dif_neg (fun h => hlt h.1), if_pos hm]
              · have hmz : ¬ (x : Int) + (z : Int) < (n : Int) := by omega
                go_wp2
                go_roundg (n - z * 2)
                case measure => omega
                case rel =>
                  refine ⟨z * 2, _, by go_num, by omega, Nat.le_refl _, by omega, HDS, S1, (show Hid _ from ?_)⟩
                  show _ = _
                  rw [← HEZ.out]
                  conv => rhs; rw [stRounds, dif_pos ⟨hzn, hz⟩, ← HEQ.out, stPass, dif_neg (fun h => hlt h.1), if_neg hm]
        · have hznz : ¬ (z : Int) < (n : Int) := by omega
          go_wp2
          go_end0
          refine ⟨rfl, ?_⟩
          rw [HST.out, ← HEZ.out, stRounds, dif_neg (fun h => hzn h.1)]
          exact SZ.out
end Go.Proofs.Ytpnkkdpggofanaa
