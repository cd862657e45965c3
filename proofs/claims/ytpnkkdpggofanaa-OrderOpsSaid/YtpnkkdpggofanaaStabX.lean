/- slices' stable sort at a slice of structs, by its walks: symMerge. slices' stable sort at a slice of structs, by its walks: symMerge to any depth, insertionSort. slices' stable sort at a slice of structs, by its walks: stable. -/
import Derived.Test.YtpnkkdpggofanaaStabW
import Derived.Deep.Cut
namespace Go.Proofs.Ytpnkkdpggofanaa
open Go.Shelf Go.RowKit Go.Lib Go.Sort Go.Proofs
variable {P : Program} {α : Type} [Inhabited α]

theorem symS_eq (lt : α → α → Bool) (a m b lo hi : Nat) (d : Array α) (h1 : (a + b) / 2 < m → lo = (a + b) / 2 + m - b ∧ hi = (a + b) / 2) (h2 : ¬ (a + b) / 2 < m → lo = a ∧ hi = m) :
    symS lt a m b d = bsr (fun c => !lt d[(a + b) / 2 + m - 1 - c]! d[c]!) lo hi := by
  unfold symS
  by_cases h : m > (a + b) / 2
  · rw [if_pos h, (h1 h).1, (h1 h).2]
  · rw [if_neg h, (h2 h).1, (h2 h).2]

theorem symM_perm (lt : α → α → Bool) : ∀ (N a m b : Nat) (d : Array α), a < m → m < b → b ≤ d.size → PermIn a b d (symM lt N a m b d) := by
  intro N
  induction N with
  | zero => intro a m b d _ _ _; exact permIn_refl _ _ _
  | succ N ih =>
    intro a m b d h1 h2 hb
    rw [symM]
    by_cases c1 : m - a = 1
    · rw [if_pos c1]
      have := bsr_rng (fun h => lt d[h]! d[a]!) _ m b (Nat.le_refl _) (by omega)
      exact shR_perm a b _ _ a d rfl (by omega) (by omega) hb
    · rw [if_neg c1]
      by_cases c2 : b - m = 1
      · rw [if_pos c2]
        have := bsr_rng (fun h => !lt d[m]! d[h]!) _ a m (Nat.le_refl _) (by omega)
        exact shL_perm a b _ m d (by omega) (by omega) hb
      · rw [if_neg c2]
        simp only
        obtain ⟨r1, r2, r3, r4⟩ := symS_rng (lt := lt) a m b d h1 h2
        have pD := (symD_spec (lt := lt) a m b d h1 h2 hb).1
        generalize symD lt a m b d = d1 at *
        generalize symS lt a m b d = s at *
        have hb1 : b ≤ d1.size := by rw [pD.1]; exact hb
        obtain ⟨d2, hd2⟩ : ∃ d2, d2 = (if a < s ∧ s < (a + b) / 2 then symM lt N a s ((a + b) / 2) d1 else d1) := ⟨_, rfl⟩
        have P2 : PermIn a ((a + b) / 2) d1 d2 := by
          rw [hd2]
          by_cases k : a < s ∧ s < (a + b) / 2
          · rw [if_pos k]; exact ih a s ((a + b) / 2) d1 k.1 k.2 (by omega)
          · rw [if_neg k]; exact permIn_refl _ _ _
        rw [← hd2]
        have hb2 : b ≤ d2.size := by rw [P2.1]; exact hb1
        have P3 : PermIn ((a + b) / 2) b d2 (if (a + b) / 2 < (a + b) / 2 + m - s ∧ (a + b) / 2 + m - s < b then symM lt N ((a + b) / 2) ((a + b) / 2 + m - s) b d2 else d2) := by
          by_cases k : (a + b) / 2 < (a + b) / 2 + m - s ∧ (a + b) / 2 + m - s < b
          · rw [if_pos k]; exact ih ((a + b) / 2) ((a + b) / 2 + m - s) b d2 k.1 k.2 hb2
          · rw [if_neg k]; exact permIn_refl _ _ _
        exact permIn_trans _ _ _ _ _ pD (permIn_trans _ _ _ _ _ (permIn_mono _ _ a ((a + b) / 2) a b (by omega) (by omega) hb1 P2) (permIn_mono _ _ ((a + b) / 2) b a b (by omega) (by omega) hb2 P3))

/-- symMerge's contract, as deep as N. -/
def SymAt (P : Program) (k : Nat) (enc : α → List Value) (cf : α → α → Int) (g : Nat) (cb : Array Value) (blk off cap n : Nat) (w0 : World) (N : Nat) : Prop :=
  ∀ (a m b : Nat) (d : Array α) (w : World), d.size = n → b - a ≤ N → a < m → m < b → b ≤ n → SWK enc k w0 blk off d w →
    Calls P 108 #[.slice (some ⟨blk, off, none⟩) n cap, .int .i64 a, .int .i64 m, .int .i64 b, .func (.func g) #[] cb] w fun e w' => e = .returned (.tuple #[]) ∧ SWK enc k w0 blk off (symM (ltOf cf) N a m b d) w'

set_option maxHeartbeats 8000000 in
set_option maxRecDepth 1000000 in
theorem sym3_any (k : Nat) (L : SLay P k) (enc : α → List Value) (cf : α → α → Int) (g : Nat) (cb : Array Value) (blk off cap N a m b : Nat) (d0 d : Array α) (w0 w : World)
    (eg : ∀ args w, (callFunc g args).run P w = .ok (.enter g args) w) (hC : CmpLays P g cb enc k cf blk off d.size w0)
    (R : RowK enc k w0 blk off d0) (hs : d0.size = d.size) (S : SWK enc k w0 blk off d w) (hN : b - a ≤ N + 1) (ham : a < m) (hne : m - a ≠ 1) (hmb : m < b) (hne2 : b - m ≠ 1) (hb : b ≤ d.size) (hsz : d.size < 2305843009213693952)
    (IH : SymAt P k enc cf g cb blk off cap d.size w0 N) :
    Calls P 108 #[.slice (some ⟨blk, off, none⟩) d.size cap, .int .i64 a, .int .i64 m, .int .i64 b, .func (.func g) #[] cb] w fun e w' => e = .returned (.tuple #[]) ∧ SWK enc k w0 blk off (symM (ltOf cf) (N + 1) a m b d) w' := by
  have mixed := L.mixed; have t0 := L.t0; have a0 := L.a0; have z0 := L.z0; have v0 := L.v0; have t3 := L.t3; have a3 := L.a3; have z3 := L.z3; have v3 := L.v3; have t4 := L.t4; have a4 := L.a4; have z4 := L.z4; have v4 := L.v4; have tS := L.tS; have aS := L.aS; have zS := L.zS; have vS := L.vS; have tf := L.tf; have af := L.af; have zf := L.zf; have vf := L.vf; have aE := L.aE; have zE := L.zE; have tu := L.tu; have au := L.au; have zu := L.zu; have vu := L.vu
  have S0 : Aside (SWK enc k w0 blk off d w) := S
  have HC : Aside _ := hC
  have HI := hid IH
  have e1 : ∀ args w, (callFunc 116 args).run P w = .ok (.enter 116 args) w := enters_of L.f2 (by kernel_rfl) rfl
  have e2 : ∀ args w, (callFunc 108 args).run P w = .ok (.enter 108 args) w := enters_of L.f3 (by kernel_rfl) rfl
  obtain ⟨rS1, rS2, rS3, rS4⟩ := symS_rng (lt := ltOf cf) a m b d ham hmb
  have HU : Hid (symM (ltOf cf) (N + 1) a m b d = (if (a + b) / 2 < (a + b) / 2 + m - symS (ltOf cf) a m b d ∧ (a + b) / 2 + m - symS (ltOf cf) a m b d < b then symM (ltOf cf) N ((a + b) / 2) ((a + b) / 2 + m - symS (ltOf cf) a m b d) b (if a < symS (ltOf cf) a m b d ∧ symS (ltOf cf) a m b d < (a + b) / 2 then symM (ltOf cf) N a (symS (ltOf cf) a m b d) ((a + b) / 2) (symD (ltOf cf) a m b d) else symD (ltOf cf) a m b d) else (if a < symS (ltOf cf) a m b d ∧ symS (ltOf cf) a m b d < (a + b) / 2 then symM (ltOf cf) N a (symS (ltOf cf) a m b d) ((a + b) / 2) (symD (ltOf cf) a m b d) else symD (ltOf cf) a m b d))) := by
    show _ = _
    rw [symM, if_neg hne, if_neg hne2]
  have HD : Hid (symD (ltOf cf) a m b d = if symS (ltOf cf) a m b d < m ∧ m < (a + b) / 2 + m - symS (ltOf cf) a m b d then rotL m (m - symS (ltOf cf) a m b d) ((a + b) / 2 + m - symS (ltOf cf) a m b d - m) d else d) := rfl
  have hpD := hid (symD_spec (lt := ltOf cf) a m b d ham hmb hb).1.1
  obtain ⟨lo, hi, hl1, hl2⟩ : ∃ lo hi, ((a + b) / 2 < m → lo = (a + b) / 2 + m - b ∧ hi = (a + b) / 2) ∧ (¬ (a + b) / 2 < m → lo = a ∧ hi = m) :=
    ⟨if (a + b) / 2 < m then (a + b) / 2 + m - b else a, if (a + b) / 2 < m then (a + b) / 2 else m, fun h => by rw [if_pos h, if_pos h]; exact ⟨rfl, rfl⟩, fun h => by rw [if_neg h, if_neg h]; exact ⟨rfl, rfl⟩⟩
  have HSE := hid (symS_eq (ltOf cf) a m b lo hi d hl1 hl2)
  generalize symM (ltOf cf) (N + 1) a m b d = RES at *
  generalize symD (ltOf cf) a m b d = D1 at *
  generalize symS (ltOf cf) a m b d = s at *
  generalize hmid : (a + b) / 2 = mid at *
  have EM := hid (show ((a : Int) + (b : Int)) / 2 = (mid : Int) by omega)
  have hm1 : a < mid := by omega
  have hm2 : mid < b := by omega
  have hm3 : mid - a ≤ N := by omega
  have hm4 : b - mid ≤ N := by omega
  have hlohi : a ≤ lo ∧ lo ≤ hi ∧ hi ≤ m ∧ hi ≤ mid ∧ mid + m - b ≤ lo := by
    by_cases h : mid < m
    · have := hl1 h; omega
    · have := hl2 h; omega
  have HL1 := hid hl1
  have HL2 := hid hl2
  have HNN := hid (And.intro hne (And.intro hne2 hN))
  have c1 : ((m : Int) - (a : Int) == 1) = false := by simp; omega
  have c2 : ((b : Int) - (m : Int) == 1) = false := by simp; omega
  generalize hp : (fun c : Nat => !ltOf cf d[mid + m - 1 - c]! d[c]!) = p at HSE
  have HP := hid hp
  clear hp S hC IH hl1 hl2 hne hne2 hN hmid
  go_enter L.f3, Try.ntmps108
  go_upto_region 25 with fail
  rw [EM.out]
  by_cases hmm : mid < m
  all_goals
    first
      | (have hq := HL1.out hmm; have hmmz : (mid : Int) < (m : Int) := by omega)
      | (have hq := HL2.out hmm; have hmmz : ¬ (mid : Int) < (m : Int) := by omega)
    have HQ := hid hq
    clear hq
    go_wp2_with fail
    go_loopg [20, 21] (hi - lo) (fun kx vi vj wr => ∃ (i j : Nat), vi = .int .i64 i ∧ vj = .int .i64 j ∧ lo ≤ i ∧ i ≤ j ∧ j ≤ hi ∧ j - i ≤ kx ∧ Aside (SWK enc k w0 blk off d wr) ∧ bsr p i j = bsr p lo hi)
    case atStart => exact ⟨lo, hi, by have h := HQ.out; have e := EM.out; rw [Value.int.injEq]; exact ⟨rfl, by omega⟩, by have h := HQ.out; have e := EM.out; rw [Value.int.injEq]; exact ⟨rfl, by omega⟩, Nat.le_refl _, by omega, Nat.le_refl _, Nat.le_refl _, S0, rfl⟩
    case round =>
      clear S0
      obtain ⟨i, j, rfl, rfl, hmi, hij, hjb, hkx, S1, heq⟩ := hrel
      have HEQ := hid heq
      clear heq
      by_cases hlt : i < j
      · have hltz : (i : Int) < (j : Int) := by omega
        obtain ⟨hN, hhN⟩ : ∃ hN : Nat, hN = (i + j) / 2 := ⟨_, rfl⟩
        have ehz : ((i : Int) + (j : Int)) / 2 = (hN : Int) := by omega
        have hN1 : i ≤ hN := by omega
        have hN2 : hN < j := by omega
        have HHN := hid hhN
        have EHZ := hid ehz
        clear hhN ehz
        go_wp2_with fail
        rw [EHZ.out]
        have lh := S1.out.ld R (by omega) P hN (by omega)
        have la := S1.out.ld R (by omega) P (mid + m - 1 - hN) (by omega)
        have hcg := S1.out.cmp HC.out rfl d[mid + m - 1 - hN]! d[hN]!
        have CLS := hid (fun n os => S1.out.grown (enc := enc) n os)
        generalize hxh : d[hN]! = xh at lh hcg
        generalize hxa : d[mid + m - 1 - hN]! = xa at la hcg
        have HX := hid (And.intro hxh hxa)
        clear hxh hxa S1
        have ea : ((hN : Int)).toNat = hN := by omega
        have pa : (0 : Int) ≤ (hN : Int) := by omega
        have ba : (hN : Int) < (d.size : Int) := by omega
        have ra : IntKind.i64.wrap ((hN : Int)) = (hN : Int) := by rw [IntKind.wrap_i64]; omega
        obtain ⟨q, hq⟩ : ∃ q : Nat, q = mid + m - 1 - hN := ⟨_, rfl⟩
        have eqz : (mid : Int) + (m : Int) - 1 - (hN : Int) = (q : Int) := by omega
        rw [← hq] at la
        have ec : ((q : Int)).toNat = q := by omega
        have pc : (0 : Int) ≤ (q : Int) := by omega
        have bc : (q : Int) < (d.size : Int) := by omega
        have rc : IntKind.i64.wrap ((q : Int)) = (q : Int) := by rw [IntKind.wrap_i64]; omega
        have HQ2 := hid hq
        clear hq
        by_cases hlv : cf xa xh < 0
        · go_quiet_grown (first | (go_at_fn g; refine Calls.grown_of (hcg _ _)))
          have S2 : Aside _ := CLS.out nq osq
          clear lh la hcg CLS
          generalize grow (wr.drewN nq) osq = w2 at S2 ⊢
          go_wp2
          go_roundg (hN - i)
          case measure => omega
          case rel =>
            refine ⟨i, hN, rfl, rfl, by omega, by omega, by omega, Nat.le_refl _, S2, ?_⟩
            have heq := HEQ.out
            rw [bsr, if_pos hlt, ← HHN.out, if_neg (show ¬ p hN = true by rw [← HP.out]; show ¬ (!ltOf cf d[mid + m - 1 - hN]! d[hN]!) = true; rw [HX.out.1, HX.out.2]; simp [ltOf, hlv])] at heq
            exact heq
        · go_quiet_grown (first | (go_at_fn g; refine Calls.grown_of (hcg _ _)))
          have S2 : Aside _ := CLS.out nq osq
          clear lh la hcg CLS
          generalize grow (wr.drewN nq) osq = w2 at S2 ⊢
          go_wp2
          go_roundg (j - (hN + 1))
          case measure => omega
          case rel =>
            refine ⟨hN + 1, j, by go_num, rfl, by omega, by omega, hjb, Nat.le_refl _, S2, ?_⟩
            have heq := HEQ.out
            rw [bsr, if_pos hlt, ← HHN.out, if_pos (show p hN = true by rw [← HP.out]; show (!ltOf cf d[mid + m - 1 - hN]! d[hN]!) = true; rw [HX.out.1, HX.out.2]; simp [ltOf, hlv])] at heq
            exact heq
      · have hltz : ¬ (i : Int) < (j : Int) := by omega
        have hi2 : i = s := by
          have heq := HEQ.out
          rw [bsr, if_neg hlt, ← HSE.out] at heq
          exact heq
        subst hi2
        clear HEQ hlt
        have hi3 := HNN.out
        obtain ⟨e, he⟩ : ∃ e : Nat, e = mid + m - i := ⟨_, rfl⟩
        have eez : (mid : Int) + (m : Int) - (i : Int) = (e : Int) := by omega
        have HE := hid he
        have EE := hid eez
        have HUE := hid (And.intro he (And.intro HU HD))
        clear he
        go_upto_region 39 with fail
        have bsz : D1.size = d.size := hpD.out
        have HQ1 := hid (fun w1 (S1 : SWK enc k w0 blk off D1 w1) (h1 : i < mid) (h2 : a < i) => HI.out a i mid D1 w1 bsz hm3 h2 h1 (by omega) S1)
        have HQ2 := hid (fun (D : Array α) w1 (hD : D.size = d.size) (S1 : SWK enc k w0 blk off D w1) (h1 : mid < e) (h2 : e < b) => HI.out mid e b D w1 hD hm4 h1 h2 hb S1)
        have HP1 := hid (fun (h1 : i < mid) (h2 : a < i) => (symM_perm (ltOf cf) N a i mid D1 h2 h1 (by omega)).1.trans bsz)
        have he := HUE.out.1
        have HU2 := HU.out
        have HD2 := HD.out
        rw [← he] at HU2 HD2
        have HU3 := hid HU2
        have HD3 := hid HD2
        clear HU HD HU2 HD2
        clear bsz he eez hi3
        by_cases z1 : i < m
        · by_cases z4 : i < mid
          · have xx := HE.out
            have qa : (i : Int) < (m : Int) := by omega
            have qb : (m : Int) < (e : Int) := by omega
            have HA := hid (show i < m ∧ m < e by omega)
            have rr := rotate_any k L enc g cb blk off cap i m e d0 d w0 wr R hs S1.out z1 (by omega) (by omega) (by omega)
            have HRR := hid rr
            clear xx rr
            go_wp2_with fail
            refine HRR.out.mono ?_
            rintro ee wa ⟨rfl, Sa⟩
            have SA : Aside (SWK enc k w0 blk off D1 wa) := by have h := HD3.out; rw [if_pos HA.out] at h; rw [h]; exact Sa
            clear Sa S1 HRR
            by_cases z3 : a < i
            · by_cases z6 : e < b
              · have xx := HE.out
                have b1 : (a : Int) < (i : Int) := by omega
                have b2 : (i : Int) < (mid : Int) := by omega
                have f1 : (mid : Int) < (e : Int) := by omega
                have f2 : (e : Int) < (b : Int) := by omega
                have HB := hid (show a < i ∧ i < mid by omega)
                have HC2 := hid (show mid < e ∧ e < b by omega)
                have HU4 := HU3.out
                rw [if_pos HB.out] at HU4
                rw [if_pos HC2.out] at HU4
                have HU5 := hid HU4
                clear xx HU4
                go_wp2_with fail
                refine (HQ1.out wa SA.out HB.out.2 HB.out.1).mono ?_
                rintro ee wb ⟨rfl, Sb⟩
                have SB : Aside (SWK enc k w0 blk off (symM (ltOf cf) N a i mid D1) wb) := Sb
                clear Sb
                have SZB := hid (HP1.out HB.out.2 HB.out.1)
                go_wp2_with fail
                refine (HQ2.out (symM (ltOf cf) N a i mid D1) wb SZB.out SB.out HC2.out.1 HC2.out.2).mono ?_
                rintro ee wc ⟨rfl, Sc⟩
                have SC : Aside (SWK enc k w0 blk off (symM (ltOf cf) N mid e b (symM (ltOf cf) N a i mid D1)) wc) := Sc
                clear Sc
                go_wp2
                all_goals (go_end0; refine ⟨rfl, ?_⟩; rw [HU5.out]; exact SC.out)
              · have xx := HE.out
                have b1 : (a : Int) < (i : Int) := by omega
                have b2 : (i : Int) < (mid : Int) := by omega
                have f1 : (mid : Int) < (e : Int) := by omega
                have f2 : ¬ (e : Int) < (b : Int) := by omega
                have HB := hid (show a < i ∧ i < mid by omega)
                have HC2 := hid (show ¬ (mid < e ∧ e < b) by omega)
                have HU4 := HU3.out
                rw [if_pos HB.out] at HU4
                rw [if_neg HC2.out] at HU4
                have HU5 := hid HU4
                clear xx HU4
                go_wp2_with fail
                refine (HQ1.out wa SA.out HB.out.2 HB.out.1).mono ?_
                rintro ee wb ⟨rfl, Sb⟩
                have SB : Aside (SWK enc k w0 blk off (symM (ltOf cf) N a i mid D1) wb) := Sb
                clear Sb
                have SZB := hid (HP1.out HB.out.2 HB.out.1)
                go_wp2
                all_goals (go_end0; refine ⟨rfl, ?_⟩; rw [HU5.out]; exact SB.out)
            · by_cases z6 : e < b
              · have xx := HE.out
                have b1 : ¬ (a : Int) < (i : Int) := by omega
                have f1 : (mid : Int) < (e : Int) := by omega
                have f2 : (e : Int) < (b : Int) := by omega
                have HB := hid (show ¬ (a < i ∧ i < mid) by omega)
                have HC2 := hid (show mid < e ∧ e < b by omega)
                have HU4 := HU3.out
                rw [if_neg HB.out] at HU4
                rw [if_pos HC2.out] at HU4
                have HU5 := hid HU4
                clear xx HU4
                go_wp2_with fail
                refine (HQ2.out D1 wa hpD.out SA.out HC2.out.1 HC2.out.2).mono ?_
                rintro ee wc ⟨rfl, Sc⟩
                have SC : Aside (SWK enc k w0 blk off (symM (ltOf cf) N mid e b D1) wc) := Sc
                clear Sc
                go_wp2
                all_goals (go_end0; refine ⟨rfl, ?_⟩; rw [HU5.out]; exact SC.out)
              · have xx := HE.out
                have b1 : ¬ (a : Int) < (i : Int) := by omega
                have f1 : (mid : Int) < (e : Int) := by omega
                have f2 : ¬ (e : Int) < (b : Int) := by omega
                have HB := hid (show ¬ (a < i ∧ i < mid) by omega)
                have HC2 := hid (show ¬ (mid < e ∧ e < b) by omega)
                have HU4 := HU3.out
                rw [if_neg HB.out] at HU4
                rw [if_neg HC2.out] at HU4
                have HU5 := hid HU4
                clear xx HU4
                go_wp2
                all_goals (go_end0; refine ⟨rfl, ?_⟩; rw [HU5.out]; exact SA.out)
          · have xx := HE.out
            have qa : (i : Int) < (m : Int) := by omega
            have qb : ¬ (m : Int) < (e : Int) := by omega
            have HA := hid (show ¬ (i < m ∧ m < e) by omega)
            have SA : Aside (SWK enc k w0 blk off D1 wr) := by have h := HD3.out; rw [if_neg HA.out] at h; rw [h]; exact S1.out
            clear S1 xx
            by_cases z6 : e < b
            · have xx := HE.out
              have b1 : (a : Int) < (i : Int) := by omega
              have b2 : ¬ (i : Int) < (mid : Int) := by omega
              have f1 : (mid : Int) < (e : Int) := by omega
              have f2 : (e : Int) < (b : Int) := by omega
              have HB := hid (show ¬ (a < i ∧ i < mid) by omega)
              have HC2 := hid (show mid < e ∧ e < b by omega)
              have HU4 := HU3.out
              rw [if_neg HB.out] at HU4
              rw [if_pos HC2.out] at HU4
              have HU5 := hid HU4
              clear xx HU4
              go_wp2_with fail
              refine (HQ2.out D1 wr hpD.out SA.out HC2.out.1 HC2.out.2).mono ?_
              rintro ee wc ⟨rfl, Sc⟩
              have SC : Aside (SWK enc k w0 blk off (symM (ltOf cf) N mid e b D1) wc) := Sc
              clear Sc
              go_wp2
              all_goals (go_end0; refine ⟨rfl, ?_⟩; rw [HU5.out]; exact SC.out)
            · have xx := HE.out
              have b1 : (a : Int) < (i : Int) := by omega
              have b2 : ¬ (i : Int) < (mid : Int) := by omega
              have f1 : (mid : Int) < (e : Int) := by omega
              have f2 : ¬ (e : Int) < (b : Int) := by omega
              have HB := hid (show ¬ (a < i ∧ i < mid) by omega)
              have HC2 := hid (show ¬ (mid < e ∧ e < b) by omega)
              have HU4 := HU3.out
              rw [if_neg HB.out] at HU4
              rw [if_neg HC2.out] at HU4
              have HU5 := hid HU4
              clear xx HU4
              go_wp2
              all_goals (go_end0; refine ⟨rfl, ?_⟩; rw [HU5.out]; exact SA.out)
        · have xx := HE.out
          have qa : ¬ (i : Int) < (m : Int) := by omega
          have HA := hid (show ¬ (i < m ∧ m < e) by omega)
          have SA : Aside (SWK enc k w0 blk off D1 wr) := by have h := HD3.out; rw [if_neg HA.out] at h; rw [h]; exact S1.out
          clear S1 xx
          by_cases z3 : a < i
          · by_cases z4 : i < mid
            · have xx := HE.out
              have b1 : (a : Int) < (i : Int) := by omega
              have b2 : (i : Int) < (mid : Int) := by omega
              have f1 : ¬ (mid : Int) < (e : Int) := by omega
              have HB := hid (show a < i ∧ i < mid by omega)
              have HC2 := hid (show ¬ (mid < e ∧ e < b) by omega)
              have HU4 := HU3.out
              rw [if_pos HB.out] at HU4
              rw [if_neg HC2.out] at HU4
              have HU5 := hid HU4
              clear xx HU4
              go_wp2_with fail
              refine (HQ1.out wr SA.out HB.out.2 HB.out.1).mono ?_
              rintro ee wb ⟨rfl, Sb⟩
              have SB : Aside (SWK enc k w0 blk off (symM (ltOf cf) N a i mid D1) wb) := Sb
              clear Sb
              have SZB := hid (HP1.out HB.out.2 HB.out.1)
              go_wp2
              all_goals (go_end0; refine ⟨rfl, ?_⟩; rw [HU5.out]; exact SB.out)
            · have xx := HE.out
              have b1 : (a : Int) < (i : Int) := by omega
              have b2 : ¬ (i : Int) < (mid : Int) := by omega
              have f1 : ¬ (mid : Int) < (e : Int) := by omega
              have HB := hid (show ¬ (a < i ∧ i < mid) by omega)
              have HC2 := hid (show ¬ (mid < e ∧ e < b) by omega)
              have HU4 := HU3.out
              rw [if_neg HB.out] at HU4
              rw [if_neg HC2.out] at HU4
              have HU5 := hid HU4
              clear xx HU4
              go_wp2
              all_goals (go_end0; refine ⟨rfl, ?_⟩; rw [HU5.out]; exact SA.out)
          · have xx := HE.out
            have b1 : ¬ (a : Int) < (i : Int) := by omega
            have f1 : ¬ (mid : Int) < (e : Int) := by omega
            have HB := hid (show ¬ (a < i ∧ i < mid) by omega)
            have HC2 := hid (show ¬ (mid < e ∧ e < b) by omega)
            have HU4 := HU3.out
            rw [if_neg HB.out] at HU4
            rw [if_neg HC2.out] at HU4
            have HU5 := hid HU4
            clear xx HU4
            go_wp2
            all_goals (go_end0; refine ⟨rfl, ?_⟩; rw [HU5.out]; exact SA.out)
end Go.Proofs.Ytpnkkdpggofanaa

namespace Go.Proofs.Ytpnkkdpggofanaa
open Go.Shelf Go.RowKit Go.Lib Go.Sort Go.Proofs
variable {P : Program} {α : Type} [Inhabited α]

theorem symM_any (k : Nat) (L : SLay P k) (enc : α → List Value) (cf : α → α → Int) (g : Nat) (cb : Array Value) (blk off cap n : Nat) (d0 : Array α) (w0 : World)
    (eg : ∀ args w, (callFunc g args).run P w = .ok (.enter g args) w) (hC : CmpLays P g cb enc k cf blk off n w0)
    (R : RowK enc k w0 blk off d0) (hs : d0.size = n) (hsz : n < 2305843009213693952) : ∀ N, SymAt P k enc cf g cb blk off cap n w0 N := by
  intro N
  induction N with
  | zero => intro a m b d w h0 h1 h2 h3 h4 h5; omega
  | succ N ih =>
    intro a m b d w h0 h1 h2 h3 h4 h5
    subst h0
    by_cases c1 : m - a = 1
    · rw [symM, if_pos c1]
      exact sym1_any k L enc cf g cb blk off cap a m b d0 d w0 w eg hC R hs h5 (by omega) h3 h4 hsz
    · by_cases c2 : b - m = 1
      · rw [symM, if_neg c1, if_pos c2]
        exact sym2_any k L enc cf g cb blk off cap a m b d0 d w0 w eg hC R hs h5 h2 (by omega) (by omega) h4 hsz
      · exact sym3_any k L enc cf g cb blk off cap N a m b d0 d w0 w eg hC R hs h5 h1 h2 c1 h3 c2 h4 hsz ih

set_option maxHeartbeats 4000000 in
set_option maxRecDepth 1000000 in
theorem insertion_any (k : Nat) (L : SLay P k) (enc : α → List Value) (cf : α → α → Int) (g : Nat) (cb : Array Value) (blk off cap a b : Nat) (d0 d : Array α) (w0 w : World)
    (eg : ∀ args w, (callFunc g args).run P w = .ok (.enter g args) w) (hC : CmpLays P g cb enc k cf blk off d.size w0)
    (R : RowK enc k w0 blk off d0) (hs : d0.size = d.size) (S : SWK enc k w0 blk off d w) (hab : a ≤ b) (hb : b ≤ d.size) (hsz : d.size < 2305843009213693952) :
    Calls P 107 #[.slice (some ⟨blk, off, none⟩) d.size cap, .int .i64 a, .int .i64 b, .func (.func g) #[] cb] w fun e w' => e = .returned (.tuple #[]) ∧ SWK enc k w0 blk off (Sort.insertionSort (ltOf cf) d a b) w' := by
  have mixed := L.mixed; have t0 := L.t0; have a0 := L.a0; have z0 := L.z0; have v0 := L.v0; have t3 := L.t3; have a3 := L.a3; have z3 := L.z3; have v3 := L.v3; have t4 := L.t4; have a4 := L.a4; have z4 := L.z4; have v4 := L.v4; have tS := L.tS; have aS := L.aS; have zS := L.zS; have vS := L.vS; have tf := L.tf; have af := L.af; have zf := L.zf; have vf := L.vf; have aE := L.aE; have zE := L.zE
  have S0 : Aside (SWK enc k w0 blk off d w) := S
  have HC : Aside _ := hC
  clear S hC
  go_enter L.f4, Try.ntmps107
  go_wp2
  go_loopg [8] (b - a) (fun g1 vi wr => ∃ (i : Nat) (dk : Array α), vi = .int .i64 i ∧ a < i ∧ i ≤ b + 1 ∧ b + 1 - i ≤ g1 + 1 ∧ dk.size = d.size ∧ Aside (SWK enc k w0 blk off dk wr) ∧ Hid (insOuter (ltOf cf) a b i dk = insOuter (ltOf cf) a b (a + 1) d))
  case atStart => exact ⟨a + 1, d, by go_num, by omega, by omega, by omega, rfl, S0, rfl⟩
  case round =>
    clear S0
    rename World => wo
    obtain ⟨i, dk, rfl, hai, hib, hg1, hsk, SO, HO⟩ := hrel
    by_cases hlt : i < b
    · have hltz : (i : Int) < (b : Int) := by omega
      go_wp2
      go_loopg [9] i (fun g2 vj wr2 => ∃ (j : Nat) (dj : Array α), vj = .int .i64 j ∧ a ≤ j ∧ j ≤ i ∧ j ≤ g2 ∧ dj.size = d.size ∧ Aside (SWK enc k w0 blk off dj wr2) ∧ Hid (insInner (ltOf cf) a j dj = insInner (ltOf cf) a i dk))
      case atStart => exact ⟨i, dk, rfl, by omega, Nat.le_refl _, Nat.le_refl _, hsk, SO, rfl⟩
      case round =>
        clear SO
        obtain ⟨j, dj, rfl, haj, hji, hg2, hsj, S1, HI⟩ := hrel
        have out : (j ≤ a ∨ ltOf cf dj[j]! dj[j - 1]! = false) → Hid (insOuter (ltOf cf) a b (i + 1) dj = insOuter (ltOf cf) a b (a + 1) d) := fun hs => by
          show _ = _
          rw [← HO.out, insOuter_go _ _ _ _ _ hlt, ← HI.out, insInner_stop _ _ _ _ hs]
        have OUT : Aside _ := out
        clear out
        by_cases hja : a < j
        · have hjaz : (a : Int) < (j : Int) := by omega
          obtain ⟨jp, rfl⟩ : ∃ jp, j = jp + 1 := ⟨j - 1, by omega⟩
          have rc : IntKind.i64.wrap (jp : Int) = (jp : Int) := by rw [IntKind.wrap_i64]; omega
          have ba : (jp : Int) + 1 < (d.size : Int) := by omega
          have bc : (jp : Int) < (d.size : Int) := by omega
          have hjaz' : (a : Int) < (jp : Int) + 1 := by omega
          have pa : (0 : Int) ≤ (jp : Int) + 1 := by omega
          have ea : ((jp : Int) + 1).toNat = jp + 1 := by omega
          have lj := S1.out.ld R (by omega) P (jp + 1) (by omega)
          have lp := S1.out.ld R (by omega) P jp (by omega)
          have hcg := S1.out.cmp HC.out hsj dj[jp + 1]! dj[jp]!
          have CLS := hid (fun n os => S1.out.grown (enc := enc) n os)
          obtain ⟨xj, hxj⟩ : ∃ x, dj[jp + 1]! = x := ⟨_, rfl⟩
          obtain ⟨xp, hxp⟩ : ∃ x, dj[jp]! = x := ⟨_, rfl⟩
          rw [hxj] at lj hcg
          rw [hxp] at lp hcg
          have HX := hid (And.intro hxj hxp)
          have HSJ := hid hsj
          clear hxj hxp S1
          by_cases hlv : cf xj xp < 0
          · go_wp2_with fail
            go_quiet_grown (first | (go_at_fn g; refine Calls.grown_of (hcg _ _)))
            have S2 : Aside (SWK enc k w0 blk off dj (grow (wr.drewN nq) osq)) := CLS.out nq osq
            clear lj lp hcg CLS
            generalize grow (wr.drewN nq) osq = wx at S2 ⊢
            go_wp2_with fail
            have S3 : Aside (SWK enc k w0 blk off (swp dj (jp + 1) jp) ((wx.drew.setCells blk (off + (jp + 1) * k) (enc dj[jp]!)).setCells blk (off + jp * k) (enc dj[jp + 1]!))) := S2.out.swapped R (jp + 1) jp (by omega) (by omega)
            have l44a := S2.out.ld1 R (by omega) P (jp + 1) (by omega)
            have l44b := S2.out.ld1 R (by omega) P jp (by omega)
            have s44a := S2.out.st1 R (by omega) P (jp + 1) (by omega) dj[jp]!
            have s44b := S2.out.st2 R (by omega) P (jp + 1) jp (by omega) (by omega) dj[jp]! dj[jp + 1]!
            have n44a : (enc dj[jp + 1]!).length = k := R.hk _
            have n44b : (enc dj[jp]!).length = k := R.hk _
            generalize enc dj[jp + 1]! = cI44 at S3 l44a s44b n44a
            generalize enc dj[jp]! = cJ44 at S3 l44b s44a s44b n44b
            clear S2
            go_big_region_o
            clear l44a l44b s44a s44b
            generalize (wx.drew.setCells blk (off + (jp + 1) * k) cJ44).setCells blk (off + jp * k) cI44 = w2 at S3 ⊢
            go_wp2
            go_roundg jp
            case measure => omega
            case rel =>
              refine ⟨jp, swp dj (jp + 1) jp, by first | rfl | go_num | (congr 1; omega), by omega, by omega, Nat.le_refl _, by rw [size_swp]; exact hsj, S3, (show Hid _ from ?_)⟩
              show _ = _
              have := insInner_go (ltOf cf) a (jp + 1) dj hja (by simp only [Nat.add_sub_cancel]; rw [HX.out.1, HX.out.2]; exact decide_eq_true hlv)
              simp only [Nat.add_sub_cancel] at this
              rw [← HI.out, this]
          · go_wp2_with fail
            go_quiet_grown (first | (go_at_fn g; refine Calls.grown_of (hcg _ _)))
            go_wp2
            go_roundg (b - (i + 1))
            case measure => omega
            case rel => exact ⟨i + 1, dj, by go_num, by omega, by omega, by omega, hsj, CLS.out nq osq, OUT.out (Or.inr (by simp only [Nat.add_sub_cancel]; rw [HX.out.1, HX.out.2]; exact decide_eq_false (by omega)))⟩
        · have hjaz : decide ((j : Int) > (a : Int)) = false := decide_eq_false (by omega)
          have hjaz' : ¬ (a : Int) < (j : Int) := by omega
          have HDR := hid (S1.out.drew)
          clear S1
          go_wp2_with fail
          go_big_region_o
          all_goals go_wp2
          go_roundg (b - (i + 1))
          case measure => omega
          case rel => exact ⟨i + 1, dj, by go_num, by omega, by omega, by omega, hsj, HDR.out, OUT.out (Or.inl (by omega))⟩
    · have hltz : ¬ (i : Int) < (b : Int) := by omega
      go_wp2
      go_end0
      refine ⟨rfl, ?_⟩
      unfold Sort.insertionSort
      rw [← HO.out, insOuter_stop _ _ _ _ _ hlt]
      exact SO.out
end Go.Proofs.Ytpnkkdpggofanaa

namespace Go.Proofs.Ytpnkkdpggofanaa
open Go.Shelf Go.RowKit Go.Lib Go.Sort Go.Proofs
variable {P : Program} {α : Type} [Inhabited α]

theorem insInner_size (lt : α → α → Bool) (a : Nat) : ∀ (j : Nat) (d : Array α), (insInner lt a j d).size = d.size := by
  intro j
  induction j with
  | zero => intro d; rw [insInner_stop _ _ _ _ (Or.inl (Nat.zero_le _))]
  | succ j ih =>
    intro d
    by_cases h : a < j + 1
    · by_cases h2 : lt d[j + 1]! d[j]! = true
      · have := insInner_go lt a (j + 1) d h (by simp only [Nat.add_sub_cancel]; exact h2)
        simp only [Nat.add_sub_cancel] at this
        rw [this, ih, size_swp]
      · rw [insInner_stop _ _ _ _ (Or.inr (by simp only [Nat.add_sub_cancel]; simpa using h2))]
    · rw [insInner_stop _ _ _ _ (Or.inl (by omega))]

theorem insertion_size (lt : α → α → Bool) (a b : Nat) (d : Array α) : (insertionSort lt d a b).size = d.size := by
  have key : ∀ (r i : Nat) (d : Array α), b - i = r → (insOuter lt a b i d).size = d.size := by
    intro r
    induction r with
    | zero => intro i d h; rw [insOuter_stop _ _ _ _ _ (by omega)]
    | succ r ih => intro i d h; rw [insOuter_go _ _ _ _ _ (by omega), ih _ _ (by omega), insInner_size]
  unfold Sort.insertionSort
  exact key _ _ _ rfl

set_option maxHeartbeats 4000000 in
set_option maxRecDepth 1000000 in
theorem stable_any (k : Nat) (L : SLay P k) (enc : α → List Value) (cf : α → α → Int) (g : Nat) (cb : Array Value) (blk off cap : Nat) (d0 d : Array α) (w0 w : World)
    (eg : ∀ args w, (callFunc g args).run P w = .ok (.enter g args) w) (hC : CmpLays P g cb enc k cf blk off d.size w0)
    (R : RowK enc k w0 blk off d0) (hs : d0.size = d.size) (S : SWK enc k w0 blk off d w) (hsz : d.size < 2305843009213693952) :
    Calls P 89 #[.slice (some ⟨blk, off, none⟩) d.size cap, .int .i64 d.size, .func (.func g) #[] cb] w fun e w' => e = .returned (.tuple #[]) ∧ SWK enc k w0 blk off (stab (ltOf cf) d) w' := by
  have mixed := L.mixed; have t0 := L.t0; have a0 := L.a0; have z0 := L.z0; have v0 := L.v0; have t3 := L.t3; have a3 := L.a3; have z3 := L.z3; have v3 := L.v3; have t4 := L.t4; have a4 := L.a4; have z4 := L.z4; have v4 := L.v4; have tS := L.tS; have aS := L.aS; have zS := L.zS; have vS := L.vS; have tf := L.tf; have af := L.af; have zf := L.zf; have vf := L.vf; have aE := L.aE; have zE := L.zE
  have S0 : Aside (SWK enc k w0 blk off d w) := S
  obtain ⟨n, hn⟩ : ∃ n, n = d.size := ⟨_, rfl⟩
  rw [← hn]
  have HIN := hid (fun (a b : Nat) (dk : Array α) (W : World) (hd : dk.size = n) (S1 : SWK enc k w0 blk off dk W) (h1 : a ≤ b) (h2 : b ≤ n) => show Calls P 107 #[.slice (some ⟨blk, off, none⟩) n cap, .int .i64 a, .int .i64 b, .func (.func g) #[] cb] W fun e w' => e = .returned (.tuple #[]) ∧ SWK enc k w0 blk off (Sort.insertionSort (ltOf cf) dk a b) w' by
    rw [← hd]; exact insertion_any k L enc cf g cb blk off cap a b d0 dk w0 W eg (by rw [hd, hn]; exact hC) R (by omega) S1 h1 (by omega) (by omega))
  have HSY := hid (fun (a m b : Nat) (dk : Array α) (W : World) (hd : dk.size = n) (S1 : SWK enc k w0 blk off dk W) (h1 : a < m) (h2 : m < b) (h3 : b ≤ n) => symM_any k L enc cf g cb blk off cap n d0 w0 eg (by rw [hn]; exact hC) R (by omega) (by omega) n a m b dk W hd (by omega) h1 h2 h3 S1)
  have HST := hid (show stab (ltOf cf) d = stRounds (ltOf cf) n n 20 (stBlk (ltOf cf) n 0 d) by rw [hn]; rfl)
  have e1 : ∀ args w, (callFunc 107 args).run P w = .ok (.enter 107 args) w := enters_of L.f4 (by kernel_rfl) rfl
  have e2 : ∀ args w, (callFunc 108 args).run P w = .ok (.enter 108 args) w := enters_of L.f3 (by kernel_rfl) rfl
  have hd0 : Hid (d.size = n) := hn.symm
  have hsz2 : n < 2305843009213693952 := by omega
  clear S hC R hs hsz hn
  go_enter L.f5, Try.ntmps89
  go_wp2
  go_loopg [7, 8] n (fun kx va vb wr => ∃ (x : Nat) (dk : Array α), va = .int .i64 x ∧ vb = .int .i64 ((x : Int) + 20) ∧ x ≤ n ∧ n - x ≤ kx ∧ Hid (dk.size = n) ∧ Aside (SWK enc k w0 blk off dk wr) ∧ Hid (stBlk (ltOf cf) n x dk = stBlk (ltOf cf) n 0 d))
  case atStart => exact ⟨0, d, rfl, rfl, by omega, by omega, hd0, S0, rfl⟩
  case round =>
    clear S0
    obtain ⟨x, dk, rfl, rfl, hxn, hkx, HDS, S1, HEQ⟩ := hrel
    by_cases hlt : x + 20 ≤ n
    · have hltz : (x : Int) + 20 ≤ (n : Int) := by omega
      go_wp2_with fail
      refine (HIN.out x (x + 20) dk wr HDS.out S1.out (by omega) hlt).mono ?_
      rintro e w1 ⟨rfl, Sx⟩
      have S2 : Aside (SWK enc k w0 blk off (Sort.insertionSort (ltOf cf) dk x (x + 20)) w1) := Sx
      clear Sx S1
      have HD2 : Hid ((Sort.insertionSort (ltOf cf) dk x (x + 20)).size = n) := (insertion_size _ _ _ _).trans HDS.out
      go_wp2
      go_roundg (n - (x + 20))
      case measure => omega
      case rel =>
        refine ⟨x + 20, _, by go_num, by go_num, hlt, Nat.le_refl _, HD2, S2, (show Hid _ from ?_)⟩
        show _ = _
        rw [← HEQ.out]
        conv => rhs; rw [stBlk, if_pos hlt]
    · have hltz : ¬ (x : Int) + 20 ≤ (n : Int) := by omega
      go_wp2_with fail
      refine (HIN.out x n dk wr HDS.out S1.out hxn (Nat.le_refl _)).mono ?_
      rintro e w1 ⟨rfl, Sx⟩
      have S2 : Aside (SWK enc k w0 blk off (Sort.insertionSort (ltOf cf) dk x n) w1) := Sx
      have HD2 : Hid ((Sort.insertionSort (ltOf cf) dk x n).size = n) := (insertion_size _ _ _ _).trans HDS.out
      have HE2 : Hid (Sort.insertionSort (ltOf cf) dk x n = stBlk (ltOf cf) n 0 d) := by
        show _ = _
        rw [← HEQ.out, stBlk, if_neg hlt]
      clear Sx S1 HEQ
      rw [HE2.out] at S2 HD2
      generalize stBlk (ltOf cf) n 0 d = d1 at S2 HD2 HST
      clear HE2 HDS hlt hltz hkx hxn
      go_wp2
      go_loopg [6] n (fun kx vz wr => ∃ (z : Nat) (dk : Array α), vz = .int .i64 z ∧ 0 < z ∧ n - z ≤ kx ∧ z ≤ 2 * n + 20 ∧ Hid (dk.size = n) ∧ Aside (SWK enc k w0 blk off dk wr) ∧ Hid (stRounds (ltOf cf) n n z dk = stRounds (ltOf cf) n n 20 d1))
      case atStart => exact ⟨20, d1, rfl, by omega, by omega, by omega, HD2, S2, rfl⟩
      case round =>
        clear S2 HD2
        rename World => wo
        obtain ⟨z, dz, rfl, hz, hkz, hz2, HDZ, SZ, HEZ⟩ := hrel
        by_cases hzn : z < n
        · have hznz : (z : Int) < (n : Int) := by omega
          go_wp2
          go_loopg [7, 8] n (fun kx va vb wr => ∃ (x : Nat) (dk : Array α), va = .int .i64 x ∧ vb = .int .i64 ((x : Int) + 2 * (z : Int)) ∧ x ≤ n ∧ n - x ≤ kx ∧ Hid (dk.size = n) ∧ Aside (SWK enc k w0 blk off dk wr) ∧ Hid (stPass (ltOf cf) n z n x dk = stPass (ltOf cf) n z n 0 dz))
          case atStart => exact ⟨0, dz, rfl, by go_num, by omega, by omega, HDZ, SZ, rfl⟩
          case round =>
            clear SZ HDZ
            obtain ⟨x, dk, rfl, rfl, hxn, hkx, HDS, S1, HEQ⟩ := hrel
            by_cases hlt : x + 2 * z ≤ n
            · have hltz : (x : Int) + 2 * (z : Int) ≤ (n : Int) := by omega
              go_wp2_with fail
              refine (HSY.out x (x + z) (x + 2 * z) dk wr HDS.out S1.out (by omega) (by omega) hlt).mono ?_
              rintro e w1 ⟨rfl, Sx⟩
              have S2 : Aside (SWK enc k w0 blk off (symM (ltOf cf) n x (x + z) (x + 2 * z) dk) w1) := Sx
              clear Sx S1
              have HD2 : Hid ((symM (ltOf cf) n x (x + z) (x + 2 * z) dk).size = n) := (symM_perm (ltOf cf) n x (x + z) (x + 2 * z) dk (by omega) (by omega) (by rw [HDS.out]; exact hlt)).1.trans HDS.out
              go_wp2
              go_roundg (n - (x + 2 * z))
              case measure => omega
              case rel =>
                refine ⟨x + 2 * z, _, by go_num, by go_num, hlt, Nat.le_refl _, HD2, S2, (show Hid _ from ?_)⟩
                show _ = _
                rw [← HEQ.out]
                conv => rhs; rw [stPass, dif_pos ⟨hlt, hz⟩]
            · have hltz : ¬ (x : Int) + 2 * (z : Int) ≤ (n : Int) := by omega
              by_cases hm : x + z < n
              · have hmz : (x : Int) + (z : Int) < (n : Int) := by omega
                go_wp2_with fail
                refine (HSY.out x (x + z) n dk wr HDS.out S1.out (by omega) hm (Nat.le_refl _)).mono ?_
                rintro e w1 ⟨rfl, Sx⟩
                have S2 : Aside (SWK enc k w0 blk off (symM (ltOf cf) n x (x + z) n dk) w1) := Sx
                clear Sx S1
                have HD2 : Hid ((symM (ltOf cf) n x (x + z) n dk).size = n) := (symM_perm (ltOf cf) n x (x + z) n dk (by omega) (by omega) (by rw [HDS.out]; exact Nat.le_refl _)).1.trans HDS.out
                go_wp2
                go_roundg (n - z * 2)
                case measure => omega
                case rel =>
                  refine ⟨z * 2, _, by go_num, by omega, Nat.le_refl _, by omega, HD2, S2, (show Hid _ from ?_)⟩
                  show _ = _
                  rw [← HEZ.out]
                  conv => rhs; rw [stRounds, dif_pos ⟨hzn, hz⟩, ← HEQ.out, stPass, dif_neg (fun h => hlt h.1), if_pos hm]
              · have hmz : ¬ (x : Int) + (z : Int) < (n : Int) := by omega
                go_wp2
                go_roundg (n - z * 2)
                case measure => omega
                case rel =>
                  refine ⟨z * 2, _, by go_num, by omega, Nat.le_refl _, by omega, HDS, S1, (show Hid _ from ?_)⟩
                  show _ = _
                  rw [← HEZ.out]
                  conv => rhs; rw [stRounds, dif_pos ⟨hzn, hz⟩, ← HEQ.out, stPass, dif_neg (fun h => hlt h.1), if_neg hm]
        · have hznz : ¬ (z : Int) < (n : Int) := by omega
          go_wp2
          go_end0
          refine ⟨rfl, ?_⟩
          rw [HST.out, ← HEZ.out, stRounds, dif_neg (fun h => hzn h.1)]
          exact SZ.out
end Go.Proofs.Ytpnkkdpggofanaa
