/- slices.SortStableFunc's plain half: what each of its functions does to an array; that the whole sorts. No program in sight. -/
import Derived.Sort.LotA
namespace Go.Proofs.Ytpnkkdpggofanaa
open Go.Sort
variable {α : Type} [Inhabited α]

/-! ### the functions -/
/-- swapRange, from i on. -/
def swapRng (a b n i : Nat) (d : Array α) : Array α := if i < n then swapRng a b n (i + 1) (swp d (a + i) (b + i)) else d
termination_by n - i
/-- rotate's loop, behind the block sizes i and j; m is where the second block begins. -/
def rotL (m i j : Nat) (d : Array α) : Array α :=
  if i = j then swapRng (m - i) m i 0 d else
  if _h : 0 < i ∧ 0 < j then
    if j < i then rotL m (i - j) j (swapRng (m - i) m j 0 d) else rotL m i (j - i) (swapRng (m - i) (m + j - i) i 0 d)
  else d
termination_by i + j
decreasing_by all_goals omega
/-- A search by halves. -/
def bsr (p : Nat → Bool) (i j : Nat) : Nat := if i < j then (if p ((i + j) / 2) then bsr p ((i + j) / 2 + 1) j else bsr p i ((i + j) / 2)) else i
termination_by j - i
decreasing_by all_goals omega
def shR (s k : Nat) (d : Array α) : Array α := if k < s then shR s (k + 1) (swp d k (k + 1)) else d
termination_by s - k
def shL (i : Nat) : Nat → Array α → Array α
  | 0, d => d
  | k + 1, d => if k + 1 > i then shL i k (swp d (k + 1) k) else d

section
variable (lt : α → α → Bool)
def symS (a m b : Nat) (d : Array α) : Nat :=
  if m > (a + b) / 2 then bsr (fun c => !lt d[(a + b) / 2 + m - 1 - c]! d[c]!) ((a + b) / 2 + m - b) ((a + b) / 2) else bsr (fun c => !lt d[(a + b) / 2 + m - 1 - c]! d[c]!) a m
def symD (a m b : Nat) (d : Array α) : Array α :=
  if symS lt a m b d < m ∧ m < (a + b) / 2 + m - symS lt a m b d then rotL m (m - symS lt a m b d) ((a + b) / 2 + m - symS lt a m b d - m) d else d
/-- symMerge; the first argument bounds how deep it calls itself. -/
def symM : Nat → Nat → Nat → Nat → Array α → Array α
  | 0, _, _, _, d => d
  | N + 1, a, m, b, d =>
    if m - a = 1 then shR (bsr (fun h => lt d[h]! d[a]!) m b - 1) a d else
    if b - m = 1 then shL (bsr (fun h => !lt d[m]! d[h]!) a m) m d else
    let s := symS lt a m b d
    let e := (a + b) / 2 + m - s
    let d1 := symD lt a m b d
    let d2 := if a < s ∧ s < (a + b) / 2 then symM N a s ((a + b) / 2) d1 else d1
    if (a + b) / 2 < e ∧ e < b then symM N ((a + b) / 2) e b d2 else d2
/-- The blocks of 20, from a on. -/
def stBlk (n a : Nat) (d : Array α) : Array α := if a + 20 ≤ n then stBlk n (a + 20) (insertionSort lt d a (a + 20)) else insertionSort lt d a n
termination_by n - a
/-- One round of merges of blocks of z, from a on. -/
def stPass (N z n a : Nat) (d : Array α) : Array α :=
  if h : a + 2 * z ≤ n ∧ 0 < z then stPass N z n (a + 2 * z) (symM lt N a (a + z) (a + 2 * z) d) else if a + z < n then symM lt N a (a + z) n d else d
termination_by n - a
def stRounds (N n z : Nat) (d : Array α) : Array α := if h : z < n ∧ 0 < z then stRounds N n (z * 2) (stPass lt N z n 0 d) else d
termination_by n - z
/-- stable. -/
def stab (d : Array α) : Array α := stRounds lt d.size d.size 20 (stBlk lt d.size 0 d)
end

/-! ### what they do -/
theorem swapRng_get (a b n : Nat) : ∀ (r i : Nat) (d : Array α), n - i = r → a + n ≤ b → b + n ≤ d.size → (swapRng a b n i d).size = d.size ∧
    ∀ x, (swapRng a b n i d)[x]! = if a + i ≤ x ∧ x < a + n then d[x - a + b]! else if b + i ≤ x ∧ x < b + n then d[x - b + a]! else d[x]! := by
  intro r
  induction r with
  | zero =>
    intro i d hr h1 h2
    rw [swapRng, if_neg (by omega)]
    exact ⟨rfl, fun x => by rw [if_neg (by omega), if_neg (by omega)]⟩
  | succ r ih =>
    intro i d hr h1 h2
    rw [swapRng, if_pos (by omega)]
    obtain ⟨g1, g2⟩ := ih (i + 1) (swp d (a + i) (b + i)) (by omega) h1 (by rw [size_swp]; exact h2)
    refine ⟨by rw [g1, size_swp], fun x => ?_⟩
    rw [g2 x]
    have sg := fun y => swp_get d (i := a + i) (j := b + i) (by omega) (by omega) y
    by_cases c1 : a + (i + 1) ≤ x ∧ x < a + n
    · rw [if_pos c1, if_pos (by omega), sg, if_neg (by omega), if_neg (by omega)]
    · rw [if_neg c1]
      by_cases c2 : b + (i + 1) ≤ x ∧ x < b + n
      · rw [if_pos c2, if_neg (by omega), if_pos (by omega), sg, if_neg (by omega), if_neg (by omega)]
      · rw [if_neg c2, sg]
        by_cases c3 : x = b + i
        · subst c3; rw [if_pos rfl, if_neg (by omega), if_pos (by omega)]; congr 1; omega
        · rw [if_neg c3]
          by_cases c4 : x = a + i
          · subst c4; rw [if_pos rfl, if_pos (by omega)]; congr 1; omega
          · rw [if_neg c4, if_neg (by omega), if_neg (by omega)]

theorem swapRng_perm (a b n lo hi : Nat) : ∀ (r i : Nat) (d : Array α), n - i = r → lo ≤ a → a + n ≤ b → b + n ≤ hi → hi ≤ d.size → PermIn lo hi d (swapRng a b n i d) := by
  intro r
  induction r with
  | zero => intro i d hr _ _ _ _; rw [swapRng, if_neg (by omega)]; exact permIn_refl _ _ _
  | succ r ih =>
    intro i d hr h0 h1 h2 h3
    rw [swapRng, if_pos (by omega)]
    exact permIn_trans _ _ _ _ _ (swp_permIn d lo hi (a + i) (b + i) (by omega) (by omega) (by omega) (by omega) h3) (ih (i + 1) _ (by omega) h0 h1 h2 (by rw [size_swp]; exact h3))

/-- What rotate lays: the two blocks change their places. -/
theorem rotL_get (m : Nat) : ∀ (r i j : Nat) (d : Array α), i + j ≤ r → 0 < i → 0 < j → i ≤ m → m + j ≤ d.size → (rotL m i j d).size = d.size ∧
    ∀ x, (rotL m i j d)[x]! = if m - i ≤ x ∧ x < m - i + j then d[x + i]! else if m - i + j ≤ x ∧ x < m + j then d[x - j]! else d[x]! := by
  intro r
  induction r with
  | zero => intro i j d h; omega
  | succ r ih =>
    intro i j d hr hi hj him hjd
    rw [rotL]
    by_cases hij : i = j
    · subst hij
      rw [if_pos rfl]
      obtain ⟨g1, g2⟩ := swapRng_get (m - i) m i i 0 d (by omega) (by omega) hjd
      refine ⟨g1, fun x => ?_⟩
      rw [g2 x]
      repeat' split
      all_goals first | rfl | (congr 1; omega) | (exfalso; omega)
    · rw [if_neg hij, dif_pos ⟨hi, hj⟩]
      by_cases hlt : j < i
      · rw [if_pos hlt]
        obtain ⟨g1, g2⟩ := swapRng_get (m - i) m j j 0 d (by omega) (by omega) hjd
        obtain ⟨f1, f2⟩ := ih (i - j) j (swapRng (m - i) m j 0 d) (by omega) (by omega) hj (by omega) (by rw [g1]; exact hjd)
        refine ⟨f1.trans g1, fun x => ?_⟩
        rw [f2 x, g2 x, g2 (x + (i - j)), g2 (x - j)]
        repeat' split
        all_goals first | rfl | (congr 1; omega) | (exfalso; omega)
      · rw [if_neg hlt]
        obtain ⟨g1, g2⟩ := swapRng_get (m - i) (m + j - i) i i 0 d (by omega) (by omega) (by omega)
        obtain ⟨f1, f2⟩ := ih i (j - i) (swapRng (m - i) (m + j - i) i 0 d) (by omega) hi (by omega) him (by rw [g1]; omega)
        refine ⟨f1.trans g1, fun x => ?_⟩
        rw [f2 x, g2 x, g2 (x + i), g2 (x - (j - i))]
        repeat' split
        all_goals first | rfl | (congr 1; omega) | (exfalso; omega)

theorem rotL_perm (m lo hi : Nat) : ∀ (r i j : Nat) (d : Array α), i + j ≤ r → lo + i ≤ m → m + j ≤ hi → hi ≤ d.size → PermIn lo hi d (rotL m i j d) := by
  intro r
  induction r with
  | zero =>
    intro i j d h _ _ _
    rw [rotL, if_pos (by omega), swapRng, if_neg (by omega)]
    exact permIn_refl _ _ _
  | succ r ih =>
    intro i j d hr h1 h2 h3
    rw [rotL]
    by_cases hij : i = j
    · rw [if_pos hij]
      exact swapRng_perm (m - i) m i lo hi i 0 d rfl (by omega) (by omega) (by omega) h3
    · rw [if_neg hij]
      by_cases h0 : 0 < i ∧ 0 < j
      · rw [dif_pos h0]
        by_cases hlt : j < i
        · rw [if_pos hlt]
          have p1 := swapRng_perm (m - i) m j lo hi j 0 d rfl (by omega) (by omega) (by omega) h3
          exact permIn_trans _ _ _ _ _ p1 (ih (i - j) j _ (by omega) (by omega) h2 (by rw [p1.1]; exact h3))
        · rw [if_neg hlt]
          have p1 := swapRng_perm (m - i) (m + j - i) i lo hi i 0 d rfl (by omega) (by omega) (by omega) h3
          exact permIn_trans _ _ _ _ _ p1 (ih i (j - i) _ (by omega) h1 (by omega) (by rw [p1.1]; exact h3))
      · rw [dif_neg h0]; exact permIn_refl _ _ _

theorem bsr_spec (p : Nat → Bool) : ∀ (r i j : Nat), j - i ≤ r → i ≤ j → (∀ h h', i ≤ h → h ≤ h' → h' < j → p h' = true → p h = true) →
    i ≤ bsr p i j ∧ bsr p i j ≤ j ∧ (∀ h, i ≤ h → h < bsr p i j → p h = true) ∧ (∀ h, bsr p i j ≤ h → h < j → p h = false) := by
  intro r
  induction r with
  | zero =>
    intro i j hr hij _
    rw [bsr, if_neg (by omega)]
    exact ⟨Nat.le_refl _, hij, fun h _ _ => by omega, fun h _ _ => by omega⟩
  | succ r ih =>
    intro i j hr hij hm
    rw [bsr]
    by_cases hlt : i < j
    · rw [if_pos hlt]
      cases hp : p ((i + j) / 2) with
      | true =>
        simp only [if_true]
        obtain ⟨a1, a2, a3, a4⟩ := ih ((i + j) / 2 + 1) j (by omega) (by omega) (fun h h' g1 g2 g3 => hm h h' (by omega) g2 g3)
        refine ⟨by omega, a2, fun h g1 g2 => ?_, a4⟩
        by_cases hc : (i + j) / 2 + 1 ≤ h
        · exact a3 h hc g2
        · exact hm h _ g1 (by omega) (by omega) hp
      | false =>
        simp only [Bool.false_eq_true, if_false]
        obtain ⟨a1, a2, a3, a4⟩ := ih i ((i + j) / 2) (by omega) (by omega) (fun h h' g1 g2 g3 => hm h h' g1 g2 (by omega))
        refine ⟨a1, by omega, a3, fun h g1 g2 => ?_⟩
        by_cases hc : h < (i + j) / 2
        · exact a4 h g1 hc
        · cases hh : p h with
          | false => rfl
          | true => rw [hm ((i + j) / 2) h (by omega) (by omega) g2 hh] at hp; cases hp
    · rw [if_neg hlt]
      exact ⟨Nat.le_refl _, by omega, fun h _ _ => by omega, fun h _ _ => by omega⟩
theorem bsr_rng (p : Nat → Bool) : ∀ (r i j : Nat), j - i ≤ r → i ≤ j → i ≤ bsr p i j ∧ bsr p i j ≤ j := by
  intro r
  induction r with
  | zero => intro i j hr hij; rw [bsr, if_neg (by omega)]; omega
  | succ r ih =>
    intro i j hr hij
    rw [bsr]
    by_cases hlt : i < j
    · rw [if_pos hlt]
      split
      · have := ih ((i + j) / 2 + 1) j (by omega) (by omega); omega
      · have := ih i ((i + j) / 2) (by omega) (by omega); omega
    · rw [if_neg hlt]; omega

theorem shR_get (s : Nat) : ∀ (r k : Nat) (d : Array α), s - k = r → s < d.size → (shR s k d).size = d.size ∧ ∀ x, (shR s k d)[x]! = if k ≤ x ∧ x < s then d[x + 1]! else if x = s ∧ k ≤ s then d[k]! else d[x]! := by
  intro r
  induction r with
  | zero =>
    intro k d hr hs
    rw [shR, if_neg (by omega)]
    refine ⟨rfl, fun x => ?_⟩
    rw [if_neg (by omega)]
    split
    · congr 1; omega
    · rfl
  | succ r ih =>
    intro k d hr hs
    rw [shR, if_pos (by omega)]
    obtain ⟨g1, g2⟩ := ih (k + 1) (swp d k (k + 1)) (by omega) (by rw [size_swp]; exact hs)
    refine ⟨by rw [g1, size_swp], fun x => ?_⟩
    have sg := fun y => swp_get d (i := k) (j := k + 1) (by omega) (by omega) y
    rw [g2 x, sg, sg, sg]
    repeat' split
    all_goals first | rfl | (congr 1; omega) | (exfalso; omega)
theorem shR_perm (lo hi s : Nat) : ∀ (r k : Nat) (d : Array α), s - k = r → lo ≤ k → s < hi → hi ≤ d.size → PermIn lo hi d (shR s k d) := by
  intro r
  induction r with
  | zero => intro k d hr _ _ _; rw [shR, if_neg (by omega)]; exact permIn_refl _ _ _
  | succ r ih =>
    intro k d hr h1 h2 h3
    rw [shR, if_pos (by omega)]
    exact permIn_trans _ _ _ _ _ (swp_permIn d lo hi k (k + 1) (by omega) (by omega) (by omega) (by omega) h3) (ih (k + 1) _ (by omega) (by omega) h2 (by rw [size_swp]; exact h3))
theorem shL_get (i : Nat) : ∀ (k : Nat) (d : Array α), k < d.size → (shL i k d).size = d.size ∧ ∀ x, (shL i k d)[x]! = if i < x ∧ x ≤ k then d[x - 1]! else if x = i ∧ i ≤ k then d[k]! else d[x]! := by
  intro k
  induction k with
  | zero =>
    intro d hs
    refine ⟨rfl, fun x => ?_⟩
    rw [shL, if_neg (by omega)]
    split
    · congr 1; omega
    · rfl
  | succ k ih =>
    intro d hs
    rw [shL]
    by_cases hc : k + 1 > i
    · rw [if_pos hc]
      obtain ⟨g1, g2⟩ := ih (swp d (k + 1) k) (by rw [size_swp]; omega)
      refine ⟨by rw [g1, size_swp], fun x => ?_⟩
      have sg := fun y => swp_get d (i := k + 1) (j := k) (by omega) (by omega) y
      rw [g2 x, sg, sg, sg]
      repeat' split
      all_goals first | rfl | (congr 1; omega) | (exfalso; omega)
    · rw [if_neg hc]
      refine ⟨rfl, fun x => ?_⟩
      rw [if_neg (by omega)]
      split
      · congr 1; omega
      · rfl
theorem shL_perm (lo hi i : Nat) : ∀ (k : Nat) (d : Array α), lo ≤ i → k < hi → hi ≤ d.size → PermIn lo hi d (shL i k d) := by
  intro k
  induction k with
  | zero => intro d _ _ _; exact permIn_refl _ _ _
  | succ k ih =>
    intro d h1 h2 h3
    rw [shL]
    by_cases hc : k + 1 > i
    · rw [if_pos hc]
      exact permIn_trans _ _ _ _ _ (swp_permIn d lo hi (k + 1) k (by omega) (by omega) (by omega) (by omega) h3) (ih _ h1 (by omega) (by rw [size_swp]; exact h3))
    · rw [if_neg hc]; exact permIn_refl _ _ _

section
variable {lt : α → α → Bool}
set_option linter.unusedSectionVars false
theorem sorted_le (hS : SWO lt) {a b : Nat} {d : Array α} (h : SortedIn lt a b d) {i j : Nat} (hi : a ≤ i) (hij : i ≤ j) (hj : j < b) : lt d[j]! d[i]! = false := by
  by_cases e : i = j
  · subst e; exact hS.irrefl _
  · exact h i j hi (by omega) hj
theorem sorted_congr {a b : Nat} {d d' : Array α} (h : SortedIn lt a b d) (he : ∀ p, a ≤ p → p < b → d'[p]! = d[p]!) : SortedIn lt a b d' := fun i j hi hij hj => by
  rw [he i hi (by omega), he j (by omega) hj]; exact h i j hi hij hj
/-- 'x is less' goes down, 'not less' goes up. -/
theorem SWO.lt_of_nlt_lt (hS : SWO lt) {x y z : α} (h1 : lt y x = false) (h2 : lt y z = true) : lt x z = true := by
  cases h : lt x z with
  | true => rfl
  | false =>
    have := hS.ntrans y x z h1 h
    rw [h2] at this; cases this
theorem SWO.nlt_of_lt (hS : SWO lt) {x y : α} (h : lt x y = true) : lt y x = false := by
  cases h2 : lt y x with
  | false => rfl
  | true => have := hS.trans x y x h h2; rw [hS.irrefl] at this; cases this

theorem symS_rng (a m b : Nat) (d : Array α) (h1 : a < m) (h2 : m < b) : a ≤ symS lt a m b d ∧ symS lt a m b d ≤ m ∧ symS lt a m b d ≤ (a + b) / 2 ∧ (a + b) / 2 + m - b ≤ symS lt a m b d := by
  unfold symS
  split
  · have := bsr_rng (fun c => !lt d[(a + b) / 2 + m - 1 - c]! d[c]!) _ ((a + b) / 2 + m - b) ((a + b) / 2) (Nat.le_refl _) (by omega); omega
  · have := bsr_rng (fun c => !lt d[(a + b) / 2 + m - 1 - c]! d[c]!) _ a m (Nat.le_refl _) (by omega); omega

theorem symS_spec (hS : SWO lt) (a m b : Nat) (d : Array α) (h1 : a < m) (h2 : m < b) (hu : SortedIn lt a m d) (hv : SortedIn lt m b d) :
    (∀ i j, a ≤ i → i < symS lt a m b d → (a + b) / 2 + m - symS lt a m b d ≤ j → j < b → lt d[j]! d[i]! = false) ∧
    (∀ i j, symS lt a m b d ≤ i → i < m → m ≤ j → j < (a + b) / 2 + m - symS lt a m b d → lt d[i]! d[j]! = false) := by
  have key : ∀ lo hi s, a ≤ lo → lo ≤ hi → hi ≤ m → hi ≤ (a + b) / 2 → (a + b) / 2 + m - b ≤ lo → s = bsr (fun c => !lt d[(a + b) / 2 + m - 1 - c]! d[c]!) lo hi → (lo = a ∨ lo = (a + b) / 2 + m - b) → (hi = m ∨ hi = (a + b) / 2) →
      (∀ i j, a ≤ i → i < s → (a + b) / 2 + m - s ≤ j → j < b → lt d[j]! d[i]! = false) ∧ (∀ i j, s ≤ i → i < m → m ≤ j → j < (a + b) / 2 + m - s → lt d[i]! d[j]! = false) := by
    intro lo hi s g1 g2 g3 g4 g5 hs gl gh
    obtain ⟨b1, b2, b3, b4⟩ := bsr_spec (fun c => !lt d[(a + b) / 2 + m - 1 - c]! d[c]!) _ lo hi (Nat.le_refl _) g2 (by
      intro h h' e1 e2 e3 hp
      simp only [Bool.not_eq_true'] at hp ⊢
      exact hS.ntrans _ _ _ (sorted_le hS hv (by omega) (by omega) (by omega)) (hS.ntrans _ _ _ hp (sorted_le hS hu (by omega) e2 (by omega))))
    rw [← hs] at b1 b2 b3 b4
    constructor
    · intro i j e1 e2 e3 e4
      by_cases hc : lo < s
      · have hp := b3 (s - 1) (by omega) (by omega)
        simp only [Bool.not_eq_true'] at hp
        rw [show (a + b) / 2 + m - 1 - (s - 1) = (a + b) / 2 + m - s by omega] at hp
        exact hS.ntrans _ _ _ (sorted_le hS hv (by omega) e3 e4) (hS.ntrans _ _ _ hp (sorted_le hS hu e1 (by omega) (by omega)))
      · exfalso; rcases gl with rfl | rfl <;> omega
    · intro i j e1 e2 e3 e4
      by_cases hc : s < hi
      · have hp := b4 s (Nat.le_refl _) hc
        simp only [Bool.not_eq_false'] at hp
        have hq := SWO.nlt_of_lt hS hp
        exact hS.ntrans _ _ _ (sorted_le hS hu (by omega) e1 e2) (hS.ntrans _ _ _ hq (sorted_le hS hv e3 (by omega) (by omega)))
      · exfalso; rcases gh with rfl | rfl <;> omega
  unfold symS
  split
  · exact key _ _ _ (by omega) (by omega) (by omega) (by omega) (by omega) rfl (.inr rfl) (.inr rfl)
  · exact key _ _ _ (by omega) (by omega) (by omega) (by omega) (by omega) rfl (.inl rfl) (.inl rfl)

theorem symD_spec (a m b : Nat) (d : Array α) (h1 : a < m) (h2 : m < b) (hb : b ≤ d.size) : PermIn a b d (symD lt a m b d) ∧
    ∀ x, (symD lt a m b d)[x]! = if symS lt a m b d ≤ x ∧ x < (a + b) / 2 then d[x + (m - symS lt a m b d)]! else if (a + b) / 2 ≤ x ∧ x < (a + b) / 2 + m - symS lt a m b d then d[x - ((a + b) / 2 - symS lt a m b d)]! else d[x]! := by
  obtain ⟨r1, r2, r3, r4⟩ := symS_rng (lt := lt) a m b d h1 h2
  unfold symD
  generalize symS lt a m b d = s at *
  by_cases hc : s < m ∧ m < (a + b) / 2 + m - s
  · rw [if_pos hc]
    refine ⟨rotL_perm m a b _ _ _ d (Nat.le_refl _) (by omega) (by omega) hb, fun x => ?_⟩
    obtain ⟨_, g2⟩ := rotL_get m _ (m - s) ((a + b) / 2 + m - s - m) d (Nat.le_refl _) (by omega) (by omega) (by omega) (by omega)
    rw [g2 x]
    repeat' split
    all_goals first | rfl | (congr 1; omega) | (exfalso; omega)
  · rw [if_neg hc]
    refine ⟨permIn_refl _ _ _, fun x => ?_⟩
    repeat' split
    all_goals first | rfl | (congr 1; omega) | (exfalso; omega)

theorem symM_spec (hS : SWO lt) : ∀ (N a m b : Nat) (d : Array α), b - a ≤ N → a < m → m < b → b ≤ d.size → SortedIn lt a m d → SortedIn lt m b d → PermIn a b d (symM lt N a m b d) ∧ SortedIn lt a b (symM lt N a m b d) := by
  intro N
  induction N with
  | zero => intro a m b d h; omega
  | succ N ih =>
    intro a m b d hN h1 h2 hb hu hv
    rw [symM]
    by_cases c1 : m - a = 1
    · rw [if_pos c1]
      obtain ⟨b1, b2, b3, b4⟩ := bsr_spec (fun h => lt d[h]! d[a]!) _ m b (Nat.le_refl _) (by omega) (by
        intro h h' e1 e2 e3 hp
        exact SWO.lt_of_nlt_lt hS (sorted_le hS hv e1 e2 e3) hp)
      generalize bsr (fun h => lt d[h]! d[a]!) m b = i at *
      refine ⟨shR_perm a b (i - 1) _ a d rfl (by omega) (by omega) hb, ?_⟩
      obtain ⟨_, g2⟩ := shR_get (i - 1) _ a d rfl (by omega)
      intro x y e1 e2 e3
      rw [g2 x, g2 y]
      by_cases k1 : y < i - 1
      · rw [if_pos ⟨by omega, k1⟩, if_pos (by omega)]; exact hv _ _ (by omega) (by omega) (by omega)
      · rw [if_neg (fun h => k1 h.2)]
        by_cases k2 : y = i - 1
        · rw [if_pos (by omega), if_pos (by omega)]
          exact SWO.nlt_of_lt hS (b3 (x + 1) (by omega) (by omega))
        · rw [if_neg (by omega)]
          by_cases k3 : x < i - 1
          · rw [if_pos (by omega)]; exact hv _ _ (by omega) (by omega) (by omega)
          · rw [if_neg (by omega)]
            by_cases k4 : x = i - 1
            · rw [if_pos (by omega)]; exact b4 y (by omega) e3
            · rw [if_neg (by omega)]; exact hv _ _ (by omega) e2 e3
    · rw [if_neg c1]
      by_cases c2 : b - m = 1
      · rw [if_pos c2]
        obtain ⟨b1, b2, b3, b4⟩ := bsr_spec (fun h => !lt d[m]! d[h]!) _ a m (Nat.le_refl _) (by omega) (by
          intro h h' e1 e2 e3 hp
          simp only [Bool.not_eq_true'] at hp ⊢
          exact hS.ntrans _ _ _ hp (sorted_le hS hu e1 e2 e3))
        generalize bsr (fun h => !lt d[m]! d[h]!) a m = i at *
        refine ⟨shL_perm a b i m d (by omega) (by omega) hb, ?_⟩
        obtain ⟨_, g2⟩ := shL_get i m d (by omega)
        intro x y e1 e2 e3
        rw [g2 x, g2 y]
        by_cases k1 : i < x
        · rw [if_pos (by omega), if_pos (by omega)]; exact hu _ _ (by omega) (by omega) (by omega)
        · by_cases k2 : x = i
          · rw [if_pos (by omega), if_neg (by omega), if_pos (by omega)]
            have := b4 (y - 1) (by omega) (by omega)
            simp only [Bool.not_eq_false'] at this
            exact SWO.nlt_of_lt hS this
          · rw [if_neg (c := i < x ∧ x ≤ m) (by omega), if_neg (c := x = i ∧ i ≤ m) (by omega)]
            by_cases k3 : i < y
            · rw [if_pos (by omega)]; exact sorted_le hS hu e1 (by omega) (by omega)
            · rw [if_neg (by omega)]
              by_cases k4 : y = i
              · rw [if_pos (by omega)]
                have := b3 x e1 (by omega)
                simpa using this
              · rw [if_neg (by omega)]; exact hu _ _ e1 e2 (by omega)
      · rw [if_neg c2]
        simp only
        obtain ⟨r1, r2, r3, r4⟩ := symS_rng (lt := lt) a m b d h1 h2
        obtain ⟨x1, x2⟩ := symS_spec hS a m b d h1 h2 hu hv
        obtain ⟨pD, gD⟩ := symD_spec (lt := lt) a m b d h1 h2 hb
        generalize symD lt a m b d = d1 at *
        generalize symS lt a m b d = s at *
        have hb1 : b ≤ d1.size := by rw [pD.1]; exact hb
        have sA : SortedIn lt a s d1 := sorted_congr (show SortedIn lt a s d from fun i j q1 q2 q3 => hu i j q1 q2 (by omega)) (fun q _ q2 => by rw [gD q, if_neg (by omega), if_neg (by omega)])
        have sB : SortedIn lt s ((a + b) / 2) d1 := fun i j q1 q2 q3 => by
          rw [gD i, gD j, if_pos (by omega), if_pos (by omega)]; exact hv _ _ (by omega) (by omega) (by omega)
        have sC : SortedIn lt ((a + b) / 2) ((a + b) / 2 + m - s) d1 := fun i j q1 q2 q3 => by
          rw [gD i, gD j, if_neg (by omega), if_pos (by omega), if_neg (by omega), if_pos (by omega)]; exact hu _ _ (by omega) (by omega) (by omega)
        have sE : SortedIn lt ((a + b) / 2 + m - s) b d1 := fun i j q1 q2 q3 => by
          rw [gD i, gD j, if_neg (by omega), if_neg (by omega), if_neg (by omega), if_neg (by omega)]; exact hv _ _ (by omega) q2 q3
        have cr : ∀ x y, a ≤ x → x < (a + b) / 2 → (a + b) / 2 ≤ y → y < b → lt d1[y]! d1[x]! = false := by
          intro x y q1 q2 q3 q4
          rw [gD x, gD y]
          by_cases k1 : x < s
          · rw [if_neg (c := s ≤ x ∧ x < (a + b) / 2) (by omega), if_neg (c := (a + b) / 2 ≤ x ∧ x < (a + b) / 2 + m - s) (by omega), if_neg (by omega)]
            by_cases k2 : y < (a + b) / 2 + m - s
            · rw [if_pos (by omega)]; exact hu _ _ q1 (by omega) (by omega)
            · rw [if_neg (by omega)]; exact x1 x y q1 k1 (by omega) q4
          · rw [if_pos (c := s ≤ x ∧ x < (a + b) / 2) (by omega), if_neg (by omega)]
            by_cases k2 : y < (a + b) / 2 + m - s
            · rw [if_pos (by omega)]; exact x2 _ _ (by omega) (by omega) (by omega) (by omega)
            · rw [if_neg (by omega)]; exact hv _ _ (by omega) (by omega) q4
        -- the left half
        obtain ⟨d2, hd2⟩ : ∃ d2, d2 = (if a < s ∧ s < (a + b) / 2 then symM lt N a s ((a + b) / 2) d1 else d1) := ⟨_, rfl⟩
        have P2 : PermIn a ((a + b) / 2) d1 d2 ∧ SortedIn lt a ((a + b) / 2) d2 := by
          rw [hd2]
          by_cases k : a < s ∧ s < (a + b) / 2
          · rw [if_pos k]; exact ih a s ((a + b) / 2) d1 (by omega) k.1 k.2 (by omega) sA sB
          · rw [if_neg k]
            refine ⟨permIn_refl _ _ _, fun i j q1 q2 q3 => ?_⟩
            by_cases k2 : s = a
            · exact sB i j (by omega) q2 q3
            · exact sA i j q1 q2 (by omega)
        rw [← hd2]
        have hb2 : b ≤ d2.size := by rw [P2.1.1]; exact hb1
        have sC2 : SortedIn lt ((a + b) / 2) ((a + b) / 2 + m - s) d2 := sorted_congr sC (fun q q1 _ => P2.1.2.1 q (.inr q1))
        have sE2 : SortedIn lt ((a + b) / 2 + m - s) b d2 := sorted_congr sE (fun q q1 _ => P2.1.2.1 q (.inr (by omega)))
        have cr2 : ∀ x y, a ≤ x → x < (a + b) / 2 → (a + b) / 2 ≤ y → y < b → lt d2[y]! d2[x]! = false := by
          intro x y q1 q2 q3 q4
          rw [P2.1.2.1 y (.inr q3)]
          exact permIn_all d1 d2 a ((a + b) / 2) (fun v => lt d1[y]! v = false) (by omega) P2.1 (fun i e1 e2 => cr i y e1 e2 q3 q4) x q1 q2
        obtain ⟨d3, hd3⟩ : ∃ d3, d3 = (if (a + b) / 2 < (a + b) / 2 + m - s ∧ (a + b) / 2 + m - s < b then symM lt N ((a + b) / 2) ((a + b) / 2 + m - s) b d2 else d2) := ⟨_, rfl⟩
        have P3 : PermIn ((a + b) / 2) b d2 d3 ∧ SortedIn lt ((a + b) / 2) b d3 := by
          rw [hd3]
          by_cases k : (a + b) / 2 < (a + b) / 2 + m - s ∧ (a + b) / 2 + m - s < b
          · rw [if_pos k]; exact ih ((a + b) / 2) ((a + b) / 2 + m - s) b d2 (by omega) k.1 k.2 hb2 sC2 sE2
          · rw [if_neg k]
            refine ⟨permIn_refl _ _ _, fun i j q1 q2 q3 => ?_⟩
            by_cases k2 : (a + b) / 2 + m - s = b
            · exact sC2 i j q1 q2 (by omega)
            · exact sE2 i j (by omega) q2 q3
        rw [← hd3]
        refine ⟨permIn_trans _ _ _ _ _ pD (permIn_trans _ _ _ _ _ (permIn_mono _ _ a ((a + b) / 2) a b (by omega) (by omega) hb1 P2.1) (permIn_mono _ _ ((a + b) / 2) b a b (by omega) (by omega) hb2 P3.1)), ?_⟩
        intro i j q1 q2 q3
        by_cases k1 : j < (a + b) / 2
        · rw [P3.1.2.1 i (.inl (by omega)), P3.1.2.1 j (.inl k1)]; exact P2.2 i j q1 q2 k1
        · by_cases k2 : (a + b) / 2 ≤ i
          · exact P3.2 i j k2 q2 q3
          · rw [P3.1.2.1 i (.inl (by omega))]
            exact permIn_all d2 d3 ((a + b) / 2) b (fun v => lt v d2[i]! = false) (by omega) P3.1 (fun y e1 e2 => cr2 i y q1 (by omega) e1 e2) j (by omega) q3

theorem stBlk_spec (hS : SWO lt) (n : Nat) : ∀ (r a : Nat) (d : Array α), n - a ≤ r → a ≤ n → n ≤ d.size → 20 ∣ a → (∀ c, c * 20 + 20 ≤ a → SortedIn lt (c * 20) (c * 20 + 20) d) →
    PermIn 0 n d (stBlk lt n a d) ∧ ∀ c, SortedIn lt (c * 20) (min (c * 20 + 20) n) (stBlk lt n a d) := by
  intro r
  induction r with
  | zero =>
    intro a d hr ha hn hd hs
    rw [stBlk, if_neg (by omega)]
    obtain ⟨p1, p2⟩ := insertionSort_holds hS d a n ha hn
    refine ⟨permIn_mono _ _ a n 0 n (by omega) (Nat.le_refl _) hn p1, fun c i j q1 q2 q3 => ?_⟩
    have hge : ¬ (a ≤ i) := by omega
    obtain ⟨q, rfl⟩ := hd
    rw [p1.2.1 i (.inl (by omega)), p1.2.1 j (.inl (by omega))]
    exact hs c (by omega) i j q1 q2 (by omega)
  | succ r ih =>
    intro a d hr ha hn hd hs
    rw [stBlk]
    by_cases hc : a + 20 ≤ n
    · rw [if_pos hc]
      obtain ⟨p1, p2⟩ := insertionSort_holds hS d a (a + 20) (by omega) (by omega)
      obtain ⟨g1, g2⟩ := ih (a + 20) (insertionSort lt d a (a + 20)) (by omega) hc (by rw [p1.1]; exact hn) (by omega) (by
        intro c hcc
        by_cases e : c * 20 = a
        · rw [e]; exact p2
        · exact sorted_congr (hs c (by omega)) (fun q q1 q2 => p1.2.1 q (.inl (by omega))))
      exact ⟨permIn_trans _ _ _ _ _ (permIn_mono _ _ a (a + 20) 0 n (by omega) hc hn p1) g1, g2⟩
    · rw [if_neg hc]
      obtain ⟨p1, p2⟩ := insertionSort_holds hS d a n ha hn
      refine ⟨permIn_mono _ _ a n 0 n (by omega) (Nat.le_refl _) hn p1, fun c i j q1 q2 q3 => ?_⟩
      by_cases e : a ≤ i
      · exact p2 i j e q2 (by omega)
      · rw [p1.2.1 i (.inl (by omega)), p1.2.1 j (.inl (by omega))]
        exact hs c (by omega) i j q1 q2 (by omega)

theorem stPass_spec (hS : SWO lt) (N z n : Nat) (hz : 0 < z) (hN : n ≤ N) : ∀ (r q : Nat) (d : Array α), n - q * (z * 2) ≤ r → q * (z * 2) ≤ n → n ≤ d.size →
    (∀ c, c < q → SortedIn lt (c * (z * 2)) (c * (z * 2) + z * 2) d) → (∀ c, 2 * q ≤ c → SortedIn lt (c * z) (min (c * z + z) n) d) →
    PermIn 0 n d (stPass lt N z n (q * (z * 2)) d) ∧ ∀ c, SortedIn lt (c * (z * 2)) (min (c * (z * 2) + z * 2) n) (stPass lt N z n (q * (z * 2)) d) := by
  intro r
  induction r with
  | zero =>
    intro q d hr hq hn h1 h2
    rw [stPass, dif_neg (by omega), if_neg (by omega)]
    refine ⟨permIn_refl _ _ _, fun c i j q1 q2 q3 => ?_⟩
    by_cases hc : c < q
    · exact h1 c hc i j q1 q2 (by omega)
    · have := Nat.mul_le_mul_right (z * 2) (show q ≤ c by omega); omega
  | succ r ih =>
    intro q d hr hq hn h1 h2
    have e1 : 2 * q * z = q * (z * 2) := by rw [Nat.mul_comm 2 q, Nat.mul_assoc, Nat.mul_comm 2 z]
    have e2 : (2 * q + 1) * z = q * (z * 2) + z := by rw [Nat.add_mul, e1]; omega
    have hA : SortedIn lt (q * (z * 2)) (min (q * (z * 2) + z) n) d := by have := h2 (2 * q) (by omega); rwa [e1] at this
    have hB : SortedIn lt (q * (z * 2) + z) (min (q * (z * 2) + z + z) n) d := by have := h2 (2 * q + 1) (by omega); rwa [e2] at this
    have big : ∀ c, q < c → q * (z * 2) + z * 2 ≤ c * (z * 2) := fun c hc => by
      have := Nat.mul_le_mul_right (z * 2) (show q + 1 ≤ c by omega); rw [Nat.add_mul, Nat.one_mul] at this; exact this
    have low : ∀ c, c < q → c * (z * 2) + z * 2 ≤ q * (z * 2) := fun c hc => by
      have := Nat.mul_le_mul_right (z * 2) (show c + 1 ≤ q by omega); rw [Nat.add_mul, Nat.one_mul] at this; exact this
    rw [stPass]
    by_cases hc : q * (z * 2) + 2 * z ≤ n
    · rw [dif_pos ⟨hc, hz⟩]
      obtain ⟨p1, p2⟩ := symM_spec hS N (q * (z * 2)) (q * (z * 2) + z) (q * (z * 2) + 2 * z) d (by omega) (by omega) (by omega) (by omega) (by rwa [Nat.min_eq_left (by omega)] at hA)
        (by rw [Nat.min_eq_left (by omega)] at hB; rwa [show q * (z * 2) + z + z = q * (z * 2) + 2 * z by omega] at hB)
      have e3 : q * (z * 2) + 2 * z = (q + 1) * (z * 2) := by rw [Nat.add_mul, Nat.one_mul]; omega
      obtain ⟨g1, g2⟩ := ih (q + 1) (symM lt N (q * (z * 2)) (q * (z * 2) + z) (q * (z * 2) + 2 * z) d) (by omega) (by omega) (by rw [p1.1]; exact hn) (by
          intro c hcq
          by_cases e : c = q
          · subst e; rwa [show c * (z * 2) + z * 2 = c * (z * 2) + 2 * z by omega]
          · have hl := low c (by omega)
            exact sorted_congr (h1 c (by omega)) (fun t t1 t2 => p1.2.1 t (.inl (by omega))))
        (by
          intro c hcq
          have := Nat.mul_le_mul_right z hcq
          have e4 : 2 * (q + 1) * z = (q + 1) * (z * 2) := by rw [Nat.mul_comm 2 (q + 1), Nat.mul_assoc, Nat.mul_comm 2 z]
          exact sorted_congr (h2 c (by omega)) (fun t t1 t2 => p1.2.1 t (.inr (by omega))))
      rw [← e3] at g1 g2
      exact ⟨permIn_trans _ _ _ _ _ (permIn_mono _ _ _ _ 0 n (by omega) hc hn p1) g1, g2⟩
    · rw [dif_neg (fun h => hc h.1)]
      by_cases hm : q * (z * 2) + z < n
      · rw [if_pos hm]
        obtain ⟨p1, p2⟩ := symM_spec hS N (q * (z * 2)) (q * (z * 2) + z) n d (by omega) (by omega) (by omega) hn (by rwa [Nat.min_eq_left (by omega)] at hA) (by rwa [Nat.min_eq_right (by omega)] at hB)
        refine ⟨permIn_mono _ _ _ _ 0 n (by omega) (Nat.le_refl _) hn p1, fun c i j q1 q2 q3 => ?_⟩
        by_cases k1 : c < q
        · have hl := low c k1
          rw [p1.2.1 i (.inl (by omega)), p1.2.1 j (.inl (by omega))]
          exact h1 c k1 i j q1 q2 (by omega)
        · by_cases k2 : c = q
          · subst k2; exact p2 i j q1 q2 (by omega)
          · have := big c (by omega); omega
      · rw [if_neg hm]
        refine ⟨permIn_refl _ _ _, fun c i j q1 q2 q3 => ?_⟩
        by_cases k1 : c < q
        · exact h1 c k1 i j q1 q2 (by omega)
        · by_cases k2 : c = q
          · subst k2; exact hA i j q1 q2 (by omega)
          · have := big c (by omega); omega

theorem stRounds_spec (hS : SWO lt) (N n : Nat) (hN : n ≤ N) : ∀ (r z : Nat) (d : Array α), n - z ≤ r → 0 < z → n ≤ d.size → (∀ c, SortedIn lt (c * z) (min (c * z + z) n) d) →
    PermIn 0 n d (stRounds lt N n z d) ∧ SortedIn lt 0 n (stRounds lt N n z d) := by
  intro r
  induction r with
  | zero =>
    intro z d hr hz hn h
    rw [stRounds, dif_neg (by omega)]
    have := h 0
    rw [Nat.zero_mul, Nat.zero_add, Nat.min_eq_right (by omega)] at this
    exact ⟨permIn_refl _ _ _, this⟩
  | succ r ih =>
    intro z d hr hz hn h
    rw [stRounds]
    by_cases hc : z < n
    · rw [dif_pos ⟨hc, hz⟩]
      obtain ⟨p1, p2⟩ := stPass_spec hS N z n hz hN _ 0 d (Nat.le_refl _) (by omega) hn (fun c hcc => by omega) (fun c _ => h c)
      rw [Nat.zero_mul] at p1 p2
      obtain ⟨g1, g2⟩ := ih (z * 2) _ (by omega) (by omega) (by rw [p1.1]; exact hn) p2
      exact ⟨permIn_trans _ _ _ _ _ p1 g1, g2⟩
    · rw [dif_neg (by omega)]
      have := h 0
      rw [Nat.zero_mul, Nat.zero_add, Nat.min_eq_right (by omega)] at this
      exact ⟨permIn_refl _ _ _, this⟩

/-- It sorts. -/
theorem stab_spec (hS : SWO lt) (d : Array α) : PermIn 0 d.size d (stab lt d) ∧ SortedIn lt 0 d.size (stab lt d) := by
  obtain ⟨p1, p2⟩ := stBlk_spec hS d.size _ 0 d (Nat.le_refl _) (by omega) (Nat.le_refl _) ⟨0, rfl⟩ (fun c hc => by omega)
  obtain ⟨g1, g2⟩ := stRounds_spec hS d.size d.size (Nat.le_refl _) _ 20 (stBlk lt d.size 0 d) (Nat.le_refl _) (by omega) (by rw [p1.1]; exact Nat.le_refl _) p2
  exact ⟨permIn_trans _ _ _ _ _ p1 g1, g2⟩
end
end Go.Proofs.Ytpnkkdpggofanaa
