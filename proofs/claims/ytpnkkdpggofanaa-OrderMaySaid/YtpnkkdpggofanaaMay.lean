/- Of any trace what may come; its serial trace. Plain Lean. -/
import Derived.Test.YtpnkkdpggofanaaPlayM
namespace Go.Proofs.Ytpnkkdpggofanaa

/-- What may come of it. -/
def may (n : Int) (l : List Ev) : List Ev := l.take (playM (new n) l).2
theorem may_le (n : Int) (l : List Ev) : (playM (new n) l).2 ≤ l.length := by
  generalize new n = m
  induction l generalizing m with
  | nil => simp [playM]
  | cons e l ih =>
    cases h : stepM m e with
    | none => rw [show playM m (e :: l) = (m, 0) by simp [playM, h]]; simp
    | some m' => rw [show playM m (e :: l) = ((playM m' l).1, (playM m' l).2 + 1) by simp [playM, h]]; have := ih m'; simp; omega
theorem may_len (n : Int) (l : List Ev) : (may n l).length = (playM (new n) l).2 := by
  unfold may
  rw [List.length_take]
  have := may_le n l
  omega
theorem may_all (n : Int) (l : List Ev) : All (new n) (may n l) := by
  have key : ∀ (m : Ma) (l : List Ev) (j : Nat), j ≤ (playM m l).2 → (playM m (l.take j)).2 = j := by
    intro m l
    induction l generalizing m with
    | nil => intro j h; simp [playM] at h ⊢; omega
    | cons e l ih =>
      intro j h
      cases j with
      | zero => simp [playM]
      | succ j =>
        cases hs : stepM m e with
        | none => simp [playM, hs] at h
        | some m' =>
          have hp : ∀ l', playM m (e :: l') = ((playM m' l').1, (playM m' l').2 + 1) := fun l' => by simp [playM, hs]
          rw [hp] at h
          rw [List.take_succ_cons, hp]
          have := ih m' j (by simpa using h)
          simp [this]
  unfold All
  rw [may_len]
  exact key _ _ _ (Nat.le_refl _)
theorem may_mem {n : Int} {l : List Ev} {e : Ev} (h : e ∈ may n l) : e ∈ l := List.mem_of_mem_take h
theorem may_serial (n : Int) (l : List Ev) : serialOf (serialOf (may n l)) = serialOf (may n l) := by
  obtain ⟨h1, h2, _⟩ := serial_law (may_all n l)
  exact serial_self h1 h2
theorem serialOf_len (l : List Ev) : (serialOf l).length ≤ 3 * l.length := (serUpto_len l _ _).2
end Go.Proofs.Ytpnkkdpggofanaa
