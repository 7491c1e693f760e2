import Derived.Test.YtkkmdjkahdglhaaAiT6
namespace Go.AI.T3
open Go Go.Proofs
set_option linter.unusedVariables false
set_option linter.unusedSimpArgs false

attribute [local simp] execC runC stepC goOp skipOp aop rdS rds rdsS rd get put del kill isLp disown builtinA lenA Try.underlying9 Try.underlying4 binDV intBin strBin dup dupC okV ofConst ofConst0 pureR ftOf pickB restrict keepB indexA
  callA toDV1s toDV1 toD0 of1 toDV ofDV finish resultsA resultA plain plainC retA numbered unDV sliceA bound elems

theorem rletter_all (k : Nat) : ((List.range 256).all fun n => chkB (F (k + 1) 21 [.d (.int .u8 n)] []) (isLetter n)) = true := by kernel_rfl
theorem rdigit_all (k : Nat) : ((List.range 256).all fun n => chkB (F (k + 1) 22 [.d (.int .u8 n)] []) (isDigit n)) = true := by kernel_rfl
theorem rletter_eq (k : Nat) (b : UInt8) : F (k + 1) 21 [.d (.int .u8 b.toNat)] [] = some (.d (.bool (isLetter b.toNat)), []) := chkB_spec (byteAll (rletter_all k) b)
theorem rdigit_eq (k : Nat) (b : UInt8) : F (k + 1) 22 [.d (.int .u8 b.toNat)] [] = some (.d (.bool (isDigit b.toNat)), []) := chkB_spec (byteAll (rdigit_all k) b)

/-- Rounds that count up. -/
theorem rounds {f : ST → Option (Ex × ST)} {st : Nat → ST} {n m : Nat} {r : Ex × ST} (hnm : n ≤ m) (hstep : ∀ i, n ≤ i → i < m → f (st i) = some (.nrm, st (i + 1))) (hend : f (st m) = some r) (hr : r.1 ≠ .nrm) :
    ∀ j, m - n < j → loopN j f (st n) = some r := by
  intro j
  induction j generalizing n with
  | zero => intro h; omega
  | succ j ih =>
    intro h
    simp only [loopN]
    by_cases he : n = m
    · subst he
      rw [hend]
      obtain ⟨ex, s⟩ := r
      cases ex with
      | nrm => exact absurd rfl hr
      | ext i => rfl
      | ret => rfl
    · rw [hstep n (Nat.le_refl _) (by omega)]
      exact ih (by omega) (fun i h1 h2 => hstep i (by omega) h2) (by omega)

/-- How many bytes stand before the first one that is so. -/
def upTo (p : UInt8 → Bool) (s : List UInt8) : Nat := (s.takeWhile fun b => !p b).length

theorem upTo_le (p : UInt8 → Bool) (s : List UInt8) : upTo p s ≤ s.length := by
  unfold upTo; exact (List.takeWhile_sublist _).length_le

theorem upTo_before (p : UInt8 → Bool) : ∀ (s : List UInt8) (i : Nat) (b : UInt8), i < upTo p s → s[i]? = some b → p b = false
  | [], i, b, _, h => by simp at h
  | c :: s, i, b, hi, h => by
    unfold upTo at hi
    rw [List.takeWhile_cons] at hi
    cases hp : p c with
    | true => rw [hp] at hi; simp at hi
    | false =>
      rw [hp] at hi
      simp at hi
      cases i with
      | zero => simp at h; rw [← h]; exact hp
      | succ i => exact upTo_before p s i b (by unfold upTo; omega) (by simpa using h)

theorem upTo_at (p : UInt8 → Bool) : ∀ (s : List UInt8) (b : UInt8), s[upTo p s]? = some b → p b = true
  | [], b, h => by simp at h
  | c :: s, b, h => by
    unfold upTo at h
    rw [List.takeWhile_cons] at h
    cases hp : p c with
    | true => rw [hp] at h; simp at h; rw [← h]; exact hp
    | false =>
      rw [hp] at h
      simp at h
      exact upTo_at p s b h

theorem upTo_any (p : UInt8 → Bool) (s : List UInt8) : s.any p = decide (upTo p s < s.length) := by
  induction s with
  | nil => simp [upTo]
  | cons c s ih =>
    unfold upTo at ih ⊢
    rw [List.takeWhile_cons]
    cases hp : p c with
    | true => simp [hp]
    | false => simp [hp, ih]

theorem l14_0_end (k : Nat) (s : List UInt8) (n : Nat) (h : s.length ≤ n) : execC (X k) k l14_0 ⟨[(0, .d (.str s)), (3, .d (.int .i64 n))], []⟩ = some (.ext 0, ⟨[(0, .d (.str s)), (3, .d (.int .i64 n)), (12, .d (.bool false))], []⟩) := by
  have h1 : ¬ ((n : Int) < s.length) := by omega
  simp [l14_0, h1]

theorem l14_0_hit (k : Nat) (s : List UInt8) (n : Nat) (h : s[n]? = some 32) : execC (X k) k l14_0 ⟨[(0, .d (.str s)), (3, .d (.int .i64 n))], []⟩ = some (.ret, ⟨[(2, .d (.bool false))], []⟩) := by
  have h1 : n < s.length := len_le h
  have hb : s[n] = 32 := (List.getElem?_eq_some_iff.1 h).2
  simp [l14_0, h1, hb]

theorem byte_ne {b c : UInt8} (h : b ≠ c) : ¬ ((b.toNat : Int) = c.toNat) := fun he => h (UInt8.toNat_inj.1 (by omega))

theorem l14_0_go (k : Nat) (s : List UInt8) (n : Nat) (b : UInt8) (h : s[n]? = some b) (hs : s.length ≤ 140737488351232) (hw : b ≠ 32) : execC (X k) k l14_0 ⟨[(0, .d (.str s)), (3, .d (.int .i64 n))], []⟩ = some (.nrm, ⟨[(0, .d (.str s)), (3, .d (.int .i64 (n + 1 : Nat)))], []⟩) := by
  have h1 : n < s.length := len_le h
  have hb : s[n] = b := (List.getElem?_eq_some_iff.1 h).2
  have hwr : IntKind.i64.wrap ((n : Int) + 1) = (n : Int) + 1 := wrap_small (by omega) (by omega)
  have hw' : ¬ ((b.toNat : Int) = 32) := byte_ne (c := 32) hw
  simp [l14_0, h1, hb, hw', hwr]

theorem L14_0 (k : Nat) (s : List UInt8) (hs : s.length ≤ 140737488351232) (j : Nat) (hj : s.length < j) : loopN j (execC (X k) k l14_0) ⟨[(0, .d (.str s)), (3, .d (.int .i64 0))], []⟩ =
    some (if s.any (· == 32) then (.ret, ⟨[(2, .d (.bool false))], []⟩) else (.ext 0, ⟨[(0, .d (.str s)), (3, .d (.int .i64 s.length)), (12, .d (.bool false))], []⟩)) := by
  have hu := upTo_le (· == 32) s
  refine rounds (st := fun i => ⟨[(0, .d (.str s)), (3, .d (.int .i64 (i : Nat)))], []⟩) (n := 0) (m := upTo (· == 32) s) (by omega) (fun i _ hi => ?_) ?_ ?_ j (by omega)
  · have hb := List.getElem?_eq_getElem (l := s) (i := i) (by omega)
    exact l14_0_go k s i _ hb hs (by have := upTo_before _ s i _ hi hb; simpa using this)
  · rw [upTo_any]
    by_cases hlt : upTo (· == 32) s < s.length
    · rw [decide_eq_true hlt]
      have hb := List.getElem?_eq_getElem hlt
      have := upTo_at _ s _ hb
      rw [beq_iff_eq] at this
      rw [this] at hb
      exact l14_0_hit k s _ hb
    · rw [decide_eq_false hlt]
      rw [show upTo (· == 32) s = s.length by omega]
      exact l14_0_end k s _ (Nat.le_refl _)
  · split <;> simp
end Go.AI.T3
