import Derived.Test.YtkkmdjkahdglhaaAiT7
namespace Go.AI.T3
open Go Go.Proofs
set_option linter.unusedVariables false
set_option linter.unusedSimpArgs false

attribute [local simp] execC runC stepC goOp skipOp aop rdS rds rdsS rd get put del kill isLp disown builtinA lenA Try.underlying9 Try.underlying4 binDV intBin strBin dup dupC okV ofConst ofConst0 pureR ftOf pickB restrict keepB indexA
  callA toDV1s toDV1 toD0 of1 toDV ofDV finish resultsA resultA plain plainC retA numbered unDV sliceA bound elems

def wordsL : List UInt8 := [32, 118, 97, 114, 32, 97, 114, 114, 97, 121, 32, 111, 110, 32, 115, 116, 97, 114, 116, 32, 109, 101, 115, 115, 97, 103, 101, 32, 116, 105, 99, 107, 32, 105, 110, 112, 117, 116, 32, 105, 102, 32, 101, 108, 115, 101, 32, 119, 104, 105, 108, 101, 32, 115, 101, 110, 100, 32, 111, 117, 116, 112, 117, 116, 32, 115, 101, 108, 102, 32, 112, 114, 111, 99, 115, 32, 102, 114, 111, 109, 32, 118, 97, 108, 117, 101, 32]

def at14 (w : List UInt8) (i : Nat) : ST := ⟨[(4, .d (.str w)), (5, .d (.int .i64 (i : Nat)))], []⟩

theorem l14_1_end (k : Nat) (w : List UInt8) (n : Nat) (hw : w.length ≤ 140737488351234) (h0 : n ≤ 88) (h : 87 < n + w.length) : execC (X k) k l14_1 (at14 w n) = some (.ext 2, ⟨[(4, .d (.str w)), (5, .d (.int .i64 n)), (26, .d (.bool false))], []⟩) := by
  have hwr : IntKind.i64.wrap ((n : Int) + w.length) = (n : Int) + w.length := wrap_small (by omega) (by omega)
  have h1 : ¬ ((n : Int) + w.length ≤ 87) := by omega
  simp [l14_1, at14, hwr, h1]

theorem l14_1_hit (k : Nat) (w : List UInt8) (n : Nat) (h : n + w.length ≤ 87) (hh : (wordsL.take (n + w.length)).drop n = w) : execC (X k) k l14_1 (at14 w n) = some (.ret, ⟨[(2, .d (.bool true))], []⟩) := by
  have hwr : IntKind.i64.wrap ((n : Int) + w.length) = (n : Int) + w.length := wrap_small (by omega) (by omega)
  have h1 : ((n : Int) + w.length ≤ 87) := by omega
  have h2 : (0 : Int) ≤ (n : Int) + w.length := by omega
  have h3 : (n : Int) ≤ (n : Int) + w.length := by omega
  have h4 : ((n : Int) + w.length).toNat = n + w.length := by omega
  simp only [wordsL] at hh
  simp [l14_1, at14, hwr, h1, h2, h3, h4, hh]

theorem l14_1_go (k : Nat) (w : List UInt8) (n : Nat) (h : n + w.length ≤ 87) (hh : (wordsL.take (n + w.length)).drop n ≠ w) : execC (X k) k l14_1 (at14 w n) = some (.nrm, at14 w (n + 1)) := by
  have hwr : IntKind.i64.wrap ((n : Int) + w.length) = (n : Int) + w.length := wrap_small (by omega) (by omega)
  have hwr' : IntKind.i64.wrap ((n : Int) + 1) = (n : Int) + 1 := wrap_small (by omega) (by omega)
  have h1 : ((n : Int) + w.length ≤ 87) := by omega
  have h2 : (0 : Int) ≤ (n : Int) + w.length := by omega
  have h3 : (n : Int) ≤ (n : Int) + w.length := by omega
  have h4 : ((n : Int) + w.length).toNat = n + w.length := by omega
  simp only [wordsL] at hh
  simp [l14_1, at14, hwr, hwr', h1, h2, h3, h4, hh]

/-- The first place from 'n' on where the words hold 'w', or where there is no room any more. -/
def seek (w : List UInt8) : Nat → Nat → Nat
  | 0, n => n
  | j + 1, n => if n + w.length ≤ 87 ∧ (wordsL.take (n + w.length)).drop n ≠ w then seek w j (n + 1) else n

def found (w : List UInt8) : Nat → Nat → Bool
  | 0, _ => false
  | j + 1, n => if n + w.length ≤ 87 then (if (wordsL.take (n + w.length)).drop n = w then true else found w j (n + 1)) else false

theorem L14_1 (k : Nat) (w : List UInt8) (hw : w.length ≤ 140737488351234) : ∀ (j n : Nat), n ≤ 88 → 88 - n < j → ∃ s : Fr, loopN j (execC (X k) k l14_1) (at14 w n) = some (bif found w j n then (.ret, ⟨[(2, .d (.bool true))], []⟩) else (.ext 2, ⟨s, []⟩))
  | 0, n, _, h => by omega
  | j + 1, n, h0, h => by
    simp only [loopN]
    by_cases h1 : n + w.length ≤ 87
    · by_cases h2 : (wordsL.take (n + w.length)).drop n = w
      · rw [l14_1_hit k w n h1 h2, show found w (j + 1) n = true by rw [found, if_pos h1, if_pos h2]]
        exact ⟨[], rfl⟩
      · rw [l14_1_go k w n h1 h2, show found w (j + 1) n = found w j (n + 1) by rw [found, if_pos h1, if_neg h2]]
        exact L14_1 k w hw j (n + 1) (by omega) (by omega)
    · rw [l14_1_end k w n hw h0 (by omega), show found w (j + 1) n = false by rw [found, if_neg h1]]
      exact ⟨_, rfl⟩

/-- rollbacknetref01.Reserved -/
def rreserved (s : List UInt8) : Bool := !s.isEmpty && (!s.any (· == 32) && found (32 :: (s ++ [32])) 90 0)

theorem found_more (w : List UInt8) : ∀ (j n : Nat), n ≤ 88 → 88 - n < j → found w j n = found w (j + 1) n
  | 0, n, _, h => by omega
  | j + 1, n, h0, h => by
    rw [found, found]
    by_cases h1 : n + w.length ≤ 87
    · rw [if_pos h1, if_pos h1]
      by_cases h2 : n + 1 ≤ 88
      · rw [found_more w j (n + 1) h2 (by omega)]
      · omega
    · rw [if_neg h1, if_neg h1]

theorem found_fuel (w : List UInt8) : ∀ j, found w (90 + j) 0 = found w 90 0
  | 0 => rfl
  | j + 1 => by rw [← found_fuel w j, show 90 + (j + 1) = 90 + j + 1 by omega, ← found_more w (90 + j) 0 (by omega) (by omega)]

theorem rreserved_eq (k : Nat) (s : List UInt8) (hs : s.length ≤ 140737488351232) (hk : s.length + 90 ≤ k) : F (k + 1) 14 [.d (.str s)] [] = some (.d (.bool (rreserved s)), []) := by
  obtain ⟨c, h1, h2⟩ := c14_eq
  obtain ⟨j, rfl⟩ : ∃ j, k = 90 + j := ⟨k - 90, by omega⟩
  have h3 := L14_0 (90 + j) s hs (90 + j) (by omega)
  rw [F, callF_eq Try.func14 h1 h2]
  cases s with
  | nil => simp [c14, Try.f14, rreserved]
  | cons b r =>
    have hl : ¬ ((r.length : Int) + 1 = 0) := by omega
    cases ha : (b :: r).any (· == 32) with
    | true =>
      rw [ha] at h3
      simp only [if_true] at h3
      simp [c14, Try.f14, rreserved, h3, ha, hl]
    | false =>
      rw [ha] at h3
      simp only [Bool.false_eq_true, if_false] at h3
      obtain ⟨s', h4⟩ := L14_1 (90 + j) (32 :: (b :: r ++ [32])) (by simp at hs ⊢; omega) (90 + j) 0 (by omega) (by omega)
      rw [found_fuel] at h4
      have hl1 : 1 + (r.length + 1) ≤ 9223372036854775807 := by simp at hs; omega
      have hl2 : r.length + 1 + 1 + 1 ≤ 9223372036854775807 := by simp at hs; omega
      simp only [at14, Int.natCast_zero, Int.ofNat_zero, List.cons_append] at h4
      cases hf : found (32 :: (b :: (r ++ [32]))) 90 0 with
      | true =>
        rw [hf] at h4
        simp only [cond_true] at h4
        simp [c14, Try.f14, rreserved, h3, ha, hl, hl1, hl2, h4, hf]
      | false =>
        rw [hf] at h4
        simp only [cond_false] at h4
        simp [c14, Try.f14, rreserved, h3, ha, hl, hl1, hl2, h4, hf]
end Go.AI.T3
