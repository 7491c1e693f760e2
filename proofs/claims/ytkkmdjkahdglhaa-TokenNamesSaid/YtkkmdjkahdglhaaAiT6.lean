import Derived.Test.YtkkmdjkahdglhaaAiT5
namespace Go.AI.T3
open Go Go.Proofs
set_option linter.unusedVariables false
set_option linter.unusedSimpArgs false

attribute [local simp] execC runC stepC goOp skipOp aop rdS rds rdsS rd get put del kill isLp disown builtinA lenA Try.underlying9 Try.underlying4 binDV intBin strBin dup dupC okV ofConst ofConst0 pureR ftOf pickB restrict keepB indexA
  callA toDV1s toDV1 toD0 of1 toDV ofDV finish resultsA resultA plain plainC retA numbered unDV sliceA bound elems

theorem iso11 : iso 11 = true := by kernel_rfl
theorem iso12 : iso 12 = true := by kernel_rfl
theorem iso13 : iso 13 = true := by kernel_rfl
theorem iso14 : iso 14 = true := by kernel_rfl
theorem iso20 : iso 20 = true := by kernel_rfl
theorem iso21 : iso 21 = true := by kernel_rfl
theorem iso22 : iso 22 = true := by kernel_rfl
theorem iso6 : iso 6 = true := by kernel_rfl

def kw : List (List UInt8) := [[118, 97, 114], [97, 114, 114, 97, 121], [111, 110], [115, 116, 97, 114, 116], [109, 101, 115, 115, 97, 103, 101], [116, 105, 99, 107], [105, 110, 112, 117, 116], [105, 102], [101, 108, 115, 101], [119, 104, 105, 108, 101], [115, 101, 110, 100], [111, 117, 116, 112, 117, 116], [115, 101, 108, 102], [112, 114, 111, 99, 115], [102, 114, 111, 109], [118, 97, 108, 117, 101]]

theorem reserved_in (k : Nat) : (kw.all fun s => chkB (F (k + 1) 13 [.d (.str s)] []) true) = true := by kernel_rfl

theorem reserved_eq (k : Nat) (s : List UInt8) : F (k + 1) 13 [.d (.str s)] [] = some (.d (.bool (decide (s ∈ kw))), []) := by
  by_cases h : s ∈ kw
  · rw [decide_eq_true h]
    exact chkB_spec ((List.all_eq_true.1 (reserved_in k)) s h)
  · rw [decide_eq_false h]
    simp only [kw, List.mem_cons, List.not_mem_nil, or_false, not_or] at h
    obtain ⟨h1, h2⟩ := c13_eq.choose_spec
    rw [F, callF_eq Try.func13 h1 h2]
    simp [c13, h, Try.f13]

theorem awake_eq (k : Nat) : F (k + 20) 6 [] [] = some (.d (.bool true), []) := by kernel_rfl

/-- token.Valid -/
def valid (s : List UInt8) : Bool := match s with
  | [] => false
  | b :: _ => decide (s.length ≤ 16) && (isLetter b.toNat && (decide (runLen s = s.length) && !decide (s ∈ kw)))

theorem valid_eq (k : Nat) (s : List UInt8) (hs : s.length ≤ 140737488351232) (hk : s.length ≤ k) : F (k + 3) 11 [.d (.str s)] [] = some (.d (.bool (valid s)), []) := by
  obtain ⟨c, h1, h2⟩ := c11_eq
  have h3 := run_eq k s hs hk
  have h4 := reserved_eq (k + 1) s
  rw [F, callF_eq Try.func11 h1 h2]
  simp only [F] at h3 h4
  cases s with
  | nil => simp [c11, Try.f11, valid]
  | cons b r =>
    have h5 := letter_eq (k + 1) b
    simp only [F] at h5
    by_cases hl : (b :: r).length ≤ 16
    · cases hb : isLetter b.toNat with
      | false =>
        rw [hb] at h5
        have hl' : ((r.length : Int) + 1 ≤ 16) := by simp at hl; omega
        have hl'' : r.length + 1 ≤ 16 := by simpa using hl
        simp [c11, Try.f11, valid, hl', hl'', iso19, h5, hb]
      | true =>
        rw [hb] at h5
        have hl' : ((r.length : Int) + 1 ≤ 16) := by simp at hl; omega
        have hl'' : r.length + 1 ≤ 16 := by simpa using hl
        by_cases hr : runLen (b :: r) = r.length + 1
        · simp [c11, Try.f11, valid, hl', hl'', iso19, iso20, iso13, h3, h4, h5, hb, hr]
        · have hr' : ¬ ((runLen (b :: r) : Int) = (r.length : Int) + 1) := by omega
          simp [c11, Try.f11, valid, hl', hl'', iso19, iso20, iso13, h3, h4, h5, hb, hr, hr']
    · have hl' : ¬ ((r.length : Int) + 1 ≤ 16) := by simp at hl; omega
      have hl'' : ¬ (r.length + 1 ≤ 16) := by simpa using hl
      simp [c11, Try.f11, valid, hl', hl'']
end Go.AI.T3
