import Derived.Test.YtkkmdjkahdglhaaAiT4
namespace Go.AI.T3
open Go Go.Proofs
set_option linter.unusedVariables false
set_option linter.unusedSimpArgs false

noncomputable abbrev X (k : Nat) : Cx := cxOf Try.prog iso (fun _ => none) ann k

theorem iso19 : iso 19 = true := by kernel_rfl
theorem iso23 : iso 23 = true := by kernel_rfl
def isWord (n : Nat) : Bool := isLetter n || isDigit n


attribute [local simp] execC runC stepC goOp skipOp aop rdS rds rdsS rd get put del kill isLp disown builtinA lenA Try.underlying9 binDV intBin dup dupC okV ofConst ofConst0 pureR ftOf pickB restrict keepB indexA
  callA toDV1s toDV1 toD0 of1 toDV ofDV finish resultsA resultA plain plainC retA numbered unDV

theorem len_le {s : List UInt8} {n : Nat} {b : UInt8} (h : s[n]? = some b) : n < s.length := (List.getElem?_eq_some_iff.1 h).1

theorem step20_end (k : Nat) (s : List UInt8) (n : Nat) (h : s.length ≤ n) : execC (X k) k l20_0 ⟨[(0, .d (.str s)), (3, .d (.int .i64 n))], []⟩ = some (.ext 0, ⟨[(0, .d (.str s)), (3, .d (.int .i64 n)), (19, .d (.bool false))], []⟩) := by
  have h1 : ¬ ((n : Int) < s.length) := by omega
  simp [l20_0, h1]

theorem step20_no (k : Nat) (s : List UInt8) (n : Nat) (b : UInt8) (h : s[n]? = some b) (hw : isWord b.toNat = false) : execC (X (k + 1)) (k + 1) l20_0 ⟨[(0, .d (.str s)), (3, .d (.int .i64 n))], []⟩ = some (.ext 0, ⟨[(0, .d (.str s)), (3, .d (.int .i64 n)), (19, .d (.bool false))], []⟩) := by
  have h1 : n < s.length := len_le h
  have hb : s[n] = b := (List.getElem?_eq_some_iff.1 h).2
  simp only [isWord, Bool.or_eq_false_iff] at hw
  have h2 := letter_eq k b
  have h3 := digit_eq k b
  rw [hw.1] at h2
  rw [hw.2] at h3
  simp only [F] at h2 h3
  simp [l20_0, h1, hb, iso19, iso23, h2, h3]

theorem step20_yes (k : Nat) (s : List UInt8) (n : Nat) (b : UInt8) (h : s[n]? = some b) (hs : s.length ≤ 140737488351232) (hw : isWord b.toNat = true) : execC (X (k + 1)) (k + 1) l20_0 ⟨[(0, .d (.str s)), (3, .d (.int .i64 n))], []⟩ = some (.nrm, ⟨[(0, .d (.str s)), (3, .d (.int .i64 (n + 1 : Nat)))], []⟩) := by
  have h1 : n < s.length := len_le h
  have hb : s[n] = b := (List.getElem?_eq_some_iff.1 h).2
  have hwr : IntKind.i64.wrap ((n : Int) + 1) = (n : Int) + 1 := wrap_small (by omega) (by omega)
  have h2 := letter_eq k b
  have h3 := digit_eq k b
  simp only [F] at h2 h3
  cases hl : isLetter b.toNat with
  | true =>
    rw [hl] at h2
    simp [l20_0, h1, hb, iso19, iso23, h2, hwr]
  | false =>
    have hd : isDigit b.toNat = true := by simpa [isWord, hl] using hw
    rw [hl] at h2
    rw [hd] at h3
    simp [l20_0, h1, hb, iso19, iso23, h2, h3, hwr]

def runLen (s : List UInt8) : Nat := (s.takeWhile fun b => isWord b.toNat).length

theorem L20_eq (k : Nat) (s : List UInt8) (hs : s.length ≤ 140737488351232) : ∀ (j n : Nat), n ≤ s.length → s.length - n < j → loopN j (execC (X (k + 1)) (k + 1) l20_0) ⟨[(0, .d (.str s)), (3, .d (.int .i64 n))], []⟩ =
    some (.ext 0, ⟨[(0, .d (.str s)), (3, .d (.int .i64 (n + runLen (s.drop n) : Nat))), (19, .d (.bool false))], []⟩)
  | 0, n, _, h => by omega
  | j + 1, n, hn, h => by
    simp only [loopN]
    cases hb : s[n]? with
    | none =>
      have hl : s.length ≤ n := by simpa using hb
      rw [step20_end _ _ _ hl, List.drop_eq_nil_of_le hl]
      rfl
    | some b =>
      have hl : n < s.length := len_le hb
      have hd : s.drop n = b :: s.drop (n + 1) := by rw [List.drop_eq_getElem_cons hl]; congr 1; exact (List.getElem?_eq_some_iff.1 hb).2
      cases hw : isWord b.toNat with
      | false =>
        rw [step20_no k s n b hb hw, hd]
        simp [runLen, hw]
      | true =>
        rw [step20_yes k s n b hb hs hw]
        simp only
        rw [L20_eq k s hs j (n + 1) (by omega) (by omega), hd]
        simp only [runLen, List.takeWhile_cons, hw, if_true, List.length_cons]
        rw [show n + 1 + (List.takeWhile (fun b => isWord b.toNat) (s.drop (n + 1))).length = n + ((List.takeWhile (fun b => isWord b.toNat) (s.drop (n + 1))).length + 1) by omega]

theorem run_eq (k : Nat) (s : List UInt8) (hs : s.length ≤ 140737488351232) (hk : s.length ≤ k) : F (k + 2) 20 [.d (.str s)] [] = some (.d (.int .i64 (runLen s)), []) := by
  obtain ⟨c, h1, h2⟩ := c20_eq
  have := L20_eq k s hs (k + 1) 0 (by omega) (by omega)
  simp only [List.drop_zero, Nat.zero_add, Int.ofNat_zero, Int.natCast_zero] at this
  rw [F, callF_eq Try.func20 h1 h2]
  simp [c20, this, Try.f20]
end Go.AI.T3
