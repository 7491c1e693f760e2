import Derived.Test.YtkkmdjkahdglhaaAiT8
namespace Go.AI.T3
open Go Go.Proofs
set_option linter.unusedVariables false
set_option linter.unusedSimpArgs false

attribute [local simp] execC runC stepC goOp skipOp aop rdS rds rdsS rd get put del kill isLp disown builtinA lenA Try.underlying9 Try.underlying4 binDV intBin strBin dup dupC okV ofConst ofConst0 pureR ftOf pickB restrict keepB indexA
  callA toDV1s toDV1 toD0 of1 toDV ofDV finish resultsA resultA plain plainC retA numbered unDV sliceA bound elems

theorem l12_0_end (k : Nat) (s : List UInt8) (n : Nat) (h : s.length ≤ n) : execC (X k) k l12_0 ⟨[(0, .d (.str s)), (3, .d (.int .i64 n))], []⟩ = some (.ext 0, ⟨[(0, .d (.str s)), (3, .d (.int .i64 n)), (25, .d (.bool false))], []⟩) := by
  have h1 : ¬ ((n : Int) < s.length) := by omega
  simp [l12_0, h1]

theorem l12_0_hit (k : Nat) (s : List UInt8) (n : Nat) (b : UInt8) (h : s[n]? = some b) (hw : isWord b.toNat = false) : execC (X (k + 1)) (k + 1) l12_0 ⟨[(0, .d (.str s)), (3, .d (.int .i64 n))], []⟩ = some (.ret, ⟨[(2, .d (.bool false))], []⟩) := by
  have h1 : n < s.length := len_le h
  have hb : s[n] = b := (List.getElem?_eq_some_iff.1 h).2
  simp only [isWord, Bool.or_eq_false_iff] at hw
  have h2 := rletter_eq k b
  have h3 := rdigit_eq k b
  rw [hw.1] at h2
  rw [hw.2] at h3
  simp only [F] at h2 h3
  simp [l12_0, h1, hb, iso21, iso22, h2, h3]

theorem l12_0_go (k : Nat) (s : List UInt8) (n : Nat) (b : UInt8) (h : s[n]? = some b) (hs : s.length ≤ 140737488351232) (hw : isWord b.toNat = true) : execC (X (k + 1)) (k + 1) l12_0 ⟨[(0, .d (.str s)), (3, .d (.int .i64 n))], []⟩ = some (.nrm, ⟨[(0, .d (.str s)), (3, .d (.int .i64 (n + 1 : Nat)))], []⟩) := by
  have h1 : n < s.length := len_le h
  have hb : s[n] = b := (List.getElem?_eq_some_iff.1 h).2
  have hwr : IntKind.i64.wrap ((n : Int) + 1) = (n : Int) + 1 := wrap_small (by omega) (by omega)
  have h2 := rletter_eq k b
  have h3 := rdigit_eq k b
  simp only [F] at h2 h3
  cases hl : isLetter b.toNat with
  | true =>
    rw [hl] at h2
    simp [l12_0, h1, hb, iso21, iso22, h2, hwr]
  | false =>
    have hd : isDigit b.toNat = true := by simpa [isWord, hl] using hw
    rw [hl] at h2
    rw [hd] at h3
    simp [l12_0, h1, hb, iso21, iso22, h2, h3, hwr]

theorem L12_0 (k : Nat) (s : List UInt8) (hs : s.length ≤ 140737488351232) (j : Nat) (hj : s.length < j) : ∃ fr : Fr, loopN j (execC (X (k + 1)) (k + 1) l12_0) ⟨[(0, .d (.str s)), (3, .d (.int .i64 0))], []⟩ =
    some (bif s.any (fun b => !isWord b.toNat) then (.ret, ⟨[(2, .d (.bool false))], []⟩) else (.ext 0, ⟨fr, []⟩)) := by
  have hu := upTo_le (fun b => !isWord b.toNat) s
  refine ⟨[(0, .d (.str s)), (3, .d (.int .i64 s.length)), (25, .d (.bool false))], ?_⟩
  refine rounds (st := fun i => ⟨[(0, .d (.str s)), (3, .d (.int .i64 (i : Nat)))], []⟩) (n := 0) (m := upTo (fun b => !isWord b.toNat) s) (by omega) (fun i _ hi => ?_) ?_ ?_ j (by omega)
  · have hb := List.getElem?_eq_getElem (l := s) (i := i) (by omega)
    exact l12_0_go k s i _ hb hs (by have := upTo_before _ s i _ hi hb; simpa using this)
  · rw [upTo_any]
    by_cases hlt : upTo (fun b => !isWord b.toNat) s < s.length
    · rw [decide_eq_true hlt]
      have hb := List.getElem?_eq_getElem hlt
      have := upTo_at _ s _ hb
      exact l12_0_hit k s _ _ hb (by simpa using this)
    · rw [decide_eq_false hlt]
      rw [show upTo (fun b => !isWord b.toNat) s = s.length by omega]
      exact l12_0_end (k + 1) s _ (Nat.le_refl _)
  · cases s.any (fun b => !isWord b.toNat) <;> simp

/-- rollbacknetref01.Valid -/
def rvalid (s : List UInt8) : Bool := match s with
  | [] => false
  | b :: _ => decide (s.length ≤ 16) && (isLetter b.toNat && (!rreserved s && !s.any (fun b => !isWord b.toNat)))

theorem rvalid_eq (k : Nat) (s : List UInt8) (hs : s.length ≤ 140737488351232) (hk : s.length + 90 ≤ k) : F (k + 2) 12 [.d (.str s)] [] = some (.d (.bool (rvalid s)), []) := by
  obtain ⟨c, h1, h2⟩ := c12_eq
  have h3 := rreserved_eq k s hs hk
  obtain ⟨fr, h6⟩ := L12_0 k s hs (k + 1) (by omega)
  rw [F, callF_eq Try.func12 h1 h2]
  simp only [F] at h3
  cases s with
  | nil => simp [c12, Try.f12, rvalid]
  | cons b r =>
    have hl0 : ¬ ((r.length : Int) + 1 = 0) := by omega
    have h5 := rletter_eq k b
    simp only [F] at h5
    by_cases hl : (b :: r).length ≤ 16
    · have hl' : ¬ ((16 : Int) < (r.length : Int) + 1) := by simp at hl; omega
      have hl'' : r.length + 1 ≤ 16 := by simpa using hl
      cases hb : isLetter b.toNat with
      | false =>
        rw [hb] at h5
        simp [c12, Try.f12, rvalid, hl0, hl', hl'', iso21, h5, hb]
      | true =>
        rw [hb] at h5
        cases hr : rreserved (b :: r) with
        | true =>
          rw [hr] at h3
          simp [c12, Try.f12, rvalid, hl0, hl', hl'', iso21, iso14, h3, h5, hb, hr]
        | false =>
          rw [hr] at h3
          cases ha : (b :: r).any (fun b => !isWord b.toNat) with
          | true =>
            rw [ha] at h6
            simp only [cond_true] at h6
            simp only [rvalid, hb, hr, ha]
            simp [c12, Try.f12, hl0, hl', hl'', iso21, iso14, h3, h5, h6]
          | false =>
            rw [ha] at h6
            simp only [cond_false] at h6
            simp only [rvalid, hb, hr, ha]
            simp [c12, Try.f12, hl0, hl', hl'', iso21, iso14, h3, h5, h6]
    · have hl' : ((16 : Int) < (r.length : Int) + 1) := by simp at hl; omega
      have hl'' : ¬ (r.length + 1 ≤ 16) := by simpa using hl
      simp [c12, Try.f12, rvalid, hl0, hl', hl'']

/-! ### The plain law -/

theorem runLen_eq (s : List UInt8) : decide (runLen s = s.length) = !s.any (fun b => !isWord b.toNat) := by
  have : runLen s = upTo (fun b => !isWord b.toNat) s := by simp [runLen, upTo]
  rw [this, upTo_any]
  have := upTo_le (fun b => !isWord b.toNat) s
  by_cases h : upTo (fun b => !isWord b.toNat) s = s.length
  · simp [h]
  · simp [h]; omega

theorem found_iff (w : List UInt8) : ∀ (j n : Nat), n ≤ 88 → 88 - n < j → (found w j n = true ↔ ∃ i, n ≤ i ∧ i + w.length ≤ 87 ∧ (wordsL.take (i + w.length)).drop i = w)
  | 0, n, _, h => by omega
  | j + 1, n, h0, h => by
    rw [found]
    by_cases h1 : n + w.length ≤ 87
    · rw [if_pos h1]
      by_cases h2 : (wordsL.take (n + w.length)).drop n = w
      · rw [if_pos h2]
        exact ⟨fun _ => ⟨n, Nat.le_refl _, h1, h2⟩, fun _ => rfl⟩
      · rw [if_neg h2, found_iff w j (n + 1) (by omega) (by omega)]
        constructor
        · rintro ⟨i, h3, h4, h5⟩; exact ⟨i, by omega, h4, h5⟩
        · rintro ⟨i, h3, h4, h5⟩
          refine ⟨i, ?_, h4, h5⟩
          rcases Nat.lt_or_ge n i with h6 | h6
          · omega
          · have : i = n := by omega
            subst this; exact absurd h5 h2
    · rw [if_neg h1]
      constructor
      · intro h; cases h
      · rintro ⟨i, h3, h4, _⟩; omega

/-- Each piece of the words between two blanks, without a blank inside, is one of the words. -/
def pieces : Bool := (List.range 88).all fun i => (List.range (86 - i)).all fun n =>
  let v := (wordsL.drop (i + 1)).take n
  !(wordsL[i]? == some 32 && wordsL[i + 1 + n]? == some 32 && !v.isEmpty && !v.any (· == 32)) || kw.contains v

theorem pieces_ok : pieces = true := by kernel_rfl

theorem kw_found : (kw.all rreserved) = true := by kernel_rfl

theorem reserved_same (s : List UInt8) : decide (s ∈ kw) = rreserved s := by
  by_cases h : s ∈ kw
  · rw [decide_eq_true h, (List.all_eq_true.1 kw_found) s h]
  · rw [decide_eq_false h]
    symm
    rw [← Bool.not_eq_true]
    intro hr
    simp only [rreserved, Bool.and_eq_true, Bool.not_eq_true'] at hr
    obtain ⟨h1, h2, h3⟩ := hr
    rw [found_iff _ 90 0 (by omega) (by omega)] at h3
    obtain ⟨i, _, h4, h5⟩ := h3
    have hlen : wordsL.length = 87 := rfl
    simp only [List.length_cons, List.length_append, List.length_nil] at h4 h5
    have hp := (List.all_eq_true.1 ((List.all_eq_true.1 pieces_ok) i (List.mem_range.2 (by omega)))) s.length (List.mem_range.2 (by omega))
    have get : ∀ q, q < s.length + 2 → wordsL[i + q]? = (32 :: (s ++ [32]))[q]? := fun q hq => by
      rw [← h5, List.getElem?_drop, List.getElem?_take, if_pos (by omega)]
    have hv : (wordsL.drop (i + 1)).take s.length = s := by
      apply List.ext_getElem?
      intro q
      rw [List.getElem?_take, List.getElem?_drop]
      split
      · rename_i hq
        rw [show i + 1 + q = i + (q + 1) by omega, get (q + 1) (by omega), List.getElem?_cons_succ, List.getElem?_append_left hq]
      · rename_i hq
        rw [List.getElem?_eq_none (by omega)]
    have hb0 := get 0 (by omega)
    have hb1 := get (s.length + 1) (by omega)
    rw [List.getElem?_cons_succ, List.getElem?_append_right (Nat.le_refl _)] at hb1
    simp at hb0 hb1
    rw [show i + (s.length + 1) = i + 1 + s.length by omega] at hb1
    simp only [hv, hb0, hb1, h1, h2] at hp
    simp at hp
    exact h hp

theorem valid_same (s : List UInt8) : valid s = rvalid s := by
  cases s with
  | nil => rfl
  | cons b r =>
    simp only [valid, rvalid, runLen_eq, reserved_same]
    cases decide ((b :: r).length ≤ 16) <;> cases isLetter b.toNat <;> cases rreserved (b :: r) <;> simp

/-! ### The law -/

theorem names_eq (s : List UInt8) (hs : s.length ≤ 140737488351232) : F (s.length + 100) 5 [.d (.str s)] [] = some (.d (.bool true), []) := by
  obtain ⟨c, h1, h2⟩ := c5_eq
  have h3 := awake_eq (s.length + 79)
  have h4 := valid_eq (s.length + 96) s hs (by omega)
  have h5 := rvalid_eq (s.length + 97) s hs (by omega)
  have h6 := reserved_eq (s.length + 98) s
  have h7 := rreserved_eq (s.length + 98) s hs (by omega)
  rw [F, callF_eq (k := s.length + 99) Try.func5 h1 h2]
  simp only [F] at h3 h4 h5 h6 h7
  rw [valid_same] at h4
  rw [reserved_same] at h6
  simp [c5, Try.f5, iso6, iso11, iso12, iso13, iso14, h3, h4, h5, h6, h7]
end Go.AI.T3
