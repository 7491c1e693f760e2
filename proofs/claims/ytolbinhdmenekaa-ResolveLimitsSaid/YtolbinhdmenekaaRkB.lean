/- token.run, token.Valid, Lookup, in sum. -/
import Derived.Test.YtolbinhdmenekaaRkA
namespace Go.AI.RK
open Go Go.Proofs
set_option maxRecDepth 10000
set_option linter.unusedVariables false
set_option linter.unusedSimpArgs false


def big : Int := 140737488351232

def isDig (b : UInt8) : Bool := isDigit (b.toNat : Int)
def isLet (b : UInt8) : Bool := isLetter (b.toNat : Int)
def isWord (b : UInt8) : Bool := isLet b || isDig b

/-- How many signs at the head of a text meet p. -/
def pre (p : UInt8 → Bool) (s : List UInt8) : Nat := (s.takeWhile p).length

theorem pre_le (p : UInt8 → Bool) (s : List UInt8) : pre p s ≤ s.length := (List.takeWhile_sublist _).length_le
theorem pre_nil (p : UInt8 → Bool) : pre p [] = 0 := rfl
theorem pre_yes {p : UInt8 → Bool} {c : UInt8} {s : List UInt8} (h : p c = true) : pre p (c :: s) = pre p s + 1 := by simp [pre, List.takeWhile_cons, h]
theorem pre_no {p : UInt8 → Bool} {c : UInt8} {s : List UInt8} (h : p c = false) : pre p (c :: s) = 0 := by simp [pre, List.takeWhile_cons, h]

theorem drop_at {s : List UInt8} {n : Nat} {b : UInt8} (h : s[n]? = some b) : s.drop n = b :: s.drop (n + 1) := by
  have hl := (List.getElem?_eq_some_iff.1 h).1
  rw [List.drop_eq_getElem_cons hl]; congr 1; exact (List.getElem?_eq_some_iff.1 h).2
theorem at_len {α : Type} {s : List α} {n : Nat} {b : α} (h : s[n]? = some b) : n < s.length := (List.getElem?_eq_some_iff.1 h).1

theorem pre_at_yes {p : UInt8 → Bool} {s : List UInt8} {n : Nat} {b : UInt8} (h : s[n]? = some b) (hp : p b = true) : pre p (s.drop n) = pre p (s.drop (n + 1)) + 1 := by rw [drop_at h, pre_yes hp]
theorem pre_at_no {p : UInt8 → Bool} {s : List UInt8} {n : Nat} {b : UInt8} (h : s[n]? = some b) (hp : p b = false) : pre p (s.drop n) = 0 := by rw [drop_at h, pre_no hp]

/-- Addition that stays in the machine's range. -/
theorem wrap_in {n : Int} (h0 : -9223372036854775808 ≤ n) (h1 : n ≤ 9223372036854775807) : IntKind.i64.wrap n = n := by
  simp [IntKind.wrap, IntKind.bits, IntKind.signed, IntKind.max]
  omega
def L_run_0 : ST → Tr (Ex × ST)
  | ⟨[(0, .d (.str s)), (3, .d (.int .i64 n))], []⟩ => .br (decide (0 ≤ n ∧ n ≤ s.length ∧ (s.length : Int) ≤ big)) (.leaf ((.ext 0), ⟨[(3, .d (.int .i64 (n + (pre isWord (s.drop n.toNat) : Int))))], []⟩)) .fail
  | _ => .fail

def runT : FT
  | [.d (.str s)], [] => .br (decide ((s.length : Int) ≤ big)) (.leaf (.d (.int .i64 (pre isWord s : Int)), [])) .fail
  | _, _ => .fail

noncomputable abbrev Xrun : TX := ⟨Try.prog, tbl [(19, letterT), (24, digitT)], iso, gl, vw⟩

theorem xok_Xrun (f : Nat) : XOK Xrun (ann f) gl := XOK.of base (l := [(19, letterT), (24, digitT)]) ⟨ok_letter, ok_digit, trivial⟩ f

def l_run_0 : CC := .seq (.seq (.region [
    ⟨.yes, (some 4), .move (.tmp 3), false, false, []⟩,
    ⟨.yes, (some 5), .move (.tmp 0), false, false, []⟩,
    ⟨.yes, (some 6), .call ⟨.builtin .len, #[(.tmp 5)], #[9]⟩, false, false, []⟩,
    ⟨.yes, (some 7), .binOp .lss 3 (.tmp 4) (.tmp 6) 3, false, false, []⟩,
    ⟨.yes, (some 8), .move (.tmp 7), true, false, []⟩,
    ⟨(.on 8 true), (some 9), .move (.tmp 0), false, false, []⟩,
    ⟨(.on 8 true), (some 10), .move (.tmp 3), false, false, []⟩,
    ⟨(.on 8 true), (some 11), .index 9 (.tmp 9) (.tmp 10), false, false, []⟩,
    ⟨(.on 8 true), (some 12), .call ⟨.value (.func 19), #[(.tmp 11)], #[5]⟩, false, false, []⟩,
    ⟨(.on 8 true), (some 13), .move (.tmp 12), true, false, []⟩,
    ⟨(.on 13 false), (some 14), .move (.tmp 0), false, false, []⟩,
    ⟨(.on 13 false), (some 15), .move (.tmp 3), false, false, []⟩,
    ⟨(.on 13 false), (some 16), .index 9 (.tmp 14) (.tmp 15), false, false, []⟩,
    ⟨(.on 13 false), (some 17), .call ⟨.value (.func 24), #[(.tmp 16)], #[5]⟩, false, false, []⟩,
    ⟨(.on 8 true), (some 18), .pick (.tmp 13) (.const (.bool true)) (.tmp 17), false, false, []⟩,
    ⟨.yes, (some 19), .pick (.tmp 8) (.tmp 18) (.const (.bool false)), false, false, []⟩] [0, 3, 19]) <|
  .cond (.tmp 19)
    (.skip)
    (.exit 0)) <|
  .block 1 <| .region [
    ⟨.yes, (some 20), .move (.tmp 3), true, false, []⟩,
    ⟨.yes, (some 21), .binOp .add 3 (.tmp 20) (.const (.int .i64 (1))) 3, false, false, []⟩,
    ⟨.yes, (some 3), .assign (.tmp 21), true, false, []⟩] [0, 3]

/-- rollbacknet/token.run -/
def c_run : CC := .seq (.region [
    ⟨.yes, (some 2), .assign (.const (.int .i64 (0))), false, false, []⟩] [0]) <|
  .seq (.region [
    ⟨.yes, (some 3), .assign (.const (.int .i64 (0))), false, false, []⟩] [0, 3]) <|
  .seq (.block 0 <| .keep [0, 3] <| .sum L_run_0 (.loop l_run_0)) <|
  .seq (.region [
    ⟨.yes, (some 22), .move (.tmp 3), true, false, []⟩,
    ⟨.yes, (some 2), .assign (.tmp 22), true, false, []⟩] [2]) <|
  .ret

theorem c_run_eq : ∃ c, Try.f20.body = some c ∧ codeOK Try.f20.ntmps c = true ∧ comp Try.prog (ann 20) c = erase c_run := ⟨_, rfl, by kernel_rfl, by kernel_rfl⟩

theorem body_run_0 (s : List UInt8) (n : Int) : bodyT Xrun [0, 3] [2] [(0, [3])] l_run_0 ⟨[(0, .d (.str s)), (3, .d (.int .i64 n))], []⟩ = (
    .br (decide (n < (s.length : Int)))
    (.br (decide ((0 : Int) ≤ n))
      (.opt (s[(Int.toNat n)]?) fun b1 => .br (isLetter (b1.toNat : Int))
        (.leaf (.nrm, ⟨[(0, (.d (.str s))), (3, (.d (.int .i64 (IntKind.i64.wrap (n + 1)))))], []⟩))
        (.br (decide ((0 : Int) ≤ n))
          (.opt (s[(Int.toNat n)]?) fun b2 => .br (isDigit (b2.toNat : Int))
            (.leaf (.nrm, ⟨[(0, (.d (.str s))), (3, (.d (.int .i64 (IntKind.i64.wrap (n + 1)))))], []⟩))
            (.leaf ((.ext 0), ⟨[(3, (.d (.int .i64 n)))], []⟩)))
          (.fail)))
      (.fail))
    (.leaf ((.ext 0), ⟨[(3, (.d (.int .i64 n)))], []⟩)) : Tr (Ex × ST)) := by kernel_rfl

theorem tree_run (s : List UInt8) : fnT Xrun c_run Try.f20.results.toList [.d (.str s)] [] = (
    .br (decide (0 ≤ (0 : Int) ∧ (0 : Int) ≤ s.length ∧ (s.length : Int) ≤ big))
    (.leaf ((.d (.int .i64 ((0 : Int) + (pre isWord (s.drop (0 : Int).toNat) : Int)))), []))
    (.fail) : Tr (AV × Hp)) := by kernel_rfl


theorem sum_run_0 : SumOK Try.prog gl (ann 20) L_run_0 (.loop l_run_0) := by
  refine SumOK.of_inv (X := Xrun) (xok_Xrun 20) (by simp only [Sums, l_run_0, and_true]) (by kernel_rfl) (lv := [0, 3]) (rt := [2]) (xs := [(0, [3])]) (by decide)
    (fun m st r => ∃ (s : List UInt8) (n : Nat), n ≤ s.length ∧ (s.length : Int) ≤ big ∧ st = ⟨[(0, .d (.str s)), (3, .d (.int .i64 (n : Int)))], []⟩ ∧ r = (.ext 0, ⟨[(3, .d (.int .i64 ((n : Int) + (pre isWord (s.drop n) : Int))))], []⟩) ∧ m = s.length - n) ?_ ?_
  · intro st r h
    unfold L_run_0 at h
    split at h
    · rename_i s n
      rcases Tr.br_some h with ⟨h1, h2⟩ | ⟨_, h2⟩
      · obtain ⟨h3, h4, h5⟩ := of_decide_eq_true h1
        obtain rfl := Tr.leaf_some h2
        obtain ⟨k, rfl⟩ := Int.eq_ofNat_of_zero_le h3
        exact ⟨_, s, k, by omega, h5, rfl, by simp, rfl⟩
      · exact Tr.fail_some h2
    · exact Tr.fail_some h
  · rintro m st r ⟨s, n, h1, h2, rfl, rfl, rfl⟩
    rw [body_run_0]
    have hw : n < s.length → IntKind.i64.wrap ((n : Int) + 1) = ((n + 1 : Nat) : Int) := fun h => by unfold big at h2; rw [wrap_in] <;> omega
    cases hb : s[n]? with
    | none =>
      have hl : s.length ≤ n := by simpa using hb
      have he : s.drop n = [] := List.drop_eq_nil_of_le hl
      refine ⟨.ext 0, _, ?_, .inl ⟨by simp, rfl⟩⟩
      have h3 : ¬ ((n : Int) < s.length) := by omega
      simp [Tr.run_br, Tr.run_leaf, h3, he, pre_nil]
    | some b =>
      have hl := at_len hb
      have h3 : ((n : Int) < s.length) := by omega
      cases hp : isWord b with
      | true =>
        refine ⟨.nrm, ⟨[(0, .d (.str s)), (3, .d (.int .i64 ((n + 1 : Nat) : Int)))], []⟩, ?_, .inr ⟨rfl, _, ?_, s, n + 1, by omega, h2, rfl, ?_, rfl⟩⟩
        · cases h4 : isLetter (b.toNat : Int) with
          | true => simp [Tr.run_br, Tr.run_leaf, Tr.run_opt_, h3, hb, h4, hw hl]
          | false =>
            have h5 : isDigit (b.toNat : Int) = true := by simpa [isWord, isLet, isDig, h4] using hp
            simp [Tr.run_br, Tr.run_leaf, Tr.run_opt_, h3, hb, h4, h5, hw hl]
        · omega
        · rw [pre_at_yes hb hp]; simp; omega
      | false =>
        refine ⟨.ext 0, _, ?_, .inl ⟨by simp, rfl⟩⟩
        simp only [isWord, Bool.or_eq_false_iff] at hp
        have h4 : isLetter (b.toNat : Int) = false := hp.1
        have h5 : isDigit (b.toNat : Int) = false := hp.2
        rw [pre_at_no hb (by simp [isWord, hp])]
        simp [Tr.run_br, Tr.run_leaf, Tr.run_opt_, h3, hb, h4, h5]

theorem ok_run : FnOK Try.prog gl 20 runT := by
  refine fn_of (X := Xrun) (xok_Xrun 20) Try.func20 c_run_eq (by kernel_rfl) (by simp only [Sums, c_run, and_true, true_and]; exact sum_run_0) ?_
  intro xs H o h
  unfold runT at h
  split at h
  · rw [tree_run]
    rcases Tr.br_some h with ⟨h1, h2⟩ | ⟨_, h2⟩
    · obtain rfl := Tr.leaf_some h2
      have h3 := of_decide_eq_true h1
      simp [Tr.run_br, Tr.run_leaf, h3]
    · exact Tr.fail_some h2
  · exact Tr.fail_some h



def validB (s : List UInt8) : Bool := !decide (s = []) && (decide ((s.length : Int) ≤ 16) && ((match s[0]? with | some b => isLet b | none => false) && (decide ((pre isWord s : Int) = s.length) && !resB s)))

def modR (n m : Int) : Int := if n.tmod m < 0 then IntKind.i64.wrap (n.tmod m + m) else n.tmod m

def cellsI (z : Int) : Int := min (max z 1) 2147483649

def validT : FT
  | [.d (.str s)], [] => .br (decide ((s.length : Int) ≤ big)) (.leaf (.d (.bool (validB s)), [])) .fail
  | _, _ => .fail

def modT : FT
  | [.d (.int .i64 n), .d (.int .i64 m)], [] => .br (decide (m = 0)) .fail (.leaf (.d (.int .i64 (modR n m)), []))
  | _, _ => .fail

def rcellsT : FT
  | [.agg [.d (.str nm), .d (.int .i64 z), .d (.int .i64 ini)]], [] => .leaf (.d (.int .i64 (cellsI z)), [])
  | _, _ => .fail

noncomputable abbrev Xvalid : TX := ⟨Try.prog, tbl [(19, letterT), (20, runT), (21, reservedT)], iso, gl, vw⟩

theorem xok_Xvalid (f : Nat) : XOK Xvalid (ann f) gl := XOK.of base (l := [(19, letterT), (20, runT), (21, reservedT)]) ⟨ok_letter, ok_run, ok_reserved, trivial⟩ f

/-- rollbacknet/token.Valid -/
def c_valid : CC := .seq (.region [
    ⟨.yes, (some 2), .assign (.const (.bool false)), false, false, []⟩] [0]) <|
  .seq (.region [
    ⟨.yes, (some 3), .move (.tmp 0), false, false, []⟩,
    ⟨.yes, (some 4), .binOp .neq 9 (.tmp 3) (.const (.string ⟨#[]⟩)) 9, false, false, []⟩,
    ⟨.yes, (some 5), .move (.tmp 4), true, false, []⟩,
    ⟨(.on 5 true), (some 6), .move (.tmp 0), false, false, []⟩,
    ⟨(.on 5 true), (some 7), .call ⟨.builtin .len, #[(.tmp 6)], #[9]⟩, false, false, []⟩,
    ⟨(.on 5 true), (some 8), .binOp .leq 3 (.tmp 7) (.const (.int .i64 (16))) 3, false, false, []⟩,
    ⟨.yes, (some 9), .pick (.tmp 5) (.tmp 8) (.const (.bool false)), false, false, []⟩,
    ⟨.yes, (some 10), .move (.tmp 9), true, false, []⟩,
    ⟨(.on 10 true), (some 11), .move (.tmp 0), false, false, []⟩,
    ⟨(.on 10 true), (some 12), .index 9 (.tmp 11) (.const (.int .i64 (0))), false, false, []⟩,
    ⟨(.on 10 true), (some 13), .call ⟨.value (.func 19), #[(.tmp 12)], #[5]⟩, false, false, []⟩,
    ⟨.yes, (some 14), .pick (.tmp 10) (.tmp 13) (.const (.bool false)), false, false, []⟩,
    ⟨.yes, (some 15), .move (.tmp 14), true, false, []⟩,
    ⟨(.on 15 true), (some 16), .move (.tmp 0), false, false, []⟩,
    ⟨(.on 15 true), (some 17), .call ⟨.value (.func 20), #[(.tmp 16)], #[9]⟩, false, false, []⟩,
    ⟨(.on 15 true), (some 18), .move (.tmp 0), false, false, []⟩,
    ⟨(.on 15 true), (some 19), .call ⟨.builtin .len, #[(.tmp 18)], #[9]⟩, false, false, []⟩,
    ⟨(.on 15 true), (some 20), .binOp .eql 3 (.tmp 17) (.tmp 19) 3, false, false, []⟩,
    ⟨.yes, (some 21), .pick (.tmp 15) (.tmp 20) (.const (.bool false)), false, false, []⟩,
    ⟨.yes, (some 22), .move (.tmp 21), true, false, []⟩,
    ⟨(.on 22 true), (some 23), .move (.tmp 0), true, false, []⟩,
    ⟨(.on 22 true), (some 24), .call ⟨.value (.func 21), #[(.tmp 23)], #[9]⟩, false, false, []⟩,
    ⟨(.on 22 true), (some 25), .unOp .not 4 (.tmp 24), false, false, []⟩,
    ⟨.yes, (some 26), .pick (.tmp 22) (.tmp 25) (.const (.bool false)), false, false, []⟩,
    ⟨.yes, (some 2), .assign (.tmp 26), true, false, []⟩] [2]) <|
  .ret

theorem c_valid_eq : ∃ c, Try.f14.body = some c ∧ codeOK Try.f14.ntmps c = true ∧ comp Try.prog (ann 14) c = erase c_valid := ⟨_, rfl, by kernel_rfl, by kernel_rfl⟩

theorem tree_valid (s : List UInt8) : fnT Xvalid c_valid Try.f14.results.toList [.d (.str s)] [] = (
    .br (!decide (s = []))
    (.br (decide ((s.length : Int) ≤ 16))
      (.br (decide ((0 : Int) ≤ 0))
        (.opt (s[0]?) fun b1 => .br (isLetter (b1.toNat : Int))
          (.br (decide ((s.length : Int) ≤ big))
            (.br (decide ((pre isWord s : Int) = (s.length : Int)))
              (.leaf ((.d (.bool (!(resB s)))), []))
              (.leaf ((.d (.bool false)), [])))
            (.fail))
          (.leaf ((.d (.bool false)), [])))
        (.fail))
      (.leaf ((.d (.bool false)), [])))
    (.leaf ((.d (.bool false)), [])) : Tr (AV × Hp)) := by kernel_rfl

theorem ok_valid : FnOK Try.prog gl 14 validT := by
  refine fn_of (X := Xvalid) (xok_Xvalid 14) Try.func14 c_valid_eq (by kernel_rfl) (by simp only [Sums, c_valid, and_true]) ?_
  intro xs H o h
  unfold validT at h
  split at h
  · rename_i s
    rw [tree_valid]
    rcases Tr.br_some h with ⟨h1, h2⟩ | ⟨_, h2⟩
    · obtain rfl := Tr.leaf_some h2
      have h3 := of_decide_eq_true h1
      cases hs : s[0]? with
      | none =>
        have h0 : s = [] := by cases s with | nil => rfl | cons => simp at hs
        subst h0
        simp [Tr.run_br, Tr.run_leaf, validB]
      | some b =>
        have h0 : ¬ (s = []) := by rintro rfl; simp at hs
        by_cases h4 : (s.length : Int) ≤ 16
        · cases h5 : isLetter (b.toNat : Int) with
          | true =>
            by_cases h6 : (pre isWord s : Int) = (s.length : Int)
            · cases h7 : resB s <;> simp [Tr.run_br, Tr.run_leaf, Tr.run_opt_, validB, hs, h0, h3, h4, h5, h6, h7, isLet]
            · simp [Tr.run_br, Tr.run_leaf, Tr.run_opt_, validB, hs, h0, h3, h4, h5, h6, isLet]
          | false => simp [Tr.run_br, Tr.run_leaf, Tr.run_opt_, validB, hs, h0, h3, h4, h5, isLet]
        · simp [Tr.run_br, Tr.run_leaf, Tr.run_opt_, validB, hs, h0, h3, h4]
    · exact Tr.fail_some h2
  · exact Tr.fail_some h

/-- rollbacknet/rollbacknetmake.Mod -/
def c_mod : CC := .seq (.region [
    ⟨.yes, (some 4), .assign (.const (.int .i64 (0))), false, false, []⟩] [0, 1]) <|
  .seq (.region [
    ⟨.yes, (some 5), .move (.tmp 0), true, false, []⟩,
    ⟨.yes, (some 6), .move (.tmp 1), false, false, []⟩,
    ⟨.yes, (some 7), .binOp .rem 3 (.tmp 5) (.tmp 6) 3, false, false, []⟩,
    ⟨.yes, (some 0), .assign (.tmp 7), true, false, []⟩] [0, 1]) <|
  .seq (.seq (.region [
    ⟨.yes, (some 8), .move (.tmp 0), false, false, []⟩,
    ⟨.yes, (some 9), .binOp .lss 3 (.tmp 8) (.const (.int .i64 (0))) 3, false, false, []⟩] [0, 1, 9]) <|
  .cond (.tmp 9)
    (.region [
      ⟨.yes, (some 10), .move (.tmp 0), true, false, []⟩,
      ⟨.yes, (some 11), .move (.tmp 1), true, false, []⟩,
      ⟨.yes, (some 12), .binOp .add 3 (.tmp 10) (.tmp 11) 3, false, false, []⟩,
      ⟨.yes, (some 0), .assign (.tmp 12), true, false, []⟩] [0])
    (.skip)) <|
  .seq (.region [
    ⟨.yes, (some 13), .move (.tmp 0), true, false, []⟩,
    ⟨.yes, (some 4), .assign (.tmp 13), true, false, []⟩] [4]) <|
  .ret

theorem c_mod_eq : ∃ c, Try.f6.body = some c ∧ codeOK Try.f6.ntmps c = true ∧ comp Try.prog (ann 6) c = erase c_mod := ⟨_, rfl, by kernel_rfl, by kernel_rfl⟩

noncomputable abbrev X1 : TX := ⟨Try.prog, tbl [], iso, gl, vw⟩

theorem xok_X1 (f : Nat) : XOK X1 (ann f) gl := XOK.of base (l := []) trivial f

theorem tree_mod (n m : Int) : fnT X1 c_mod Try.f6.results.toList [.d (.int .i64 n), .d (.int .i64 m)] [] = (
    .br (decide (m = 0))
    (.fail)
    (.br (decide ((Int.tmod n m) < 0))
      (.leaf ((.d (.int .i64 (IntKind.i64.wrap ((Int.tmod n m) + m)))), []))
      (.leaf ((.d (.int .i64 (Int.tmod n m))), []))) : Tr (AV × Hp)) := by kernel_rfl

theorem ok_mod : FnOK Try.prog gl 6 modT := by
  refine fn_of (X := X1) (xok_X1 6) Try.func6 c_mod_eq (by kernel_rfl) (by simp only [Sums, c_mod, and_true]) ?_
  intro xs H o h
  unfold modT at h
  split at h
  · rename_i n m
    rw [tree_mod]
    simp only [Tr.run_br] at h ⊢
    by_cases h1 : m = 0
    · simp [h1, Tr.run_fail] at h
    · simp only [h1, decide_false, cond_false, Tr.run_leaf] at h ⊢
      obtain rfl := Option.some.inj h
      unfold modR
      by_cases h2 : n.tmod m < 0 <;> simp [h2]
  · exact Tr.fail_some h

/-- rollbacknet/rollbacknetref03.cells -/
def c_rcells : CC := .seq (.region [
    ⟨.yes, (some 1), .box 25 (.tmp 0), true, false, []⟩,
    ⟨.yes, (some 2), .assign (.const (.int .i64 (0))), false, false, []⟩] [1]) <|
  .seq (.region [
    ⟨.yes, (some 3), .fieldAddr 25 (.tmp 1) 1, false, false, []⟩,
    ⟨.yes, (some 4), .load 3 (.tmp 3), false, false, []⟩,
    ⟨.yes, (some 5), .call ⟨.builtin .max, #[(.tmp 4), (.const (.int .i64 (1)))], #[3, 3]⟩, false, false, []⟩,
    ⟨.yes, (some 6), .call ⟨.builtin .min, #[(.tmp 5), (.const (.int .i64 (2147483649)))], #[3, 3]⟩, false, false, []⟩,
    ⟨.yes, (some 2), .assign (.tmp 6), true, false, []⟩] [2]) <|
  .ret

theorem c_rcells_eq : ∃ c, Try.f10.body = some c ∧ codeOK Try.f10.ntmps c = true ∧ comp Try.prog (ann 10) c = erase c_rcells := ⟨_, rfl, by kernel_rfl, by kernel_rfl⟩

theorem tree_rcells (nm : List UInt8) (z ini : Int) : fnT X1 c_rcells Try.f10.results.toList [.agg [.d (.str nm), .d (.int .i64 z), .d (.int .i64 ini)]] [] = (
    .leaf ((.d (.int .i64 (if (2147483649 : Int) < (if z < 1 then 1 else z) then 2147483649 else if z < 1 then 1 else z))), []) : Tr (AV × Hp)) := by kernel_rfl

theorem ok_rcells : FnOK Try.prog gl 10 rcellsT := by
  refine fn_of (X := X1) (xok_X1 10) Try.func10 c_rcells_eq (by kernel_rfl) (by simp only [Sums, c_rcells, and_true]) ?_
  intro xs H o h
  unfold rcellsT at h
  split at h
  · rename_i nm z ini
    rw [tree_rcells]
    obtain rfl := Tr.leaf_some h
    have : cellsI z = (if (2147483649 : Int) < (if z < 1 then 1 else z) then 2147483649 else (if z < 1 then 1 else z)) := by unfold cellsI; split <;> split <;> omega
    rw [this]; rfl
  · exact Tr.fail_some h


/-- Where a declaration lies. -/
def lookG : List Var → List UInt8 → Int → Option (Int × Int)
  | [], _, _ => none
  | v :: r, nm, f => if 2147483648 < f then none else if v.name = nm then some (f, max v.size 0) else lookG r nm (f + cellsI v.size)

def lookR : List Var → List UInt8 → Int → Option (Int × Int × Bool)
  | [], _, _ => none
  | v :: r, nm, f => if v.name = nm then some (f, max v.size 0, true) else if 2147483648 < f + cellsI v.size then some (0, 0, false) else lookR r nm (f + cellsI v.size)

theorem cellsI_pos (z : Int) : 1 ≤ cellsI z ∧ cellsI z ≤ 2147483649 := by unfold cellsI; omega

def lk (o : Option (Int × Int)) : Int × Int × Bool := match o with | some (a, b) => (a, b, true) | none => (0, 0, false)

theorem look_eq : ∀ (l : List Var) (nm : List UInt8) (f : Int), f ≤ 2147483648 → lk (lookG l nm f) = (lookR l nm f).getD (0, 0, false)
  | [], _, _, _ => rfl
  | v :: r, nm, f, h => by
    unfold lookG lookR
    rw [if_neg (by omega)]
    split
    · rfl
    · split
      · rename_i h2
        cases r with
        | nil => rfl
        | cons u r => unfold lookG; rw [if_pos h2]; rfl
      · exact look_eq r nm _ (by omega)

theorem vdrop {α : Type} {l : List α} {n : Nat} {v : α} (h : l[n]? = some v) : l.drop n = v :: l.drop (n + 1) := by
  have hl := (List.getElem?_eq_some_iff.1 h).1
  rw [List.drop_eq_getElem_cons hl]; congr 1; exact (List.getElem?_eq_some_iff.1 h).2

def L_lookup_0 : ST → Tr (Ex × ST)
  | ⟨[(1, .d (.str nm)), (7, .d (.int .i64 f)), (11, .d (.sl 3 xs)), (12, .d (.int .i64 m)), (13, .d (.int .i64 n))], []⟩ => .opt (unL unVar xs) fun l => .br (decide (m = l.length ∧ 0 ≤ n ∧ n ≤ m ∧ 0 ≤ f ∧ f ≤ 4294967297 ∧ m ≤ big)) (.br (lookG (l.drop n.toNat) nm f).isSome (.leaf (.ret, ⟨[(4, .d (.int .i64 (lk (lookG (l.drop n.toNat) nm f)).1)), (5, .d (.int .i64 (lk (lookG (l.drop n.toNat) nm f)).2.1)), (6, .d (.bool true))], []⟩)) (.leaf ((.ext 0), ⟨[], []⟩))) .fail
  | _ => .fail

def lookupT : FT
  | [.d (.sl 3 xs), .d (.str nm)], [] => .opt (unL unVar xs) fun l => .br (decide ((l.length : Int) ≤ big)) (.leaf (.tup [.d (.int .i64 (lk (lookG l nm 0)).1), .d (.int .i64 (lk (lookG l nm 0)).2.1), .d (.bool (lk (lookG l nm 0)).2.2)], [])) .fail
  | _, _ => .fail

def l_lookup_0 : CC := .seq (.region [
    ⟨.yes, (some 14), .binOp .lss 3 (.tmp 13) (.tmp 12) 3, false, false, []⟩] [1, 7, 11, 12, 13, 14]) <|
  .seq (.cond (.tmp 14)
    (.skip)
    (.exit 0)) <|
  .seq (.block 1 <| .seq (.region [
    ⟨.yes, (some 15), .indexAddr 22 (.tmp 11) (.tmp 13), false, false, []⟩,
    ⟨.yes, (some 16), .load 25 (.tmp 15), false, false, []⟩,
    ⟨.yes, (some 9), .alloc 25, false, false, []⟩,
    ⟨.yes, none, .store 25 (.tmp 9) (.tmp 16), true, false, []⟩] [1, 7, 9, 11, 12, 13]) <|
  .seq (.seq (.region [
    ⟨.yes, (some 17), .move (.tmp 7), false, false, []⟩,
    ⟨.yes, (some 18), .binOp .gtr 3 (.tmp 17) (.const (.int .i64 (2147483648))) 3, false, false, []⟩] [1, 7, 9, 11, 12, 13, 18]) <|
  .cond (.tmp 18)
    (.exit 0)
    (.skip)) <|
  .seq (.region [
    ⟨.yes, (some 19), .fieldAddr 25 (.tmp 9) 1, false, false, []⟩,
    ⟨.yes, (some 20), .load 3 (.tmp 19), false, false, []⟩,
    ⟨.yes, (some 21), .call ⟨.builtin .max, #[(.tmp 20), (.const (.int .i64 (0)))], #[3, 3]⟩, false, false, []⟩,
    ⟨.yes, (some 10), .assign (.tmp 21), true, false, []⟩] [1, 7, 9, 10, 11, 12, 13]) <|
  .seq (.seq (.region [
    ⟨.yes, (some 22), .fieldAddr 25 (.tmp 9) 0, false, false, []⟩,
    ⟨.yes, (some 23), .load 9 (.tmp 22), false, false, []⟩,
    ⟨.yes, (some 24), .move (.tmp 1), false, false, []⟩,
    ⟨.yes, (some 25), .binOp .eql 9 (.tmp 23) (.tmp 24) 9, false, false, []⟩] [1, 7, 10, 11, 12, 13, 25]) <|
  .cond (.tmp 25)
    (.seq (.region [
      ⟨.yes, (some 26), .move (.tmp 7), true, false, []⟩,
      ⟨.yes, (some 27), .move (.tmp 10), true, false, []⟩,
      ⟨.yes, (some 4), .assign (.tmp 26), true, false, []⟩,
      ⟨.yes, (some 5), .assign (.tmp 27), true, false, []⟩,
      ⟨.yes, (some 6), .assign (.const (.bool true)), false, false, []⟩] [4, 5, 6]) <|
    .ret)
    (.skip)) <|
  .region [
    ⟨.yes, (some 28), .move (.tmp 7), true, false, []⟩,
    ⟨.yes, (some 29), .move (.tmp 10), true, false, []⟩,
    ⟨.yes, (some 30), .call ⟨.builtin .max, #[(.tmp 29), (.const (.int .i64 (1)))], #[3, 3]⟩, false, false, []⟩,
    ⟨.yes, (some 31), .call ⟨.builtin .min, #[(.tmp 30), (.const (.int .i64 (2147483649)))], #[3, 3]⟩, false, false, []⟩,
    ⟨.yes, (some 32), .binOp .add 3 (.tmp 28) (.tmp 31) 3, false, false, []⟩,
    ⟨.yes, (some 7), .assign (.tmp 32), true, false, []⟩] [1, 7, 11, 12, 13]) <|
  .region [
    ⟨.yes, (some 33), .binOp .add 3 (.tmp 13) (.const (.int .i64 (1))) 3, false, false, []⟩,
    ⟨.yes, (some 13), .move (.tmp 33), true, false, []⟩] [1, 7, 11, 12, 13]

/-- rollbacknet/resolve.Lookup -/
def c_lookup : CC := .seq (.region [
    ⟨.yes, (some 4), .assign (.const (.int .i64 (0))), false, false, []⟩,
    ⟨.yes, (some 5), .assign (.const (.int .i64 (0))), false, false, []⟩,
    ⟨.yes, (some 6), .assign (.const (.bool false)), false, false, []⟩] [0, 1]) <|
  .seq (.region [
    ⟨.yes, (some 7), .assign (.const (.int .i64 (0))), false, false, []⟩] [0, 1, 7]) <|
  .seq (.seq (.region [
    ⟨.yes, (some 11), .move (.tmp 0), true, false, [(some 3)]⟩,
    ⟨.yes, (some 12), .call ⟨.builtin .len, #[(.tmp 11)], #[22]⟩, false, false, []⟩,
    ⟨.yes, (some 13), .move (.const (.int .i64 (0))), false, false, []⟩] [1, 7, 11, 12, 13]) <|
  .block 0 <| .keep [1, 7, 11, 12, 13] <| .sum L_lookup_0 (.loop l_lookup_0)) <|
  .seq (.region [
    ⟨.yes, (some 4), .assign (.const (.int .i64 (0))), false, false, []⟩,
    ⟨.yes, (some 5), .assign (.const (.int .i64 (0))), false, false, []⟩,
    ⟨.yes, (some 6), .assign (.const (.bool false)), false, false, []⟩] [4, 5, 6]) <|
  .ret

theorem c_lookup_eq : ∃ c, Try.f7.body = some c ∧ codeOK Try.f7.ntmps c = true ∧ comp Try.prog (ann 7) c = erase c_lookup := ⟨_, rfl, by kernel_rfl, by kernel_rfl⟩

theorem body_lookup_0 (nm : List UInt8) (f m n : Int) (xs : List DV) : bodyT X1 [1, 7, 11, 12, 13] [4, 5, 6] [(0, [])] l_lookup_0 ⟨[(1, .d (.str nm)), (7, .d (.int .i64 f)), (11, .d (.sl 3 xs)), (12, .d (.int .i64 m)), (13, .d (.int .i64 n))], []⟩ = (
    .br (decide (n < m))
    (.br (decide ((0 : Int) ≤ n))
      (.opt ((xs[(Int.toNat n)]?).bind unVar) fun y1 => .br (decide ((2147483648 : Int) < f))
        (.leaf ((.ext 0), ⟨[], []⟩))
        (.br (decide (y1.name = nm))
          (.leaf (.ret, ⟨[(4, (.d (.int .i64 f))), (5, (.d (.int .i64 (if y1.size < 0 then 0 else y1.size)))), (6, (.d (.bool true)))], []⟩))
          (.leaf (.nrm, ⟨[(1, (.d (.str nm))), (7, (.d (.int .i64 (IntKind.i64.wrap (f + (if (2147483649 : Int) < (if (if y1.size < 0 then 0 else y1.size) < 1 then 1 else if y1.size < 0 then 0 else y1.size) then 2147483649 else if (if y1.size < 0 then 0 else y1.size) < 1 then 1 else if y1.size < 0 then 0 else y1.size)))))), (11, (.d (.sl 3 xs))), (12, (.d (.int .i64 m))), (13, (.d (.int .i64 (IntKind.i64.wrap (n + 1)))))], []⟩))))
      (.fail))
    (.leaf ((.ext 0), ⟨[], []⟩)) : Tr (Ex × ST)) := by kernel_rfl

theorem tree_lookup (nm : List UInt8) (xs : List DV) : fnT X1 c_lookup Try.f7.results.toList [.d (.sl 3 xs), .d (.str nm)] [] = (
    .opt (unL unVar xs) fun l1 => .br (decide ((xs.length : Int) = l1.length ∧ 0 ≤ (0 : Int) ∧ (0 : Int) ≤ (xs.length : Int) ∧ 0 ≤ (0 : Int) ∧ (0 : Int) ≤ 4294967297 ∧ (xs.length : Int) ≤ big))
    (.br ((lookG (l1.drop (0 : Int).toNat) nm (0 : Int)).isSome)
      (.leaf ((.tup [(.d (.int .i64 ((lk (lookG (l1.drop (0 : Int).toNat) nm (0 : Int))).1))), (.d (.int .i64 ((lk (lookG (l1.drop (0 : Int).toNat) nm (0 : Int))).2.1))), (.d (.bool true))]), []))
      (.leaf ((.tup [(.d (.int .i64 0)), (.d (.int .i64 0)), (.d (.bool false))]), [])))
    (.fail) : Tr (AV × Hp)) := by kernel_rfl


theorem maxI (z : Int) : (if z < 0 then 0 else z) = max z 0 := by split <;> omega
theorem cellsI0 (z : Int) : (if (2147483649 : Int) < (if (if z < 0 then 0 else z) < 1 then 1 else if z < 0 then 0 else z) then 2147483649 else if (if z < 0 then 0 else z) < 1 then 1 else if z < 0 then 0 else z) = cellsI z := by
  rw [maxI]; unfold cellsI; split <;> split <;> omega

theorem sum_lookup_0 : SumOK Try.prog gl (ann 7) L_lookup_0 (.loop l_lookup_0) := by
  refine SumOK.of_inv (X := X1) (xok_X1 7) (by simp only [Sums, l_lookup_0, and_true]) (by kernel_rfl) (lv := [1, 7, 11, 12, 13]) (rt := [4, 5, 6]) (xs := [(0, [])]) (by decide)
    (fun k st r => ∃ (l : List Var) (nm : List UInt8) (f : Int) (n : Nat), n ≤ l.length ∧ (l.length : Int) ≤ big ∧ 0 ≤ f ∧ f ≤ 4294967297 ∧
      st = ⟨[(1, .d (.str nm)), (7, .d (.int .i64 f)), (11, .d (.sl 3 (l.map encVar))), (12, .d (.int .i64 (l.length : Int))), (13, .d (.int .i64 (n : Int)))], []⟩ ∧
      r = (bif (lookG (l.drop n) nm f).isSome then (.ret, ⟨[(4, .d (.int .i64 (lk (lookG (l.drop n) nm f)).1)), (5, .d (.int .i64 (lk (lookG (l.drop n) nm f)).2.1)), (6, .d (.bool true))], []⟩) else (.ext 0, ⟨[], []⟩)) ∧ k = l.length - n) ?_ ?_
  · intro st r h
    unfold L_lookup_0 at h
    split at h
    · rename_i nm f xs m n
      obtain ⟨l, hl, h0⟩ := Tr.opt_some h
      obtain rfl := unL_inv unVar_ok hl
      rcases Tr.br_some h0 with ⟨h1, h2⟩ | ⟨_, h2⟩
      · obtain ⟨rfl, h3, h4, h5, h6, h7⟩ := of_decide_eq_true h1
        obtain ⟨k, rfl⟩ := Int.eq_ofNat_of_zero_le h3
        refine ⟨_, l, nm, f, k, by omega, h7, h5, h6, rfl, ?_, rfl⟩
        simp only [Int.toNat_natCast] at h2
        rcases Tr.br_some h2 with ⟨hs, h8⟩ | ⟨hs, h8⟩ <;> rw [hs] <;> exact (Tr.leaf_some h8).symm
      · exact Tr.fail_some h2
    · exact Tr.fail_some h
  · rintro k st r ⟨l, nm, f, n, h1, h2, h3, h4, rfl, rfl, rfl⟩
    rw [body_lookup_0]
    cases hb : l[n]? with
    | none =>
      have hl : l.length ≤ n := by simpa using hb
      have he : l.drop n = [] := List.drop_eq_nil_of_le hl
      refine ⟨.ext 0, ⟨[], []⟩, ?_, .inl ⟨by simp, by rw [he]; rfl⟩⟩
      have h5 : ¬ ((n : Int) < l.length) := by omega
      simp [Tr.run_br, Tr.run_leaf, h5]
    | some v =>
      have hl := at_len hb
      have h5 : ((n : Int) < l.length) := by omega
      have hc := cellsI_pos v.size
      rw [vdrop hb]
      by_cases h6 : (2147483648 : Int) < f
      · refine ⟨.ext 0, ⟨[], []⟩, ?_, .inl ⟨by simp, by simp [lookG, h6]⟩⟩
        simp [Tr.run_br, Tr.run_leaf, Tr.run_opt_, h5, unVar_enc, hb, h6]
      · by_cases h7 : v.name = nm
        · refine ⟨.ret, ⟨[(4, .d (.int .i64 f)), (5, .d (.int .i64 (max v.size 0))), (6, .d (.bool true))], []⟩, ?_, .inl ⟨by simp, by simp [lookG, h6, h7, lk]⟩⟩
          simp [Tr.run_br, Tr.run_leaf, Tr.run_opt_, h5, unVar_enc, hb, h6, h7, maxI]
        · refine ⟨.nrm, ⟨[(1, .d (.str nm)), (7, .d (.int .i64 (f + cellsI v.size))), (11, .d (.sl 3 (l.map encVar))), (12, .d (.int .i64 (l.length : Int))), (13, .d (.int .i64 ((n + 1 : Nat) : Int)))], []⟩, ?_,
            .inr ⟨rfl, _, ?_, l, nm, f + cellsI v.size, n + 1, by omega, h2, by omega, by omega, rfl, ?_, rfl⟩⟩
          · have h8 : IntKind.i64.wrap ((n : Int) + 1) = ((n + 1 : Nat) : Int) := by unfold big at h2; rw [wrap_in] <;> omega
            have h9 : IntKind.i64.wrap (f + cellsI v.size) = f + cellsI v.size := by rw [wrap_in] <;> omega
            simp only [cellsI0, h8, h9]
            simp [Tr.run_br, Tr.run_leaf, Tr.run_opt_, h5, unVar_enc, hb, h6, h7, h9]
          · omega
          · simp only [lookG, if_neg h6, if_neg h7]

theorem ok_lookup : FnOK Try.prog gl 7 lookupT := by
  refine fn_of (X := X1) (xok_X1 7) Try.func7 c_lookup_eq (by kernel_rfl) (by simp only [Sums, c_lookup, and_true, true_and]; exact sum_lookup_0) ?_
  intro xs H o h
  unfold lookupT at h
  split at h
  · rename_i xs nm
    rw [tree_lookup]
    obtain ⟨l, hl, h⟩ := Tr.opt_some h
    rcases Tr.br_some h with ⟨h1, h2⟩ | ⟨_, h2⟩
    · have h3 := of_decide_eq_true h1
      obtain rfl := Tr.leaf_some h2
      have hlen : xs.length = l.length := by rw [unL_inv unVar_ok hl, List.length_map]
      refine Tr.opt_to hl ?_
      cases hs : lookG l nm 0 with
      | none => simp [Tr.run_br, Tr.run_leaf, hlen, h3, hs, lk]
      | some p => obtain ⟨u, v⟩ := p; simp [Tr.run_br, Tr.run_leaf, hlen, h3, hs, lk]
    · exact Tr.fail_some h2
  · exact Tr.fail_some h

def L_rlookup_0 : ST → Tr (Ex × ST)
  | ⟨[(0, .d (.sl 3 xs)), (1, .d (.str nm)), (7, .d (.int .i64 f)), (8, .d (.int .i64 n))], []⟩ => .opt (unL unVar xs) fun l => .br (decide (0 ≤ n ∧ n ≤ l.length ∧ 0 ≤ f ∧ f ≤ 2147483648 ∧ (l.length : Int) ≤ big)) (.br (lookR (l.drop n.toNat) nm f).isSome (.leaf (.ret, ⟨[(4, .d (.int .i64 ((lookR (l.drop n.toNat) nm f).getD (0, 0, false)).1)), (5, .d (.int .i64 ((lookR (l.drop n.toNat) nm f).getD (0, 0, false)).2.1)), (6, .d (.bool ((lookR (l.drop n.toNat) nm f).getD (0, 0, false)).2.2))], []⟩)) (.leaf ((.ext 0), ⟨[], []⟩))) .fail
  | _ => .fail

def rlookupT : FT
  | [.d (.sl 3 xs), .d (.str nm)], [] => .opt (unL unVar xs) fun l => .br (decide ((l.length : Int) ≤ big)) (.leaf (.tup [.d (.int .i64 ((lookR l nm 0).getD (0, 0, false)).1), .d (.int .i64 ((lookR l nm 0).getD (0, 0, false)).2.1), .d (.bool ((lookR l nm 0).getD (0, 0, false)).2.2)], [])) .fail
  | _, _ => .fail

noncomputable abbrev Xr : TX := ⟨Try.prog, tbl [(10, rcellsT)], iso, gl, vw⟩

theorem xok_Xr (f : Nat) : XOK Xr (ann f) gl := XOK.of base (l := [(10, rcellsT)]) ⟨ok_rcells, trivial⟩ f

def l_rlookup_0 : CC := .seq (.seq (.region [
    ⟨.yes, (some 9), .move (.tmp 8), false, false, []⟩,
    ⟨.yes, (some 10), .move (.tmp 0), false, false, [(some 3)]⟩,
    ⟨.yes, (some 11), .call ⟨.builtin .len, #[(.tmp 10)], #[22]⟩, false, false, []⟩,
    ⟨.yes, (some 12), .binOp .lss 3 (.tmp 9) (.tmp 11) 3, false, false, []⟩] [0, 1, 7, 8, 12]) <|
  .cond (.tmp 12)
    (.skip)
    (.exit 0)) <|
  .seq (.block 1 <| .seq (.seq (.region [
    ⟨.yes, (some 15), .move (.tmp 0), false, false, [(some 3)]⟩,
    ⟨.yes, (some 16), .move (.tmp 8), false, false, []⟩,
    ⟨.yes, (some 17), .indexAddr 22 (.tmp 15) (.tmp 16), false, false, []⟩,
    ⟨.yes, (some 18), .fieldAddr 25 (.tmp 17) 0, false, false, []⟩,
    ⟨.yes, (some 19), .load 9 (.tmp 18), false, false, []⟩,
    ⟨.yes, (some 20), .move (.tmp 1), false, false, []⟩,
    ⟨.yes, (some 21), .binOp .eql 9 (.tmp 19) (.tmp 20) 9, false, false, []⟩] [0, 1, 7, 8, 21]) <|
  .cond (.tmp 21)
    (.seq (.drawn ⟨[0, 1, 2, 7, 8], [], [4, 5, 6]⟩ [
      ⟨(some 22), .move (.tmp 7), 3, "ref.go:22", #[], none⟩,
      ⟨(some 23), .move (.tmp 0), 22, "ref.go:22", #[], none⟩,
      ⟨(some 24), .move (.tmp 8), 3, "ref.go:22", #[], none⟩,
      ⟨(some 25), .indexAddr 22 (.tmp 23) (.tmp 24), 0, "ref.go:22", #[⟨1, .data⟩, ⟨2, .data⟩], none⟩,
      ⟨(some 26), .fieldAddr 25 (.tmp 25) 1, 0, "ref.go:22", #[⟨3, .data⟩], none⟩,
      ⟨(some 27), .load 3 (.tmp 26), 3, "ref.go:22", #[⟨4, .data⟩], none⟩,
      ⟨(some 28), .call ⟨.builtin .max, #[(.tmp 27), (.const (.int .i64 (0)))], #[3, 3]⟩, 3, "ref.go:22", #[⟨5, .data⟩], none⟩,
      ⟨(some 4), .assign (.tmp 22), 3, "ref.go:22", #[⟨0, .data⟩, ⟨0, .phase⟩, ⟨1, .textOnly .lateStores⟩, ⟨2, .textOnly .lateStores⟩, ⟨3, .textOnly .lateStores⟩, ⟨4, .textOnly .lateStores⟩, ⟨5, .textOnly .lateStores⟩, ⟨6, .textOnly .lateStoresUnsure⟩], none⟩,
      ⟨(some 5), .assign (.tmp 28), 3, "ref.go:22", #[⟨6, .data⟩, ⟨7, .chain⟩, ⟨0, .phase⟩, ⟨1, .phase⟩, ⟨2, .phase⟩, ⟨3, .phase⟩, ⟨4, .phase⟩, ⟨5, .phase⟩, ⟨6, .phase⟩, ⟨7, .phase⟩], none⟩,
      ⟨(some 6), .assign (.const (.bool true)), 4, "ref.go:22", #[⟨8, .chain⟩, ⟨0, .phase⟩, ⟨1, .phase⟩, ⟨2, .phase⟩, ⟨3, .phase⟩, ⟨4, .phase⟩, ⟨5, .phase⟩, ⟨6, .phase⟩, ⟨7, .phase⟩, ⟨8, .phase⟩], none⟩]) <|
    .ret)
    (.skip)) <|
  .seq (.region [
    ⟨.yes, (some 29), .move (.tmp 7), true, false, []⟩,
    ⟨.yes, (some 30), .move (.tmp 0), false, false, [(some 3)]⟩,
    ⟨.yes, (some 31), .move (.tmp 8), false, false, []⟩,
    ⟨.yes, (some 32), .indexAddr 22 (.tmp 30) (.tmp 31), false, false, []⟩,
    ⟨.yes, (some 33), .load 25 (.tmp 32), false, false, []⟩,
    ⟨.yes, (some 34), .call ⟨.value (.func 10), #[(.tmp 33)], #[25]⟩, false, false, []⟩,
    ⟨.yes, (some 35), .binOp .add 3 (.tmp 29) (.tmp 34) 3, false, false, []⟩,
    ⟨.yes, (some 7), .assign (.tmp 35), true, false, []⟩] [0, 1, 7, 8]) <|
  .seq (.region [
    ⟨.yes, (some 36), .move (.tmp 7), false, false, []⟩,
    ⟨.yes, (some 37), .binOp .gtr 3 (.tmp 36) (.const (.int .i64 (2147483648))) 3, false, false, []⟩] [0, 1, 7, 8, 37]) <|
  .cond (.tmp 37)
    (.seq (.region [
      ⟨.yes, (some 4), .assign (.const (.int .i64 (0))), false, false, []⟩,
      ⟨.yes, (some 5), .assign (.const (.int .i64 (0))), false, false, []⟩,
      ⟨.yes, (some 6), .assign (.const (.bool false)), false, false, []⟩] [4, 5, 6]) <|
    .ret)
    (.skip)) <|
  .region [
    ⟨.yes, (some 13), .move (.tmp 8), true, false, []⟩,
    ⟨.yes, (some 14), .binOp .add 3 (.tmp 13) (.const (.int .i64 (1))) 3, false, false, []⟩,
    ⟨.yes, (some 8), .assign (.tmp 14), true, false, []⟩] [0, 1, 7, 8]

/-- rollbacknet/rollbacknetref03.Lookup -/
def c_rlookup : CC := .seq (.region [
    ⟨.yes, (some 4), .assign (.const (.int .i64 (0))), false, false, []⟩,
    ⟨.yes, (some 5), .assign (.const (.int .i64 (0))), false, false, []⟩,
    ⟨.yes, (some 6), .assign (.const (.bool false)), false, false, []⟩] [0, 1]) <|
  .seq (.region [
    ⟨.yes, (some 7), .assign (.const (.int .i64 (0))), false, false, []⟩] [0, 1, 7]) <|
  .seq (.seq (.region [
    ⟨.yes, (some 8), .assign (.const (.int .i64 (0))), false, false, []⟩] [0, 1, 7, 8]) <|
  .block 0 <| .keep [0, 1, 7, 8] <| .sum L_rlookup_0 (.loop l_rlookup_0)) <|
  .seq (.region [
    ⟨.yes, (some 4), .assign (.const (.int .i64 (0))), false, false, []⟩,
    ⟨.yes, (some 5), .assign (.const (.int .i64 (0))), false, false, []⟩,
    ⟨.yes, (some 6), .assign (.const (.bool false)), false, false, []⟩] [4, 5, 6]) <|
  .ret

theorem c_rlookup_eq : ∃ c, Try.f8.body = some c ∧ codeOK Try.f8.ntmps c = true ∧ comp Try.prog (ann 8) c = erase c_rlookup := ⟨_, rfl, by kernel_rfl, by kernel_rfl⟩

theorem body_rlookup_0 (nm : List UInt8) (f n : Int) (xs : List DV) : bodyT Xr [0, 1, 7, 8] [4, 5, 6] [(0, [])] l_rlookup_0 ⟨[(0, .d (.sl 3 xs)), (1, .d (.str nm)), (7, .d (.int .i64 f)), (8, .d (.int .i64 n))], []⟩ = (
    .br (decide (n < (xs.length : Int)))
    (.br (decide ((0 : Int) ≤ n))
      (.opt ((xs[(Int.toNat n)]?).bind unVar) fun y1 => .br (decide (y1.name = nm))
        (.br (decide ((0 : Int) ≤ n))
          (.opt ((xs[(Int.toNat n)]?).bind unVar) fun y2 => .leaf (.ret, ⟨[(4, (.d (.int .i64 f))), (5, (.d (.int .i64 (if y2.size < 0 then 0 else y2.size)))), (6, (.d (.bool true)))], []⟩))
          (.fail))
        (.br (decide ((0 : Int) ≤ n))
          (.opt ((xs[(Int.toNat n)]?).bind unVar) fun y3 => .br (decide ((2147483648 : Int) < (IntKind.i64.wrap (f + (cellsI y3.size)))))
            (.leaf (.ret, ⟨[(4, (.d (.int .i64 0))), (5, (.d (.int .i64 0))), (6, (.d (.bool false)))], []⟩))
            (.leaf (.nrm, ⟨[(0, (.d (.sl 3 xs))), (1, (.d (.str nm))), (7, (.d (.int .i64 (IntKind.i64.wrap (f + (cellsI y3.size)))))), (8, (.d (.int .i64 (IntKind.i64.wrap (n + 1)))))], []⟩)))
          (.fail)))
      (.fail))
    (.leaf ((.ext 0), ⟨[], []⟩)) : Tr (Ex × ST)) := by kernel_rfl

theorem tree_rlookup (nm : List UInt8) (xs : List DV) : fnT Xr c_rlookup Try.f8.results.toList [.d (.sl 3 xs), .d (.str nm)] [] = (
    .opt (unL unVar xs) fun l1 => .br (decide (0 ≤ (0 : Int) ∧ (0 : Int) ≤ l1.length ∧ 0 ≤ (0 : Int) ∧ (0 : Int) ≤ 2147483648 ∧ (l1.length : Int) ≤ big))
    (.br ((lookR (l1.drop (0 : Int).toNat) nm (0 : Int)).isSome)
      (.leaf ((.tup [(.d (.int .i64 (((lookR (l1.drop (0 : Int).toNat) nm (0 : Int)).getD (0, 0, false)).1))), (.d (.int .i64 (((lookR (l1.drop (0 : Int).toNat) nm (0 : Int)).getD (0, 0, false)).2.1))), (.d (.bool (((lookR (l1.drop (0 : Int).toNat) nm (0 : Int)).getD (0, 0, false)).2.2)))]), []))
      (.leaf ((.tup [(.d (.int .i64 0)), (.d (.int .i64 0)), (.d (.bool false))]), [])))
    (.fail) : Tr (AV × Hp)) := by kernel_rfl


theorem sum_rlookup_0 : SumOK Try.prog gl (ann 8) L_rlookup_0 (.loop l_rlookup_0) := by
  refine SumOK.of_inv (X := Xr) (xok_Xr 8) (by simp only [Sums, l_rlookup_0, and_true]) (by kernel_rfl) (lv := [0, 1, 7, 8]) (rt := [4, 5, 6]) (xs := [(0, [])]) (by decide)
    (fun k st r => ∃ (l : List Var) (nm : List UInt8) (f : Int) (n : Nat), n ≤ l.length ∧ (l.length : Int) ≤ big ∧ 0 ≤ f ∧ f ≤ 2147483648 ∧
      st = ⟨[(0, .d (.sl 3 (l.map encVar))), (1, .d (.str nm)), (7, .d (.int .i64 f)), (8, .d (.int .i64 (n : Int)))], []⟩ ∧
      r = (bif (lookR (l.drop n) nm f).isSome then (.ret, ⟨[(4, .d (.int .i64 ((lookR (l.drop n) nm f).getD (0, 0, false)).1)), (5, .d (.int .i64 ((lookR (l.drop n) nm f).getD (0, 0, false)).2.1)), (6, .d (.bool ((lookR (l.drop n) nm f).getD (0, 0, false)).2.2))], []⟩) else (.ext 0, ⟨[], []⟩)) ∧ k = l.length - n) ?_ ?_
  · intro st r h
    unfold L_rlookup_0 at h
    split at h
    · rename_i xs nm f n
      obtain ⟨l, hl, h0⟩ := Tr.opt_some h
      obtain rfl := unL_inv unVar_ok hl
      rcases Tr.br_some h0 with ⟨h1, h2⟩ | ⟨_, h2⟩
      · obtain ⟨h3, h4, h5, h6, h7⟩ := of_decide_eq_true h1
        obtain ⟨k, rfl⟩ := Int.eq_ofNat_of_zero_le h3
        refine ⟨_, l, nm, f, k, by omega, h7, h5, h6, rfl, ?_, rfl⟩
        simp only [Int.toNat_natCast] at h2
        rcases Tr.br_some h2 with ⟨hs, h8⟩ | ⟨hs, h8⟩ <;> rw [hs] <;> exact (Tr.leaf_some h8).symm
      · exact Tr.fail_some h2
    · exact Tr.fail_some h
  · rintro k st r ⟨l, nm, f, n, h1, h2, h3, h4, rfl, rfl, rfl⟩
    rw [body_rlookup_0]
    cases hb : l[n]? with
    | none =>
      have hl : l.length ≤ n := by simpa using hb
      have he : l.drop n = [] := List.drop_eq_nil_of_le hl
      refine ⟨.ext 0, ⟨[], []⟩, ?_, .inl ⟨by simp, by rw [he]; rfl⟩⟩
      have h5 : ¬ ((n : Int) < l.length) := by omega
      simp [Tr.run_br, Tr.run_leaf, h5]
    | some v =>
      have hl := at_len hb
      have h5 : ((n : Int) < l.length) := by omega
      have hc := cellsI_pos v.size
      have h9 : IntKind.i64.wrap (f + cellsI v.size) = f + cellsI v.size := by rw [wrap_in] <;> omega
      rw [vdrop hb]
      by_cases h7 : v.name = nm
      · refine ⟨.ret, ⟨[(4, .d (.int .i64 f)), (5, .d (.int .i64 (max v.size 0))), (6, .d (.bool true))], []⟩, ?_, .inl ⟨by simp, by simp [lookR, h7]⟩⟩
        simp [Tr.run_br, Tr.run_leaf, Tr.run_opt_, h5, unVar_enc, hb, h7, maxI]
      · by_cases h6 : (2147483648 : Int) < f + cellsI v.size
        · refine ⟨.ret, ⟨[(4, .d (.int .i64 0)), (5, .d (.int .i64 0)), (6, .d (.bool false))], []⟩, ?_, .inl ⟨by simp, by simp [lookR, h6, h7]⟩⟩
          simp [Tr.run_br, Tr.run_leaf, Tr.run_opt_, h5, unVar_enc, hb, h6, h7, h9]
        · refine ⟨.nrm, ⟨[(0, .d (.sl 3 (l.map encVar))), (1, .d (.str nm)), (7, .d (.int .i64 (f + cellsI v.size))), (8, .d (.int .i64 ((n + 1 : Nat) : Int)))], []⟩, ?_,
            .inr ⟨rfl, _, ?_, l, nm, f + cellsI v.size, n + 1, by omega, h2, by omega, by omega, rfl, ?_, rfl⟩⟩
          · have h8 : IntKind.i64.wrap ((n : Int) + 1) = ((n + 1 : Nat) : Int) := by unfold big at h2; rw [wrap_in] <;> omega
            simp only [h8]
            simp [Tr.run_br, Tr.run_leaf, Tr.run_opt_, h5, unVar_enc, hb, h6, h7, h9]
          · omega
          · simp only [lookR, if_neg h6, if_neg h7]

theorem ok_rlookup : FnOK Try.prog gl 8 rlookupT := by
  refine fn_of (X := Xr) (xok_Xr 8) Try.func8 c_rlookup_eq (by kernel_rfl) (by simp only [Sums, c_rlookup, and_true, true_and]; exact sum_rlookup_0) ?_
  intro xs H o h
  unfold rlookupT at h
  split at h
  · rename_i xs nm
    rw [tree_rlookup]
    obtain ⟨l, hl, h⟩ := Tr.opt_some h
    rcases Tr.br_some h with ⟨h1, h2⟩ | ⟨_, h2⟩
    · have h3 := of_decide_eq_true h1
      obtain rfl := Tr.leaf_some h2
      refine Tr.opt_to hl ?_
      cases hs : lookR l nm 0 with
      | none => simp [Tr.run_br, Tr.run_leaf, h3, hs]
      | some p => obtain ⟨u, v, z⟩ := p; simp [Tr.run_br, Tr.run_leaf, h3, hs]
    · exact Tr.fail_some h2
  · exact Tr.fail_some h

end Go.AI.RK
