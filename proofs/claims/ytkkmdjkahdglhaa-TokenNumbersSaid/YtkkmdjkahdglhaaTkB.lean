/- token.run, token.number, token.sign, token.one, in sum. -/
import Derived.Test.YtkkmdjkahdglhaaTkA
namespace Go.AI.TK
open Go Go.Proofs
set_option maxRecDepth 10000
set_option linter.unusedVariables false
set_option linter.unusedSimpArgs false


def big : Int := 140737488351232

def isDig (b : UInt8) : Bool := isDigit (b.toNat : Int)
def isLet (b : UInt8) : Bool := isLetter (b.toNat : Int)
def isWord (b : UInt8) : Bool := isLet b || isDig b

/-- How many signs at the head of a text meet p. -/
def pre (p : UInt8 → Bool) (s : List UInt8) : Nat := (s.takeWhile p).length

theorem pre_le (p : UInt8 → Bool) (s : List UInt8) : pre p s ≤ s.length := (List.takeWhile_sublist _).length_le
theorem pre_nil (p : UInt8 → Bool) : pre p [] = 0 := rfl
theorem pre_yes {p : UInt8 → Bool} {c : UInt8} {s : List UInt8} (h : p c = true) : pre p (c :: s) = pre p s + 1 := by simp [pre, List.takeWhile_cons, h]
theorem pre_no {p : UInt8 → Bool} {c : UInt8} {s : List UInt8} (h : p c = false) : pre p (c :: s) = 0 := by simp [pre, List.takeWhile_cons, h]

theorem drop_at {s : List UInt8} {n : Nat} {b : UInt8} (h : s[n]? = some b) : s.drop n = b :: s.drop (n + 1) := by
  have hl := (List.getElem?_eq_some_iff.1 h).1
  rw [List.drop_eq_getElem_cons hl]; congr 1; exact (List.getElem?_eq_some_iff.1 h).2
theorem at_len {α : Type} {s : List α} {n : Nat} {b : α} (h : s[n]? = some b) : n < s.length := (List.getElem?_eq_some_iff.1 h).1

theorem pre_at_yes {p : UInt8 → Bool} {s : List UInt8} {n : Nat} {b : UInt8} (h : s[n]? = some b) (hp : p b = true) : pre p (s.drop n) = pre p (s.drop (n + 1)) + 1 := by rw [drop_at h, pre_yes hp]
theorem pre_at_no {p : UInt8 → Bool} {s : List UInt8} {n : Nat} {b : UInt8} (h : s[n]? = some b) (hp : p b = false) : pre p (s.drop n) = 0 := by rw [drop_at h, pre_no hp]

/-- Addition that stays in the machine's range. -/
theorem wrap_in {n : Int} (h0 : -9223372036854775808 ≤ n) (h1 : n ≤ 9223372036854775807) : IntKind.i64.wrap n = n := by
  simp [IntKind.wrap, IntKind.bits, IntKind.signed, IntKind.max]
  omega
def L_run_0 : ST → Tr (Ex × ST)
  | ⟨[(0, .d (.str s)), (3, .d (.int .i64 n))], []⟩ => .br (decide (0 ≤ n ∧ n ≤ s.length ∧ (s.length : Int) ≤ big)) (.leaf ((.ext 0), ⟨[(3, .d (.int .i64 (n + (pre isWord (s.drop n.toNat) : Int))))], []⟩)) .fail
  | _ => .fail

def runT : FT
  | [.d (.str s)], [] => .br (decide ((s.length : Int) ≤ big)) (.leaf (.d (.int .i64 (pre isWord s : Int)), [])) .fail
  | _, _ => .fail

noncomputable abbrev Xrun : TX := ⟨Try.prog, tbl [(19, letterT), (23, digitT)], iso, gl, vw⟩

theorem xok_Xrun (f : Nat) : XOK Xrun (ann f) gl := XOK.of base (l := [(19, letterT), (23, digitT)]) ⟨ok_letter, ok_digit, trivial⟩ f

def l_run_0 : CC := .seq (.seq (.region [
    ⟨.yes, (some 4), .move (.tmp 3), false, false, []⟩,
    ⟨.yes, (some 5), .move (.tmp 0), false, false, []⟩,
    ⟨.yes, (some 6), .call ⟨.builtin .len, #[(.tmp 5)], #[9]⟩, false, false, []⟩,
    ⟨.yes, (some 7), .binOp .lss 3 (.tmp 4) (.tmp 6) 3, false, false, []⟩,
    ⟨.yes, (some 8), .move (.tmp 7), true, false, []⟩,
    ⟨(.on 8 true), (some 9), .move (.tmp 0), false, false, []⟩,
    ⟨(.on 8 true), (some 10), .move (.tmp 3), false, false, []⟩,
    ⟨(.on 8 true), (some 11), .index 9 (.tmp 9) (.tmp 10), false, false, []⟩,
    ⟨(.on 8 true), (some 12), .call ⟨.value (.func 19), #[(.tmp 11)], #[5]⟩, false, false, []⟩,
    ⟨(.on 8 true), (some 13), .move (.tmp 12), true, false, []⟩,
    ⟨(.on 13 false), (some 14), .move (.tmp 0), false, false, []⟩,
    ⟨(.on 13 false), (some 15), .move (.tmp 3), false, false, []⟩,
    ⟨(.on 13 false), (some 16), .index 9 (.tmp 14) (.tmp 15), false, false, []⟩,
    ⟨(.on 13 false), (some 17), .call ⟨.value (.func 23), #[(.tmp 16)], #[5]⟩, false, false, []⟩,
    ⟨(.on 8 true), (some 18), .pick (.tmp 13) (.const (.bool true)) (.tmp 17), false, false, []⟩,
    ⟨.yes, (some 19), .pick (.tmp 8) (.tmp 18) (.const (.bool false)), false, false, []⟩] [0, 3, 19]) <|
  .cond (.tmp 19)
    (.skip)
    (.exit 0)) <|
  .block 1 <| .region [
    ⟨.yes, (some 20), .move (.tmp 3), true, false, []⟩,
    ⟨.yes, (some 21), .binOp .add 3 (.tmp 20) (.const (.int .i64 (1))) 3, false, false, []⟩,
    ⟨.yes, (some 3), .assign (.tmp 21), true, false, []⟩] [0, 3]

/-- rollbacknet/token.run -/
def c_run : CC := .seq (.region [
    ⟨.yes, (some 2), .assign (.const (.int .i64 (0))), false, false, []⟩] [0]) <|
  .seq (.region [
    ⟨.yes, (some 3), .assign (.const (.int .i64 (0))), false, false, []⟩] [0, 3]) <|
  .seq (.block 0 <| .keep [0, 3] <| .sum L_run_0 (.loop l_run_0)) <|
  .seq (.region [
    ⟨.yes, (some 22), .move (.tmp 3), true, false, []⟩,
    ⟨.yes, (some 2), .assign (.tmp 22), true, false, []⟩] [2]) <|
  .ret

theorem c_run_eq : ∃ c, Try.f20.body = some c ∧ codeOK Try.f20.ntmps c = true ∧ comp Try.prog (ann 20) c = erase c_run := ⟨_, rfl, by kernel_rfl, by kernel_rfl⟩

theorem body_run_0 (s : List UInt8) (n : Int) : bodyT Xrun [0, 3] [2] [(0, [3])] l_run_0 ⟨[(0, .d (.str s)), (3, .d (.int .i64 n))], []⟩ = (
    .br (decide (n < (s.length : Int)))
    (.br (decide ((0 : Int) ≤ n))
      (.opt (s[(Int.toNat n)]?) fun b1 => .br (isLetter (b1.toNat : Int))
        (.leaf (.nrm, ⟨[(0, (.d (.str s))), (3, (.d (.int .i64 (IntKind.i64.wrap (n + 1)))))], []⟩))
        (.br (decide ((0 : Int) ≤ n))
          (.opt (s[(Int.toNat n)]?) fun b2 => .br (isDigit (b2.toNat : Int))
            (.leaf (.nrm, ⟨[(0, (.d (.str s))), (3, (.d (.int .i64 (IntKind.i64.wrap (n + 1)))))], []⟩))
            (.leaf ((.ext 0), ⟨[(3, (.d (.int .i64 n)))], []⟩)))
          (.fail)))
      (.fail))
    (.leaf ((.ext 0), ⟨[(3, (.d (.int .i64 n)))], []⟩)) : Tr (Ex × ST)) := by kernel_rfl

theorem tree_run (s : List UInt8) : fnT Xrun c_run Try.f20.results.toList [.d (.str s)] [] = (
    .br (decide (0 ≤ (0 : Int) ∧ (0 : Int) ≤ s.length ∧ (s.length : Int) ≤ big))
    (.leaf ((.d (.int .i64 ((0 : Int) + (pre isWord (s.drop (0 : Int).toNat) : Int)))), []))
    (.fail) : Tr (AV × Hp)) := by kernel_rfl


theorem sum_run_0 : SumOK Try.prog gl (ann 20) L_run_0 (.loop l_run_0) := by
  refine SumOK.of_inv (X := Xrun) (xok_Xrun 20) (by simp only [Sums, l_run_0, and_true]) (by kernel_rfl) (lv := [0, 3]) (rt := [2]) (xs := [(0, [3])]) (by decide)
    (fun m st r => ∃ (s : List UInt8) (n : Nat), n ≤ s.length ∧ (s.length : Int) ≤ big ∧ st = ⟨[(0, .d (.str s)), (3, .d (.int .i64 (n : Int)))], []⟩ ∧ r = (.ext 0, ⟨[(3, .d (.int .i64 ((n : Int) + (pre isWord (s.drop n) : Int))))], []⟩) ∧ m = s.length - n) ?_ ?_
  · intro st r h
    unfold L_run_0 at h
    split at h
    · rename_i s n
      rcases Tr.br_some h with ⟨h1, h2⟩ | ⟨_, h2⟩
      · obtain ⟨h3, h4, h5⟩ := of_decide_eq_true h1
        obtain rfl := Tr.leaf_some h2
        obtain ⟨k, rfl⟩ := Int.eq_ofNat_of_zero_le h3
        exact ⟨_, s, k, by omega, h5, rfl, by simp, rfl⟩
      · exact Tr.fail_some h2
    · exact Tr.fail_some h
  · rintro m st r ⟨s, n, h1, h2, rfl, rfl, rfl⟩
    rw [body_run_0]
    have hw : n < s.length → IntKind.i64.wrap ((n : Int) + 1) = ((n + 1 : Nat) : Int) := fun h => by unfold big at h2; rw [wrap_in] <;> omega
    cases hb : s[n]? with
    | none =>
      have hl : s.length ≤ n := by simpa using hb
      have he : s.drop n = [] := List.drop_eq_nil_of_le hl
      refine ⟨.ext 0, _, ?_, .inl ⟨by simp, rfl⟩⟩
      have h3 : ¬ ((n : Int) < s.length) := by omega
      simp [Tr.run_br, Tr.run_leaf, h3, he, pre_nil]
    | some b =>
      have hl := at_len hb
      have h3 : ((n : Int) < s.length) := by omega
      cases hp : isWord b with
      | true =>
        refine ⟨.nrm, ⟨[(0, .d (.str s)), (3, .d (.int .i64 ((n + 1 : Nat) : Int)))], []⟩, ?_, .inr ⟨rfl, _, ?_, s, n + 1, by omega, h2, rfl, ?_, rfl⟩⟩
        · cases h4 : isLetter (b.toNat : Int) with
          | true => simp [Tr.run_br, Tr.run_leaf, Tr.run_opt_, h3, hb, h4, hw hl]
          | false =>
            have h5 : isDigit (b.toNat : Int) = true := by simpa [isWord, isLet, isDig, h4] using hp
            simp [Tr.run_br, Tr.run_leaf, Tr.run_opt_, h3, hb, h4, h5, hw hl]
        · omega
        · rw [pre_at_yes hb hp]; simp; omega
      | false =>
        refine ⟨.ext 0, _, ?_, .inl ⟨by simp, rfl⟩⟩
        simp only [isWord, Bool.or_eq_false_iff] at hp
        have h4 : isLetter (b.toNat : Int) = false := hp.1
        have h5 : isDigit (b.toNat : Int) = false := hp.2
        rw [pre_at_no hb (by simp [isWord, hp])]
        simp [Tr.run_br, Tr.run_leaf, Tr.run_opt_, h3, hb, h4, h5]

theorem ok_run : FnOK Try.prog gl 20 runT := by
  refine fn_of (X := Xrun) (xok_Xrun 20) Try.func20 c_run_eq (by kernel_rfl) (by simp only [Sums, c_run, and_true, true_and]; exact sum_run_0) ?_
  intro xs H o h
  unfold runT at h
  split at h
  · rw [tree_run]
    rcases Tr.br_some h with ⟨h1, h2⟩ | ⟨_, h2⟩
    · obtain rfl := Tr.leaf_some h2
      have h3 := of_decide_eq_true h1
      simp [Tr.run_br, Tr.run_leaf, h3]
    · exact Tr.fail_some h2
  · exact Tr.fail_some h

end Go.AI.TK
