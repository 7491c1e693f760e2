/- TokenScans, in sum. -/
import Derived.Test.YtkkmdjkahdglhaaTkH
namespace Go.AI.TK
open Go Go.Proofs
set_option maxRecDepth 100000
set_option linter.unusedVariables false
set_option linter.unusedSimpArgs false

/-- The text of the chapter's example. -/
def ex1 : List UInt8 := [97, 61, 61, 33, 98, 32, 35, 32, 99]
theorem scan_ex1 : scan ex1 = ([⟨1, [97], 0, 0⟩, ⟨3, [61, 61], 0, 1⟩, ⟨3, [33], 0, 3⟩, ⟨1, [98], 0, 4⟩], 0, 0) := by kernel_rfl
def awakeT : FT
  | [], [] => .leaf (.d (.bool true), [])
  | _, _ => .fail

noncomputable abbrev Xawake : TX := ⟨Try.prog, tbl [(7, scanT)], iso, gl, vw⟩

theorem xok_Xawake (f : Nat) : XOK Xawake (ann f) gl := XOK.of base (l := [(7, scanT)]) ⟨ok_scan, trivial⟩ f

/-- rollbacknet/rollbacknetlaw01.awake -/
def c_awake : CC := .seq (.region [
    ⟨.yes, (some 0), .assign (.const (.bool false)), false, false, []⟩] []) <|
  .seq (.region [
    ⟨.yes, (some 5), .call ⟨.value (.func 7), #[(.const (.string ⟨#[97, 61, 61, 33, 98, 32, 35, 32, 99]⟩))], #[9]⟩, false, false, []⟩,
    ⟨.yes, (some 4), .move (.tmp 5), true, false, []⟩,
    ⟨.yes, (some 6), .extract (.tmp 4) 0, false, false, [(some 4)]⟩,
    ⟨.yes, (some 7), .extract (.tmp 4) 1, false, false, []⟩,
    ⟨.yes, (some 8), .extract (.tmp 4) 2, false, false, []⟩,
    ⟨.yes, (some 1), .assign (.tmp 6), true, false, [(some 4)]⟩,
    ⟨.yes, (some 2), .assign (.tmp 7), true, false, []⟩,
    ⟨.yes, (some 3), .assign (.tmp 8), true, false, []⟩] [1, 3]) <|
  .seq (.region [
    ⟨.yes, (some 9), .move (.tmp 3), true, false, []⟩,
    ⟨.yes, (some 10), .binOp .eql 24 (.tmp 9) (.const (.int .i64 (0))) 24, false, false, []⟩,
    ⟨.yes, (some 11), .move (.tmp 10), true, false, []⟩,
    ⟨(.on 11 true), (some 12), .move (.tmp 1), false, false, [(some 4)]⟩,
    ⟨(.on 11 true), (some 13), .call ⟨.builtin .len, #[(.tmp 12)], #[23]⟩, false, false, []⟩,
    ⟨(.on 11 true), (some 14), .binOp .eql 3 (.tmp 13) (.const (.int .i64 (4))) 3, false, false, []⟩,
    ⟨.yes, (some 15), .pick (.tmp 11) (.tmp 14) (.const (.bool false)), false, false, []⟩,
    ⟨.yes, (some 16), .move (.tmp 15), true, false, []⟩,
    ⟨(.on 16 true), (some 17), .move (.tmp 1), false, false, [(some 4)]⟩,
    ⟨(.on 16 true), (some 18), .indexAddr 23 (.tmp 17) (.const (.int .i64 (3))), false, false, []⟩,
    ⟨(.on 16 true), (some 19), .fieldAddr 31 (.tmp 18) 3, false, false, []⟩,
    ⟨(.on 16 true), (some 20), .load 3 (.tmp 19), false, false, []⟩,
    ⟨(.on 16 true), (some 21), .binOp .eql 3 (.tmp 20) (.const (.int .i64 (4))) 3, false, false, []⟩,
    ⟨.yes, (some 22), .pick (.tmp 16) (.tmp 21) (.const (.bool false)), false, false, []⟩,
    ⟨.yes, (some 23), .move (.tmp 22), true, false, []⟩,
    ⟨(.on 23 true), (some 24), .move (.tmp 1), true, false, [(some 4)]⟩,
    ⟨(.on 23 true), (some 25), .indexAddr 23 (.tmp 24) (.const (.int .i64 (1))), false, false, []⟩,
    ⟨(.on 23 true), (some 26), .fieldAddr 31 (.tmp 25) 1, false, false, []⟩,
    ⟨(.on 23 true), (some 27), .load 9 (.tmp 26), false, false, []⟩,
    ⟨(.on 23 true), (some 28), .binOp .eql 9 (.tmp 27) (.const (.string ⟨#[61, 61]⟩)) 9, false, false, []⟩,
    ⟨.yes, (some 29), .pick (.tmp 23) (.tmp 28) (.const (.bool false)), false, false, []⟩,
    ⟨.yes, (some 0), .assign (.tmp 29), true, false, []⟩] [0]) <|
  .ret

theorem c_awake_eq : ∃ c, Try.f6.body = some c ∧ codeOK Try.f6.ntmps c = true ∧ comp Try.prog (ann 6) c = erase c_awake := ⟨_, rfl, by kernel_rfl, by kernel_rfl⟩

theorem tree_awake : fnT Xawake c_awake Try.f6.results.toList [] [] = (
    .br (decide (((scan ([97, 61, 61, 33, 98, 32, 35, 32, 99] : List UInt8)).2.2) = 0))
    (.br (decide ((((scan ([97, 61, 61, 33, 98, 32, 35, 32, 99] : List UInt8)).1.map encTok).length : Int) = 4))
      (.br (decide ((0 : Int) ≤ 3))
        (.opt ((((scan ([97, 61, 61, 33, 98, 32, 35, 32, 99] : List UInt8)).1.map encTok)[3]?).bind unTok) fun y1 => .br (decide (y1.pos = 4))
          (.br (decide ((0 : Int) ≤ 1))
            (.opt ((((scan ([97, 61, 61, 33, 98, 32, 35, 32, 99] : List UInt8)).1.map encTok)[1]?).bind unTok) fun y2 => .leaf ((.d (.bool (decide (y2.text = [61, 61])))), []))
            (.fail))
          (.leaf ((.d (.bool false)), [])))
        (.fail))
      (.leaf ((.d (.bool false)), [])))
    (.leaf ((.d (.bool false)), [])) : Tr (AV × Hp)) := by kernel_rfl

theorem ex1_eq : ([97, 61, 61, 33, 98, 32, 35, 32, 99] : List UInt8) = ex1 := rfl
theorem ok_awake : FnOK Try.prog gl 6 awakeT := by
  refine fn_of (X := Xawake) (xok_Xawake 6) Try.func6 c_awake_eq (by kernel_rfl) (by simp only [Sums, c_awake, and_true]) ?_
  intro xs H o h
  unfold awakeT at h
  split at h
  · rw [tree_awake]
    obtain rfl := Tr.leaf_some h
    simp only [ex1_eq, scan_ex1]
    simp [Tr.run_br, Tr.run_leaf, Tr.run_opt_, encTok, unTok]
  · exact Tr.fail_some h

def lscansT : FT
  | [.d (.str s)], [] => .br (decide ((s.length : Int) ≤ big)) (.leaf (.d (.bool true), [])) .fail
  | _, _ => .fail

noncomputable abbrev Xlscans : TX := ⟨Try.prog, tbl [(6, awakeT), (7, scanT), (8, rscanT), (9, requalT)], iso, gl, vw⟩

theorem xok_Xlscans (f : Nat) : XOK Xlscans (ann f) gl := XOK.of base (l := [(6, awakeT), (7, scanT), (8, rscanT), (9, requalT)]) ⟨ok_awake, ok_scan, ok_rscan, ok_requal, trivial⟩ f

/-- rollbacknet/rollbacknetlaw01.TokenScans -/
def c_lscans : CC := .seq (.region [
    ⟨.yes, (some 2), .assign (.const (.bool false)), false, false, []⟩] [0]) <|
  .seq (.seq (.region [
    ⟨.yes, (some 9), .call ⟨.value (.func 6), #[], #[]⟩, false, false, []⟩,
    ⟨.yes, (some 10), .unOp .not 4 (.tmp 9), false, false, []⟩] [0, 10]) <|
  .cond (.tmp 10)
    (.seq (.region [
      ⟨.yes, (some 2), .assign (.const (.bool false)), false, false, []⟩] [2]) <|
    .ret)
    (.skip)) <|
  .seq (.region [
    ⟨.yes, (some 12), .move (.tmp 0), false, false, []⟩,
    ⟨.yes, (some 13), .call ⟨.value (.func 7), #[(.tmp 12)], #[9]⟩, false, false, []⟩,
    ⟨.yes, (some 11), .move (.tmp 13), true, false, []⟩,
    ⟨.yes, (some 14), .extract (.tmp 11) 0, false, false, [(some 4)]⟩,
    ⟨.yes, (some 15), .extract (.tmp 11) 1, false, false, []⟩,
    ⟨.yes, (some 16), .extract (.tmp 11) 2, false, false, []⟩,
    ⟨.yes, (some 3), .assign (.tmp 14), true, false, [(some 4)]⟩,
    ⟨.yes, (some 4), .assign (.tmp 15), true, false, []⟩,
    ⟨.yes, (some 5), .assign (.tmp 16), true, false, []⟩] [0, 3, 4, 5]) <|
  .seq (.region [
    ⟨.yes, (some 18), .move (.tmp 0), true, false, []⟩,
    ⟨.yes, (some 19), .call ⟨.value (.func 8), #[(.tmp 18)], #[9]⟩, false, false, []⟩,
    ⟨.yes, (some 17), .move (.tmp 19), true, false, []⟩,
    ⟨.yes, (some 20), .extract (.tmp 17) 0, false, false, [(some 4)]⟩,
    ⟨.yes, (some 21), .extract (.tmp 17) 1, false, false, []⟩,
    ⟨.yes, (some 22), .extract (.tmp 17) 2, false, false, []⟩,
    ⟨.yes, (some 6), .assign (.tmp 20), true, false, [(some 4)]⟩,
    ⟨.yes, (some 7), .assign (.tmp 21), true, false, []⟩,
    ⟨.yes, (some 8), .assign (.tmp 22), true, false, []⟩] [3, 4, 5, 6, 7, 8]) <|
  .seq (.region [
    ⟨.yes, (some 23), .move (.tmp 5), true, false, []⟩,
    ⟨.yes, (some 24), .move (.tmp 8), true, false, []⟩,
    ⟨.yes, (some 25), .binOp .eql 24 (.tmp 23) (.tmp 24) 24, false, false, []⟩,
    ⟨.yes, (some 26), .move (.tmp 25), true, false, []⟩,
    ⟨(.on 26 true), (some 27), .move (.tmp 4), true, false, []⟩,
    ⟨(.on 26 true), (some 28), .move (.tmp 7), true, false, []⟩,
    ⟨(.on 26 true), (some 29), .binOp .eql 3 (.tmp 27) (.tmp 28) 3, false, false, []⟩,
    ⟨.yes, (some 30), .pick (.tmp 26) (.tmp 29) (.const (.bool false)), false, false, []⟩,
    ⟨.yes, (some 31), .move (.tmp 30), true, false, []⟩,
    ⟨(.on 31 true), (some 32), .move (.tmp 3), true, false, [(some 4)]⟩,
    ⟨(.on 31 true), (some 33), .move (.tmp 6), true, false, [(some 4)]⟩,
    ⟨(.on 31 true), (some 34), .call ⟨.value (.func 9), #[(.tmp 32), (.tmp 33)], #[23, 23]⟩, false, false, []⟩,
    ⟨.yes, (some 35), .pick (.tmp 31) (.tmp 34) (.const (.bool false)), false, false, []⟩,
    ⟨.yes, (some 2), .assign (.tmp 35), true, false, []⟩] [2]) <|
  .ret

theorem c_lscans_eq : ∃ c, Try.f3.body = some c ∧ codeOK Try.f3.ntmps c = true ∧ comp Try.prog (ann 3) c = erase c_lscans := ⟨_, rfl, by kernel_rfl, by kernel_rfl⟩

theorem tree_lscans (s : List UInt8) : fnT Xlscans c_lscans Try.f3.results.toList [.d (.str s)] [] = (
    .br false
    (.leaf ((.d (.bool false)), []))
    (.br (decide (((scan s).2.2) = ((scan s).2.2)))
      (.br (decide (((scan s).2.1) = ((scan s).2.1)))
        (.opt (unToks ((scan s).1.map encTok)) fun a1 => .opt (unToks ((scan s).1.map encTok)) fun b2 => .br (decide ((a1.length : Int) ≤ big))
          (.leaf ((.d (.bool (sameToks a1 b2 && eqPos a1 b2))), []))
          (.fail))
        (.leaf ((.d (.bool false)), [])))
      (.leaf ((.d (.bool false)), []))) : Tr (AV × Hp)) := by kernel_rfl


theorem scanF_len : ∀ (k : Nat) (s : List UInt8) (i : Int), (scanF k s i).1.length ≤ s.length
  | 0, _, _ => Nat.zero_le _
  | k + 1, [], _ => Nat.zero_le _
  | k + 1, c :: r, i => by
    cases hb : isBlank c with
    | true => rw [scanF_blank hb]; have := scanF_len k r (i + 1); simp; omega
    | false =>
      by_cases h1 : (c.toNat : Int) = 35
      · rw [scanF_note hb h1]
        have := scanF_len k ((c :: r).drop (pre notNl (c :: r))) (i + pre notNl (c :: r))
        rw [List.length_drop] at this; omega
      · by_cases h2 : (oneRes (c :: r)).er = 0
        · rw [scanF_tok hb h1 h2]
          have := scanF_len k ((c :: r).drop (oneRes (c :: r)).ln.toNat) (i + (oneRes (c :: r)).ln)
          have ho := one_len c r h2
          rw [List.length_drop] at this
          simp only [List.length_cons] at *; omega
        · rw [scanF_err hb h1 h2]; exact Nat.zero_le _

theorem scan_len (s : List UInt8) : ((scan s).1.length : Int) ≤ 4096 := by
  unfold scan
  by_cases h : 4096 < (s.length : Int)
  · rw [if_pos h]; simp
  · rw [if_neg h]
    have := scanF_len (s.length + 1) s 0
    split
    · simp only; omega
    · simp

theorem same_refl : ∀ (l : List Tok), (sameToks l l && eqPos l l) = true
  | [] => rfl
  | a :: l => by
    have := same_refl l
    simp only [Bool.and_eq_true] at this
    simp [sameToks, sameTok, eqPos, this.1, this.2]
theorem ok_lscans : FnOK Try.prog gl 3 lscansT := by
  refine fn_of (X := Xlscans) (xok_Xlscans 3) Try.func3 c_lscans_eq (by kernel_rfl) (by simp only [Sums, c_lscans, and_true]) ?_
  intro xs H o h
  unfold lscansT at h
  split at h
  · rw [tree_lscans]
    rcases Tr.br_some h with ⟨h1, h2⟩ | ⟨_, h2⟩
    · obtain rfl := Tr.leaf_some h2
      rename_i s
      have hl := scan_len s
      rw [Tr.run_no rfl]
      refine Tr.dec_yes rfl (Tr.dec_yes rfl (Tr.opt_to (unToks_of _) (Tr.opt_to (unToks_of _) (Tr.dec_yes (by unfold big; omega) ?_))))
      rw [same_refl]; rfl
    · exact Tr.fail_some h2
  · exact Tr.fail_some h

end Go.AI.TK
