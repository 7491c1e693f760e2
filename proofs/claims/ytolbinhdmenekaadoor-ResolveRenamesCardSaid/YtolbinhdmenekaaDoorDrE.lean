/- New and Codes.Program, in sum. -/
import Derived.Test.YtolbinhdmenekaaDoorDrC
import Derived.Test.YtolbinhdmenekaaDoorDrA
namespace Go.AI.RD
open Go Go.Proofs
set_option maxRecDepth 10000
set_option linter.unusedVariables false
set_option linter.unusedSimpArgs false

theorem ok_dstmts3 : FnOK Tryd.prog gl 19 (dstmtsT 3) := ok_dstmts 3 (by decide)

structure Pr where
  vars : List Var
  start : List St
  message : List St
  tick : List St
  input : List St

/-- A program that is drawn. -/
def drawP (r : List UInt8) : Pr × List UInt8 :=
  let a := nx 7 r
  let b := nx 5 a.2
  let c := nx 3 b.2
  let st := drawS 2 3 c.2
  let ms := drawS 3 4 st.2
  let tk := drawS 2 3 ms.2
  let ip := drawS 2 2 tk.2
  (⟨[⟨[120], 0, (a.1 : Int) - 2⟩, ⟨[97], 1 + (b.1 : Int), 0⟩, ⟨[121], 0, 0⟩, ⟨[122], 0, (c.1 : Int)⟩, ⟨[98], 2, 0⟩], st.1, ms.1, tk.1, ip.1⟩, ip.2)

def newT : FT
  | [.d (.sl 1 xs), .d (.int .i64 m)], [] => .opt (unL unU8 xs) fun s => .br (decide (0 ≤ m)) (.leaf (.hp 0 0, [[.d (.sl 1 ((s.take m.toNat).map encU8)), .d (.int .i64 0)]])) .fail
  | _, _ => .fail

def programT : FT
  | [.hp 0 0], [[.d (.sl 1 xs), .d (.int .i64 a)]] => .opt (unL unU8 xs) fun s => .br (decide (0 ≤ a ∧ a ≤ s.length ∧ (s.length : Int) ≤ 100000)) (.leaf (.agg [.d (.sl 3 ((drawP (s.drop a.toNat)).1.vars.map encVar)), .d (.sl 18 ((drawP (s.drop a.toNat)).1.start.map encSt)), .d (.sl 18 ((drawP (s.drop a.toNat)).1.message.map encSt)), .d (.sl 18 ((drawP (s.drop a.toNat)).1.tick.map encSt)), .d (.sl 18 ((drawP (s.drop a.toNat)).1.input.map encSt))], [[.d (.sl 1 xs), .d (.int .i64 (atOf s (drawP (s.drop a.toNat)).2))]])) .fail
  | _, _ => .fail

noncomputable abbrev X1 : TX := ⟨Tryd.prog, tbl [], iso, gl, vw⟩

theorem xok_X1 (f : Nat) : XOK X1 (ann f) gl := XOK.of base (l := []) trivial f

noncomputable abbrev Xpr : TX := ⟨Tryd.prog, tbl [(18, nextT), (19, (dstmtsT 3))], iso, gl, vw⟩

theorem xok_Xpr (f : Nat) : XOK Xpr (ann f) gl := XOK.of base (l := [(18, nextT), (19, (dstmtsT 3))]) ⟨ok_next, ok_dstmts3, trivial⟩ f

/-- rollbacknet/rollbacknetmake.New -/
def c_new : CC := .seq (.region [
    ⟨.yes, (some 4), .assign (.const (.pointer none)), false, false, []⟩] [0, 1]) <|
  .seq (.seq (.region [
    ⟨.yes, (some 5), .move (.tmp 0), false, false, [(some 1)]⟩,
    ⟨.yes, (some 6), .call ⟨.builtin .len, #[(.tmp 5)], #[22]⟩, false, false, []⟩,
    ⟨.yes, (some 7), .move (.tmp 1), false, false, []⟩,
    ⟨.yes, (some 8), .binOp .gtr 3 (.tmp 6) (.tmp 7) 3, false, false, []⟩] [0, 1, 8]) <|
  .cond (.tmp 8)
    (.region [
      ⟨.yes, (some 9), .move (.tmp 0), true, false, [(some 1)]⟩,
      ⟨.yes, (some 10), .move (.tmp 1), true, false, []⟩,
      ⟨.yes, (some 11), .slice 22 (.tmp 9) none (some (.tmp 10)) none, false, false, [(some 1)]⟩,
      ⟨.yes, (some 0), .assign (.tmp 11), true, false, [(some 1)]⟩] [0])
    (.skip)) <|
  .seq (.region [
    ⟨.yes, (some 12), .move (.tmp 0), true, false, [(some 1)]⟩,
    ⟨.yes, (some 13), .build 50 #[(0, (.tmp 12))], true, false, [(some 1), none]⟩,
    ⟨.yes, (some 14), .box 50 (.tmp 13), true, true, []⟩,
    ⟨.yes, (some 4), .assign (.tmp 14), false, false, []⟩] [4, 14]) <|
  .ret

theorem c_new_eq : ∃ c, Tryd.f7.body = some c ∧ codeOK Tryd.f7.ntmps c = true ∧ comp Tryd.prog (ann 7) c = erase c_new := ⟨_, rfl, by kernel_rfl, by kernel_rfl⟩

theorem tree_new (xs : List DV) (m : Int) : fnT X1 c_new Tryd.f7.results.toList [.d (.sl 1 xs), .d (.int .i64 m)] [] = (
    .br (decide (m < (xs.length : Int)))
 (.br (decide ((0 : Int) ≤ 0 ∧ (0 : Int) ≤ m ∧ m ≤ (xs.length : Int)))
 (.leaf (.hp 0 0, [[.d (.sl 1 (List.drop 0 (List.take (Int.toNat m) xs))), .d (.int .i64 0)]]))
 (.fail))
 (.leaf (.hp 0 0, [[.d (.sl 1 xs), .d (.int .i64 0)]])) : Tr (AV × Hp)) := by kernel_rfl

theorem ok_new : FnOK Tryd.prog gl 7 newT := by
  refine fn_of (X := X1) (xok_X1 7) Tryd.func7 c_new_eq (by kernel_rfl) (by simp only [Sums, c_new, and_true]) ?_
  intro xs H o h
  unfold newT at h
  split at h
  · rename_i xs m
    rw [tree_new]
    obtain ⟨s, hs, h0⟩ := Tr.opt_some h
    obtain rfl := unL_inv unU8_ok hs
    rcases Tr.br_some h0 with ⟨h1, h2⟩ | ⟨_, h2⟩
    · have h3 := of_decide_eq_true h1
      obtain rfl := Tr.leaf_some h2
      obtain ⟨k, rfl⟩ := Int.eq_ofNat_of_zero_le h3
      by_cases h4 : (k : Int) < ((s.map encU8).length : Int)
      · refine Tr.dec_yes h4 (Tr.dec_yes ⟨by omega, h3, by omega⟩ ?_)
        simp [Tr.run_leaf, List.map_take]
      · refine Tr.dec_no h4 ?_
        have h5 : s.length ≤ k := by simp at h4; omega
        simp [Tr.run_leaf, List.take_of_length_le h5]
    · exact Tr.fail_some h2
  · exact Tr.fail_some h

/-- (*rollbacknet/rollbacknetmake.Codes).Program -/
def c_program : CC := .seq (.region [
    ⟨.yes, (some 2), .alloc 29, false, false, []⟩] [0, 2]) <|
  .seq (.region [
    ⟨.yes, (some 4), .move (.tmp 0), false, false, []⟩,
    ⟨.yes, (some 5), .call ⟨.value (.func 18), #[(.tmp 4), (.const (.int .i64 (7)))], #[24, 3]⟩, false, false, []⟩,
    ⟨.yes, (some 6), .binOp .sub 3 (.tmp 5) (.const (.int .i64 (2))) 3, false, false, []⟩,
    ⟨.yes, (some 7), .build 42 #[(0, (.const (.string ⟨#[120]⟩))), (2, (.tmp 6))], true, false, []⟩,
    ⟨.yes, (some 8), .move (.tmp 0), false, false, []⟩,
    ⟨.yes, (some 9), .call ⟨.value (.func 18), #[(.tmp 8), (.const (.int .i64 (5)))], #[24, 3]⟩, false, false, []⟩,
    ⟨.yes, (some 10), .binOp .add 3 (.const (.int .i64 (1))) (.tmp 9) 3, false, false, []⟩,
    ⟨.yes, (some 11), .build 42 #[(0, (.const (.string ⟨#[97]⟩))), (1, (.tmp 10))], true, false, []⟩,
    ⟨.yes, (some 12), .build 42 #[(0, (.const (.string ⟨#[121]⟩)))], false, false, []⟩,
    ⟨.yes, (some 13), .move (.tmp 0), false, false, []⟩,
    ⟨.yes, (some 14), .call ⟨.value (.func 18), #[(.tmp 13), (.const (.int .i64 (3)))], #[24, 3]⟩, false, false, []⟩,
    ⟨.yes, (some 15), .build 42 #[(0, (.const (.string ⟨#[122]⟩))), (2, (.tmp 14))], true, false, []⟩,
    ⟨.yes, (some 16), .build 42 #[(0, (.const (.string ⟨#[98]⟩))), (1, (.const (.int .i64 (2))))], false, false, []⟩,
    ⟨.yes, (some 17), .buildSlice 26 5 #[(0, (.tmp 7)), (1, (.tmp 11)), (2, (.tmp 12)), (3, (.tmp 15)), (4, (.tmp 16))], false, false, [(some 3)]⟩,
    ⟨.yes, (some 18), .build 29 #[(0, (.tmp 17))], true, false, [(some 3), (some 18), (some 18), (some 18), (some 18)]⟩,
    ⟨.yes, (some 3), .alloc 29, false, false, []⟩,
    ⟨.yes, none, .store 29 (.tmp 3) (.tmp 18), true, false, []⟩] [0, 2, 3]) <|
  .seq (.region [
    ⟨.yes, (some 19), .move (.tmp 0), false, false, []⟩,
    ⟨.yes, (some 20), .call ⟨.value (.func 19), #[(.tmp 19), (.const (.int .i64 (3))), (.const (.int .i64 (2)))], #[24, 3, 3]⟩, false, false, [(some 18)]⟩,
    ⟨.yes, (some 21), .fieldAddr 29 (.tmp 3) 1, false, false, []⟩,
    ⟨.yes, none, .store 27 (.tmp 21) (.tmp 20), true, false, []⟩] [0, 2, 3]) <|
  .seq (.region [
    ⟨.yes, (some 22), .move (.tmp 0), false, false, []⟩,
    ⟨.yes, (some 23), .call ⟨.value (.func 19), #[(.tmp 22), (.const (.int .i64 (4))), (.const (.int .i64 (3)))], #[24, 3, 3]⟩, false, false, [(some 18)]⟩,
    ⟨.yes, (some 24), .fieldAddr 29 (.tmp 3) 2, false, false, []⟩,
    ⟨.yes, none, .store 27 (.tmp 24) (.tmp 23), true, false, []⟩] [0, 2, 3]) <|
  .seq (.region [
    ⟨.yes, (some 25), .move (.tmp 0), false, false, []⟩,
    ⟨.yes, (some 26), .call ⟨.value (.func 19), #[(.tmp 25), (.const (.int .i64 (3))), (.const (.int .i64 (2)))], #[24, 3, 3]⟩, false, false, [(some 18)]⟩,
    ⟨.yes, (some 27), .fieldAddr 29 (.tmp 3) 3, false, false, []⟩,
    ⟨.yes, none, .store 27 (.tmp 27) (.tmp 26), true, false, []⟩] [0, 2, 3]) <|
  .seq (.region [
    ⟨.yes, (some 28), .move (.tmp 0), true, false, []⟩,
    ⟨.yes, (some 29), .call ⟨.value (.func 19), #[(.tmp 28), (.const (.int .i64 (2))), (.const (.int .i64 (2)))], #[24, 3, 3]⟩, false, false, [(some 18)]⟩,
    ⟨.yes, (some 30), .fieldAddr 29 (.tmp 3) 4, false, false, []⟩,
    ⟨.yes, none, .store 27 (.tmp 30) (.tmp 29), true, false, []⟩] [2, 3]) <|
  .seq (.region [
    ⟨.yes, (some 31), .load 29 (.tmp 3), false, false, [(some 3), (some 18), (some 18), (some 18), (some 18)]⟩,
    ⟨.yes, none, .store 29 (.tmp 2) (.tmp 31), true, false, []⟩] [2]) <|
  .ret

theorem c_program_eq : ∃ c, Tryd.f8.body = some c ∧ codeOK Tryd.f8.ntmps c = true ∧ comp Tryd.prog (ann 8) c = erase c_program := ⟨_, rfl, by kernel_rfl, by kernel_rfl⟩

theorem tree_program (xs : List DV) (a : Int) : fnT Xpr c_program Tryd.f8.results.toList [.hp 0 0] [[.d (.sl 1 xs), .d (.int .i64 a)]] = (
    .opt (unL unU8 xs) fun s1 => .br (decide (0 ≤ a ∧ a ≤ s1.length ∧ (s1.length : Int) ≤ 100000 ∧ 0 < (7 : Int) ∧ (7 : Int) ≤ 256))
 (.opt (unL unU8 xs) fun s2 => .br (decide (0 ≤ (atOf s1 (nx (7 : Int).toNat (s1.drop a.toNat)).2) ∧ (atOf s1 (nx (7 : Int).toNat (s1.drop a.toNat)).2) ≤ s2.length ∧ (s2.length : Int) ≤ 100000 ∧ 0 < (5 : Int) ∧ (5 : Int) ≤ 256))
 (.opt (unL unU8 xs) fun s3 => .br (decide (0 ≤ (atOf s2 (nx (5 : Int).toNat (s2.drop (atOf s1 (nx (7 : Int).toNat (s1.drop a.toNat)).2).toNat)).2) ∧ (atOf s2 (nx (5 : Int).toNat (s2.drop (atOf s1 (nx (7 : Int).toNat (s1.drop a.toNat)).2).toNat)).2) ≤ s3.length ∧ (s3.length : Int) ≤ 100000 ∧ 0 < (3 : Int) ∧ (3 : Int) ≤ 256))
 (.opt (unL unU8 xs) fun s4 => .br (decide (0 ≤ (atOf s3 (nx (3 : Int).toNat (s3.drop (atOf s2 (nx (5 : Int).toNat (s2.drop (atOf s1 (nx (7 : Int).toNat (s1.drop a.toNat)).2).toNat)).2).toNat)).2) ∧ (atOf s3 (nx (3 : Int).toNat (s3.drop (atOf s2 (nx (5 : Int).toNat (s2.drop (atOf s1 (nx (7 : Int).toNat (s1.drop a.toNat)).2).toNat)).2).toNat)).2) ≤ s4.length ∧ (s4.length : Int) ≤ 100000 ∧ 0 ≤ (3 : Int) ∧ (3 : Int) ≤ 255 ∧ 1 ≤ (2 : Int) ∧ (2 : Int) ≤ ((3 : Nat) : Int)))
 (.opt (unL unU8 xs) fun s5 => .br (decide (0 ≤ (atOf s4 (drawS (2 : Int).toNat (3 : Int).toNat (s4.drop (atOf s3 (nx (3 : Int).toNat (s3.drop (atOf s2 (nx (5 : Int).toNat (s2.drop (atOf s1 (nx (7 : Int).toNat (s1.drop a.toNat)).2).toNat)).2).toNat)).2).toNat)).2) ∧ (atOf s4 (drawS (2 : Int).toNat (3 : Int).toNat (s4.drop (atOf s3 (nx (3 : Int).toNat (s3.drop (atOf s2 (nx (5 : Int).toNat (s2.drop (atOf s1 (nx (7 : Int).toNat (s1.drop a.toNat)).2).toNat)).2).toNat)).2).toNat)).2) ≤ s5.length ∧ (s5.length : Int) ≤ 100000 ∧ 0 ≤ (4 : Int) ∧ (4 : Int) ≤ 255 ∧ 1 ≤ (3 : Int) ∧ (3 : Int) ≤ ((3 : Nat) : Int)))
 (.opt (unL unU8 xs) fun s6 => .br (decide (0 ≤ (atOf s5 (drawS (3 : Int).toNat (4 : Int).toNat (s5.drop (atOf s4 (drawS (2 : Int).toNat (3 : Int).toNat (s4.drop (atOf s3 (nx (3 : Int).toNat (s3.drop (atOf s2 (nx (5 : Int).toNat (s2.drop (atOf s1 (nx (7 : Int).toNat (s1.drop a.toNat)).2).toNat)).2).toNat)).2).toNat)).2).toNat)).2) ∧ (atOf s5 (drawS (3 : Int).toNat (4 : Int).toNat (s5.drop (atOf s4 (drawS (2 : Int).toNat (3 : Int).toNat (s4.drop (atOf s3 (nx (3 : Int).toNat (s3.drop (atOf s2 (nx (5 : Int).toNat (s2.drop (atOf s1 (nx (7 : Int).toNat (s1.drop a.toNat)).2).toNat)).2).toNat)).2).toNat)).2).toNat)).2) ≤ s6.length ∧ (s6.length : Int) ≤ 100000 ∧ 0 ≤ (3 : Int) ∧ (3 : Int) ≤ 255 ∧ 1 ≤ (2 : Int) ∧ (2 : Int) ≤ ((3 : Nat) : Int)))
 (.opt (unL unU8 xs) fun s7 => .br (decide (0 ≤ (atOf s6 (drawS (2 : Int).toNat (3 : Int).toNat (s6.drop (atOf s5 (drawS (3 : Int).toNat (4 : Int).toNat (s5.drop (atOf s4 (drawS (2 : Int).toNat (3 : Int).toNat (s4.drop (atOf s3 (nx (3 : Int).toNat (s3.drop (atOf s2 (nx (5 : Int).toNat (s2.drop (atOf s1 (nx (7 : Int).toNat (s1.drop a.toNat)).2).toNat)).2).toNat)).2).toNat)).2).toNat)).2).toNat)).2) ∧ (atOf s6 (drawS (2 : Int).toNat (3 : Int).toNat (s6.drop (atOf s5 (drawS (3 : Int).toNat (4 : Int).toNat (s5.drop (atOf s4 (drawS (2 : Int).toNat (3 : Int).toNat (s4.drop (atOf s3 (nx (3 : Int).toNat (s3.drop (atOf s2 (nx (5 : Int).toNat (s2.drop (atOf s1 (nx (7 : Int).toNat (s1.drop a.toNat)).2).toNat)).2).toNat)).2).toNat)).2).toNat)).2).toNat)).2) ≤ s7.length ∧ (s7.length : Int) ≤ 100000 ∧ 0 ≤ (2 : Int) ∧ (2 : Int) ≤ 255 ∧ 1 ≤ (2 : Int) ∧ (2 : Int) ≤ ((3 : Nat) : Int)))
 (.leaf (.agg [.d (.sl 3 [(.agg [.str [120], .int .i64 0, .int .i64 (IntKind.i64.wrap (((nx (7 : Int).toNat (s1.drop a.toNat)).1 : Int) - 2))]), (.agg [.str [97], .int .i64 (IntKind.i64.wrap (1 + ((nx (5 : Int).toNat (s2.drop (atOf s1 (nx (7 : Int).toNat (s1.drop a.toNat)).2).toNat)).1 : Int))), .int .i64 0]), (.agg [.str [121], .int .i64 0, .int .i64 0]), (.agg [.str [122], .int .i64 0, .int .i64 ((nx (3 : Int).toNat (s3.drop (atOf s2 (nx (5 : Int).toNat (s2.drop (atOf s1 (nx (7 : Int).toNat (s1.drop a.toNat)).2).toNat)).2).toNat)).1 : Int)]), (.agg [.str [98], .int .i64 2, .int .i64 0])]), .d (.sl 18 ((drawS (2 : Int).toNat (3 : Int).toNat (s4.drop (atOf s3 (nx (3 : Int).toNat (s3.drop (atOf s2 (nx (5 : Int).toNat (s2.drop (atOf s1 (nx (7 : Int).toNat (s1.drop a.toNat)).2).toNat)).2).toNat)).2).toNat)).1.map encSt)), .d (.sl 18 ((drawS (3 : Int).toNat (4 : Int).toNat (s5.drop (atOf s4 (drawS (2 : Int).toNat (3 : Int).toNat (s4.drop (atOf s3 (nx (3 : Int).toNat (s3.drop (atOf s2 (nx (5 : Int).toNat (s2.drop (atOf s1 (nx (7 : Int).toNat (s1.drop a.toNat)).2).toNat)).2).toNat)).2).toNat)).2).toNat)).1.map encSt)), .d (.sl 18 ((drawS (2 : Int).toNat (3 : Int).toNat (s6.drop (atOf s5 (drawS (3 : Int).toNat (4 : Int).toNat (s5.drop (atOf s4 (drawS (2 : Int).toNat (3 : Int).toNat (s4.drop (atOf s3 (nx (3 : Int).toNat (s3.drop (atOf s2 (nx (5 : Int).toNat (s2.drop (atOf s1 (nx (7 : Int).toNat (s1.drop a.toNat)).2).toNat)).2).toNat)).2).toNat)).2).toNat)).2).toNat)).1.map encSt)), .d (.sl 18 ((drawS (2 : Int).toNat (2 : Int).toNat (s7.drop (atOf s6 (drawS (2 : Int).toNat (3 : Int).toNat (s6.drop (atOf s5 (drawS (3 : Int).toNat (4 : Int).toNat (s5.drop (atOf s4 (drawS (2 : Int).toNat (3 : Int).toNat (s4.drop (atOf s3 (nx (3 : Int).toNat (s3.drop (atOf s2 (nx (5 : Int).toNat (s2.drop (atOf s1 (nx (7 : Int).toNat (s1.drop a.toNat)).2).toNat)).2).toNat)).2).toNat)).2).toNat)).2).toNat)).2).toNat)).1.map encSt))], [[.d (.sl 1 xs), .d (.int .i64 (atOf s7 (drawS (2 : Int).toNat (2 : Int).toNat (s7.drop (atOf s6 (drawS (2 : Int).toNat (3 : Int).toNat (s6.drop (atOf s5 (drawS (3 : Int).toNat (4 : Int).toNat (s5.drop (atOf s4 (drawS (2 : Int).toNat (3 : Int).toNat (s4.drop (atOf s3 (nx (3 : Int).toNat (s3.drop (atOf s2 (nx (5 : Int).toNat (s2.drop (atOf s1 (nx (7 : Int).toNat (s1.drop a.toNat)).2).toNat)).2).toNat)).2).toNat)).2).toNat)).2).toNat)).2).toNat)).2))]]))
 (.fail))
 (.fail))
 (.fail))
 (.fail))
 (.fail))
 (.fail))
 (.fail) : Tr (AV × Hp)) := by kernel_rfl

theorem ok_program : FnOK Tryd.prog gl 8 programT := by
  refine fn_of (X := Xpr) (xok_Xpr 8) Tryd.func8 c_program_eq (by kernel_rfl) (by simp only [Sums, c_program, and_true]) ?_
  intro xs H o h
  unfold programT at h
  split at h
  · rename_i xs a
    rw [tree_program]
    obtain ⟨s, hs, h⟩ := Tr.opt_some h
    rcases Tr.br_some h with ⟨h1, h2⟩ | ⟨_, h2⟩
    · obtain ⟨h3, h4, h5⟩ := of_decide_eq_true h1
      obtain rfl := Tr.leaf_some h2
      have r0 : s.drop a.toNat <:+ s := List.drop_suffix _ _
      generalize hr : s.drop a.toNat = r at r0
      have b7 := nx_lt (n := 7) (by omega) r
      have r1 := (nx_suf 7 r).trans r0
      have b5 := nx_lt (n := 5) (by omega) (nx 7 r).2
      have r2 := (nx_suf 5 _).trans r1
      have b3 := nx_lt (n := 3) (by omega) (nx 5 (nx 7 r).2).2
      have r3 := (nx_suf 3 _).trans r2
      have r4 := (drawS_suf 2 3 _).trans r3
      have r5 := (drawS_suf 3 4 _).trans r4
      have r6 := (drawS_suf 2 3 _).trans r5
      have w1 : IntKind.i64.wrap (((nx 7 r).1 : Int) - 2) = ((nx 7 r).1 : Int) - 2 := by rw [wrap_in] <;> omega
      have w2 : IntKind.i64.wrap (1 + ((nx 5 (nx 7 r).2).1 : Int)) = 1 + ((nx 5 (nx 7 r).2).1 : Int) := by rw [wrap_in] <;> omega
      simp [Tr.run_br, Tr.run_leaf, Tr.run_opt_, hs, h3, h4, h5, hr, dropAt r1, dropAt r2, dropAt r3, dropAt r4, dropAt r5, dropAt r6, at_ge r1, at_ge r2, at_ge r3, at_ge r4, at_ge r5, at_ge r6, at_le, w1, w2, drawP, encVar]
    · exact Tr.fail_some h2
  · exact Tr.fail_some h

end Go.AI.RD

/- The token functions and the lookups, in sum (as in chapter 3's plain seat). -/
namespace Go.AI.RD
open Go Go.Proofs
set_option maxRecDepth 10000
set_option linter.unusedVariables false
set_option linter.unusedSimpArgs false

def isLetter (c : Int) : Bool := decide (97 ≤ c ∧ c ≤ 122) || decide (65 ≤ c ∧ c ≤ 90) || decide (c = 95)
def isDigit (c : Int) : Bool := decide (48 ≤ c ∧ c ≤ 57)

theorem run_or {b x : Bool} {t : Tr (AV × Hp)} {H : Hp} (h : t.run = some (.d (.bool x), H)) : (Tr.br b (.leaf (.d (.bool true), H)) t).run = some (.d (.bool (b || x)), H) := by
  cases b with
  | true => rfl
  | false => rw [Tr.run_br]; exact h

def resB (s : List UInt8) : Bool :=
  decide (s = [118, 97, 114]) || (decide (s = [97, 114, 114, 97, 121]) || (decide (s = [111, 110]) || (decide (s = [115, 116, 97, 114, 116]) || (decide (s = [109, 101, 115, 115, 97, 103, 101]) || (decide (s = [116, 105, 99, 107]) ||
  (decide (s = [105, 110, 112, 117, 116]) || (decide (s = [105, 102]) || (decide (s = [101, 108, 115, 101]) || (decide (s = [119, 104, 105, 108, 101]) || (decide (s = [115, 101, 110, 100]) || (decide (s = [111, 117, 116, 112, 117, 116]) ||
  (decide (s = [115, 101, 108, 102]) || (decide (s = [112, 114, 111, 99, 115]) || (decide (s = [102, 114, 111, 109]) || (decide (s = [118, 97, 108, 117, 101]) || false)))))))))))))))

def letterT : FT
  | [.d (.int .u8 c)], [] => .leaf (.d (.bool (isLetter c)), [])
  | _, _ => .fail

def digitT : FT
  | [.d (.int .u8 c)], [] => .leaf (.d (.bool (isDigit c)), [])
  | _, _ => .fail

def reservedT : FT
  | [.d (.str s)], [] => .leaf (.d (.bool (resB s)), [])
  | _, _ => .fail

noncomputable abbrev Y0 : TX := ⟨Tryd.prog, tbl [], iso, gl, vw⟩

theorem xok_Y0 (f : Nat) : XOK Y0 (ann f) gl := XOK.of base (l := []) trivial f

/-- rollbacknet/token.letter -/
def c_letter : CC := .seq (.region [
    ⟨.yes, (some 2), .assign (.const (.bool false)), false, false, []⟩] [0]) <|
  .seq (.region [
    ⟨.yes, (some 3), .move (.tmp 0), false, false, []⟩,
    ⟨.yes, (some 4), .binOp .leq 5 (.const (.int .u8 (97))) (.tmp 3) 5, false, false, []⟩,
    ⟨.yes, (some 5), .move (.tmp 4), true, false, []⟩,
    ⟨(.on 5 true), (some 6), .move (.tmp 0), false, false, []⟩,
    ⟨(.on 5 true), (some 7), .binOp .leq 5 (.tmp 6) (.const (.int .u8 (122))) 5, false, false, []⟩,
    ⟨.yes, (some 8), .pick (.tmp 5) (.tmp 7) (.const (.bool false)), false, false, []⟩,
    ⟨.yes, (some 9), .move (.tmp 8), true, false, []⟩,
    ⟨(.on 9 false), (some 10), .move (.tmp 0), false, false, []⟩,
    ⟨(.on 9 false), (some 11), .binOp .leq 5 (.const (.int .u8 (65))) (.tmp 10) 5, false, false, []⟩,
    ⟨(.on 9 false), (some 12), .move (.tmp 11), true, false, []⟩,
    ⟨(.on 12 true), (some 13), .move (.tmp 0), false, false, []⟩,
    ⟨(.on 12 true), (some 14), .binOp .leq 5 (.tmp 13) (.const (.int .u8 (90))) 5, false, false, []⟩,
    ⟨(.on 9 false), (some 15), .pick (.tmp 12) (.tmp 14) (.const (.bool false)), false, false, []⟩,
    ⟨.yes, (some 16), .pick (.tmp 9) (.const (.bool true)) (.tmp 15), false, false, []⟩,
    ⟨.yes, (some 17), .move (.tmp 16), true, false, []⟩,
    ⟨(.on 17 false), (some 18), .move (.tmp 0), true, false, []⟩,
    ⟨(.on 17 false), (some 19), .binOp .eql 5 (.tmp 18) (.const (.int .u8 (95))) 5, false, false, []⟩,
    ⟨.yes, (some 20), .pick (.tmp 17) (.const (.bool true)) (.tmp 19), false, false, []⟩,
    ⟨.yes, (some 2), .assign (.tmp 20), true, false, []⟩] [2]) <|
  .ret

theorem c_letter_eq : ∃ c, Tryd.f44.body = some c ∧ codeOK Tryd.f44.ntmps c = true ∧ comp Tryd.prog (ann 44) c = erase c_letter := ⟨_, rfl, by kernel_rfl, by kernel_rfl⟩

theorem tree_letter (c : Int) : fnT Y0 c_letter Tryd.f44.results.toList [.d (.int .u8 c)] [] = (
    .br (decide ((97 : Int) ≤ c))
 (.br (decide (c ≤ 122))
 (.leaf (.d (.bool true), []))
 (.br (decide ((65 : Int) ≤ c))
 (.br (decide (c ≤ 90))
 (.leaf (.d (.bool true), []))
 (.leaf (.d (.bool (decide (c = 95))), [])))
 (.leaf (.d (.bool (decide (c = 95))), []))))
 (.br (decide ((65 : Int) ≤ c))
 (.br (decide (c ≤ 90))
 (.leaf (.d (.bool true), []))
 (.leaf (.d (.bool (decide (c = 95))), [])))
 (.leaf (.d (.bool (decide (c = 95))), []))) : Tr (AV × Hp)) := by kernel_rfl

theorem ok_letter : FnOK Tryd.prog gl 44 letterT := by
  refine fn_of (X := Y0) (xok_Y0 44) Tryd.func44 c_letter_eq (by kernel_rfl) (by simp only [Sums, c_letter, and_true]) ?_
  intro xs H o h
  unfold letterT at h
  split at h
  · rw [tree_letter]
    obtain rfl := Tr.leaf_some h
    simp only [Tr.run_br, Tr.run_leaf, decide_eq_true_eq, isLetter, isDigit]
    repeat' split
    all_goals (simp; try omega)
  · exact Tr.fail_some h

/-- rollbacknet/token.digit -/
def c_digit : CC := .seq (.region [
    ⟨.yes, (some 2), .assign (.const (.bool false)), false, false, []⟩] [0]) <|
  .seq (.region [
    ⟨.yes, (some 3), .move (.tmp 0), false, false, []⟩,
    ⟨.yes, (some 4), .binOp .leq 5 (.const (.int .u8 (48))) (.tmp 3) 5, false, false, []⟩,
    ⟨.yes, (some 5), .move (.tmp 4), true, false, []⟩,
    ⟨(.on 5 true), (some 6), .move (.tmp 0), true, false, []⟩,
    ⟨(.on 5 true), (some 7), .binOp .leq 5 (.tmp 6) (.const (.int .u8 (57))) 5, false, false, []⟩,
    ⟨.yes, (some 8), .pick (.tmp 5) (.tmp 7) (.const (.bool false)), false, false, []⟩,
    ⟨.yes, (some 2), .assign (.tmp 8), true, false, []⟩] [2]) <|
  .ret

theorem c_digit_eq : ∃ c, Tryd.f55.body = some c ∧ codeOK Tryd.f55.ntmps c = true ∧ comp Tryd.prog (ann 55) c = erase c_digit := ⟨_, rfl, by kernel_rfl, by kernel_rfl⟩

theorem tree_digit (c : Int) : fnT Y0 c_digit Tryd.f55.results.toList [.d (.int .u8 c)] [] = (
    .br (decide ((48 : Int) ≤ c))
 (.leaf (.d (.bool (decide (c ≤ 57))), []))
 (.leaf (.d (.bool false), [])) : Tr (AV × Hp)) := by kernel_rfl

theorem ok_digit : FnOK Tryd.prog gl 55 digitT := by
  refine fn_of (X := Y0) (xok_Y0 55) Tryd.func55 c_digit_eq (by kernel_rfl) (by simp only [Sums, c_digit, and_true]) ?_
  intro xs H o h
  unfold digitT at h
  split at h
  · rw [tree_digit]
    obtain rfl := Tr.leaf_some h
    simp only [Tr.run_br, Tr.run_leaf, decide_eq_true_eq, isLetter, isDigit]
    repeat' split
    all_goals (simp; try omega)
  · exact Tr.fail_some h

/-- rollbacknet/token.Reserved -/
def c_reserved : CC := .seq (.region [
    ⟨.yes, (some 2), .assign (.const (.bool false)), false, false, []⟩] [0]) <|
  .seq (.seq (.region [
    ⟨.yes, (some 3), .move (.tmp 0), true, false, []⟩] [3]) <|
  .block 0 <| .seq (.seq (.region [
    ⟨.yes, (some 5), .binOp .eql 9 (.tmp 3) (.const (.string ⟨#[118, 97, 114]⟩)) 9, false, false, []⟩,
    ⟨.yes, (some 4), .assign (.tmp 5), true, false, []⟩] [3, 4]) <|
  .cond (.tmp 4)
    (.skip)
    (.seq (.region [
      ⟨.yes, (some 6), .binOp .eql 9 (.tmp 3) (.const (.string ⟨#[97, 114, 114, 97, 121]⟩)) 9, false, false, []⟩,
      ⟨.yes, (some 4), .assign (.tmp 6), true, false, []⟩] [3, 4]) <|
    .cond (.tmp 4)
      (.skip)
      (.seq (.region [
        ⟨.yes, (some 7), .binOp .eql 9 (.tmp 3) (.const (.string ⟨#[111, 110]⟩)) 9, false, false, []⟩,
        ⟨.yes, (some 4), .assign (.tmp 7), true, false, []⟩] [3, 4]) <|
      .cond (.tmp 4)
        (.skip)
        (.seq (.region [
          ⟨.yes, (some 8), .binOp .eql 9 (.tmp 3) (.const (.string ⟨#[115, 116, 97, 114, 116]⟩)) 9, false, false, []⟩,
          ⟨.yes, (some 4), .assign (.tmp 8), true, false, []⟩] [3, 4]) <|
        .cond (.tmp 4)
          (.skip)
          (.seq (.region [
            ⟨.yes, (some 9), .binOp .eql 9 (.tmp 3) (.const (.string ⟨#[109, 101, 115, 115, 97, 103, 101]⟩)) 9, false, false, []⟩,
            ⟨.yes, (some 4), .assign (.tmp 9), true, false, []⟩] [3, 4]) <|
          .cond (.tmp 4)
            (.skip)
            (.seq (.region [
              ⟨.yes, (some 10), .binOp .eql 9 (.tmp 3) (.const (.string ⟨#[116, 105, 99, 107]⟩)) 9, false, false, []⟩,
              ⟨.yes, (some 4), .assign (.tmp 10), true, false, []⟩] [3, 4]) <|
            .cond (.tmp 4)
              (.skip)
              (.seq (.region [
                ⟨.yes, (some 11), .binOp .eql 9 (.tmp 3) (.const (.string ⟨#[105, 110, 112, 117, 116]⟩)) 9, false, false, []⟩,
                ⟨.yes, (some 4), .assign (.tmp 11), true, false, []⟩] [3, 4]) <|
              .cond (.tmp 4)
                (.skip)
                (.seq (.region [
                  ⟨.yes, (some 12), .binOp .eql 9 (.tmp 3) (.const (.string ⟨#[105, 102]⟩)) 9, false, false, []⟩,
                  ⟨.yes, (some 4), .assign (.tmp 12), true, false, []⟩] [3, 4]) <|
                .cond (.tmp 4)
                  (.skip)
                  (.seq (.region [
                    ⟨.yes, (some 13), .binOp .eql 9 (.tmp 3) (.const (.string ⟨#[101, 108, 115, 101]⟩)) 9, false, false, []⟩,
                    ⟨.yes, (some 4), .assign (.tmp 13), true, false, []⟩] [3, 4]) <|
                  .cond (.tmp 4)
                    (.skip)
                    (.seq (.region [
                      ⟨.yes, (some 14), .binOp .eql 9 (.tmp 3) (.const (.string ⟨#[119, 104, 105, 108, 101]⟩)) 9, false, false, []⟩,
                      ⟨.yes, (some 4), .assign (.tmp 14), true, false, []⟩] [3, 4]) <|
                    .cond (.tmp 4)
                      (.skip)
                      (.seq (.region [
                        ⟨.yes, (some 15), .binOp .eql 9 (.tmp 3) (.const (.string ⟨#[115, 101, 110, 100]⟩)) 9, false, false, []⟩,
                        ⟨.yes, (some 4), .assign (.tmp 15), true, false, []⟩] [3, 4]) <|
                      .cond (.tmp 4)
                        (.skip)
                        (.seq (.region [
                          ⟨.yes, (some 16), .binOp .eql 9 (.tmp 3) (.const (.string ⟨#[111, 117, 116, 112, 117, 116]⟩)) 9, false, false, []⟩,
                          ⟨.yes, (some 4), .assign (.tmp 16), true, false, []⟩] [3, 4]) <|
                        .cond (.tmp 4)
                          (.skip)
                          (.seq (.region [
                            ⟨.yes, (some 17), .binOp .eql 9 (.tmp 3) (.const (.string ⟨#[115, 101, 108, 102]⟩)) 9, false, false, []⟩,
                            ⟨.yes, (some 4), .assign (.tmp 17), true, false, []⟩] [3, 4]) <|
                          .cond (.tmp 4)
                            (.skip)
                            (.seq (.region [
                              ⟨.yes, (some 18), .binOp .eql 9 (.tmp 3) (.const (.string ⟨#[112, 114, 111, 99, 115]⟩)) 9, false, false, []⟩,
                              ⟨.yes, (some 4), .assign (.tmp 18), true, false, []⟩] [3, 4]) <|
                            .cond (.tmp 4)
                              (.skip)
                              (.seq (.region [
                                ⟨.yes, (some 19), .binOp .eql 9 (.tmp 3) (.const (.string ⟨#[102, 114, 111, 109]⟩)) 9, false, false, []⟩,
                                ⟨.yes, (some 4), .assign (.tmp 19), true, false, []⟩] [3, 4]) <|
                              .cond (.tmp 4)
                                (.skip)
                                (.region [
                                  ⟨.yes, (some 20), .binOp .eql 9 (.tmp 3) (.const (.string ⟨#[118, 97, 108, 117, 101]⟩)) 9, false, false, []⟩,
                                  ⟨.yes, (some 4), .assign (.tmp 20), true, false, []⟩] [4])))))))))))))))) <|
  .cond (.tmp 4)
    (.seq (.region [
      ⟨.yes, (some 2), .assign (.const (.bool true)), false, false, []⟩] [2]) <|
    .ret)
    (.skip)) <|
  .seq (.region [
    ⟨.yes, (some 2), .assign (.const (.bool false)), false, false, []⟩] [2]) <|
  .ret

theorem c_reserved_eq : ∃ c, Tryd.f46.body = some c ∧ codeOK Tryd.f46.ntmps c = true ∧ comp Tryd.prog (ann 46) c = erase c_reserved := ⟨_, rfl, by kernel_rfl, by kernel_rfl⟩

theorem tree_reserved (s : List UInt8) : fnT Y0 c_reserved Tryd.f46.results.toList [.d (.str s)] [] = (
    .br (decide (s = [118, 97, 114]))
 (.leaf (.d (.bool true), []))
 (.br (decide (s = [97, 114, 114, 97, 121]))
 (.leaf (.d (.bool true), []))
 (.br (decide (s = [111, 110]))
 (.leaf (.d (.bool true), []))
 (.br (decide (s = [115, 116, 97, 114, 116]))
 (.leaf (.d (.bool true), []))
 (.br (decide (s = [109, 101, 115, 115, 97, 103, 101]))
 (.leaf (.d (.bool true), []))
 (.br (decide (s = [116, 105, 99, 107]))
 (.leaf (.d (.bool true), []))
 (.br (decide (s = [105, 110, 112, 117, 116]))
 (.leaf (.d (.bool true), []))
 (.br (decide (s = [105, 102]))
 (.leaf (.d (.bool true), []))
 (.br (decide (s = [101, 108, 115, 101]))
 (.leaf (.d (.bool true), []))
 (.br (decide (s = [119, 104, 105, 108, 101]))
 (.leaf (.d (.bool true), []))
 (.br (decide (s = [115, 101, 110, 100]))
 (.leaf (.d (.bool true), []))
 (.br (decide (s = [111, 117, 116, 112, 117, 116]))
 (.leaf (.d (.bool true), []))
 (.br (decide (s = [115, 101, 108, 102]))
 (.leaf (.d (.bool true), []))
 (.br (decide (s = [112, 114, 111, 99, 115]))
 (.leaf (.d (.bool true), []))
 (.br (decide (s = [102, 114, 111, 109]))
 (.leaf (.d (.bool true), []))
 (.br (decide (s = [118, 97, 108, 117, 101]))
 (.leaf (.d (.bool true), []))
 (.leaf (.d (.bool false), []))))))))))))))))) : Tr (AV × Hp)) := by kernel_rfl

theorem ok_reserved : FnOK Tryd.prog gl 46 reservedT := by
  refine fn_of (X := Y0) (xok_Y0 46) Tryd.func46 c_reserved_eq (by kernel_rfl) (by simp only [Sums, c_reserved, and_true]) ?_
  intro xs H o h
  unfold reservedT at h
  split at h
  · rw [tree_reserved]
    obtain rfl := Tr.leaf_some h
    unfold resB
    iterate 16 refine run_or ?_
    rfl
  · exact Tr.fail_some h


def big : Int := 140737488351232

def isDig (b : UInt8) : Bool := isDigit (b.toNat : Int)
def isLet (b : UInt8) : Bool := isLetter (b.toNat : Int)
def isWord (b : UInt8) : Bool := isLet b || isDig b

/-- How many signs at the head of a text meet p. -/
def pre (p : UInt8 → Bool) (s : List UInt8) : Nat := (s.takeWhile p).length

theorem pre_le (p : UInt8 → Bool) (s : List UInt8) : pre p s ≤ s.length := (List.takeWhile_sublist _).length_le
theorem pre_nil (p : UInt8 → Bool) : pre p [] = 0 := rfl
theorem pre_yes {p : UInt8 → Bool} {c : UInt8} {s : List UInt8} (h : p c = true) : pre p (c :: s) = pre p s + 1 := by simp [pre, List.takeWhile_cons, h]
theorem pre_no {p : UInt8 → Bool} {c : UInt8} {s : List UInt8} (h : p c = false) : pre p (c :: s) = 0 := by simp [pre, List.takeWhile_cons, h]

theorem drop_at {s : List UInt8} {n : Nat} {b : UInt8} (h : s[n]? = some b) : s.drop n = b :: s.drop (n + 1) := by
  have hl := (List.getElem?_eq_some_iff.1 h).1
  rw [List.drop_eq_getElem_cons hl]; congr 1; exact (List.getElem?_eq_some_iff.1 h).2
theorem at_len {α : Type} {s : List α} {n : Nat} {b : α} (h : s[n]? = some b) : n < s.length := (List.getElem?_eq_some_iff.1 h).1

theorem pre_at_yes {p : UInt8 → Bool} {s : List UInt8} {n : Nat} {b : UInt8} (h : s[n]? = some b) (hp : p b = true) : pre p (s.drop n) = pre p (s.drop (n + 1)) + 1 := by rw [drop_at h, pre_yes hp]
theorem pre_at_no {p : UInt8 → Bool} {s : List UInt8} {n : Nat} {b : UInt8} (h : s[n]? = some b) (hp : p b = false) : pre p (s.drop n) = 0 := by rw [drop_at h, pre_no hp]

def L_run_0 : ST → Tr (Ex × ST)
  | ⟨[(0, .d (.str s)), (3, .d (.int .i64 n))], []⟩ => .br (decide (0 ≤ n ∧ n ≤ s.length ∧ (s.length : Int) ≤ big)) (.leaf ((.ext 0), ⟨[(3, .d (.int .i64 (n + (pre isWord (s.drop n.toNat) : Int))))], []⟩)) .fail
  | _ => .fail

def runT : FT
  | [.d (.str s)], [] => .br (decide ((s.length : Int) ≤ big)) (.leaf (.d (.int .i64 (pre isWord s : Int)), [])) .fail
  | _, _ => .fail

noncomputable abbrev Xrun : TX := ⟨Tryd.prog, tbl [(44, letterT), (55, digitT)], iso, gl, vw⟩

theorem xok_Xrun (f : Nat) : XOK Xrun (ann f) gl := XOK.of base (l := [(44, letterT), (55, digitT)]) ⟨ok_letter, ok_digit, trivial⟩ f

def l_run_0 : CC := .seq (.seq (.region [
    ⟨.yes, (some 4), .move (.tmp 3), false, false, []⟩,
    ⟨.yes, (some 5), .move (.tmp 0), false, false, []⟩,
    ⟨.yes, (some 6), .call ⟨.builtin .len, #[(.tmp 5)], #[9]⟩, false, false, []⟩,
    ⟨.yes, (some 7), .binOp .lss 3 (.tmp 4) (.tmp 6) 3, false, false, []⟩,
    ⟨.yes, (some 8), .move (.tmp 7), true, false, []⟩,
    ⟨(.on 8 true), (some 9), .move (.tmp 0), false, false, []⟩,
    ⟨(.on 8 true), (some 10), .move (.tmp 3), false, false, []⟩,
    ⟨(.on 8 true), (some 11), .index 9 (.tmp 9) (.tmp 10), false, false, []⟩,
    ⟨(.on 8 true), (some 12), .call ⟨.value (.func 44), #[(.tmp 11)], #[5]⟩, false, false, []⟩,
    ⟨(.on 8 true), (some 13), .move (.tmp 12), true, false, []⟩,
    ⟨(.on 13 false), (some 14), .move (.tmp 0), false, false, []⟩,
    ⟨(.on 13 false), (some 15), .move (.tmp 3), false, false, []⟩,
    ⟨(.on 13 false), (some 16), .index 9 (.tmp 14) (.tmp 15), false, false, []⟩,
    ⟨(.on 13 false), (some 17), .call ⟨.value (.func 55), #[(.tmp 16)], #[5]⟩, false, false, []⟩,
    ⟨(.on 8 true), (some 18), .pick (.tmp 13) (.const (.bool true)) (.tmp 17), false, false, []⟩,
    ⟨.yes, (some 19), .pick (.tmp 8) (.tmp 18) (.const (.bool false)), false, false, []⟩] [0, 3, 19]) <|
  .cond (.tmp 19)
    (.skip)
    (.exit 0)) <|
  .block 1 <| .region [
    ⟨.yes, (some 20), .move (.tmp 3), true, false, []⟩,
    ⟨.yes, (some 21), .binOp .add 3 (.tmp 20) (.const (.int .i64 (1))) 3, false, false, []⟩,
    ⟨.yes, (some 3), .assign (.tmp 21), true, false, []⟩] [0, 3]

/-- rollbacknet/token.run -/
def c_run : CC := .seq (.region [
    ⟨.yes, (some 2), .assign (.const (.int .i64 (0))), false, false, []⟩] [0]) <|
  .seq (.region [
    ⟨.yes, (some 3), .assign (.const (.int .i64 (0))), false, false, []⟩] [0, 3]) <|
  .seq (.block 0 <| .keep [0, 3] <| .sum L_run_0 (.loop l_run_0)) <|
  .seq (.region [
    ⟨.yes, (some 22), .move (.tmp 3), true, false, []⟩,
    ⟨.yes, (some 2), .assign (.tmp 22), true, false, []⟩] [2]) <|
  .ret

theorem c_run_eq : ∃ c, Tryd.f45.body = some c ∧ codeOK Tryd.f45.ntmps c = true ∧ comp Tryd.prog (ann 45) c = erase c_run := ⟨_, rfl, by kernel_rfl, by kernel_rfl⟩

theorem body_run_0 (s : List UInt8) (n : Int) : bodyT Xrun [0, 3] [2] [(0, [3])] l_run_0 ⟨[(0, .d (.str s)), (3, .d (.int .i64 n))], []⟩ = (
    .br (decide (n < (s.length : Int)))
 (.br (decide ((0 : Int) ≤ n))
 (.opt (s[(Int.toNat n)]?) fun b1 => .br (isLetter (b1.toNat : Int))
 (.leaf (.nrm, ⟨[(0, .d (.str s)), (3, .d (.int .i64 (IntKind.i64.wrap (n + 1))))], []⟩))
 (.br (decide ((0 : Int) ≤ n))
 (.opt (s[(Int.toNat n)]?) fun b2 => .br (isDigit (b2.toNat : Int))
 (.leaf (.nrm, ⟨[(0, .d (.str s)), (3, .d (.int .i64 (IntKind.i64.wrap (n + 1))))], []⟩))
 (.leaf ((.ext 0), ⟨[(3, .d (.int .i64 n))], []⟩)))
 (.fail)))
 (.fail))
 (.leaf ((.ext 0), ⟨[(3, .d (.int .i64 n))], []⟩)) : Tr (Ex × ST)) := by kernel_rfl

theorem tree_run (s : List UInt8) : fnT Xrun c_run Tryd.f45.results.toList [.d (.str s)] [] = (
    .br (decide (0 ≤ (0 : Int) ∧ (0 : Int) ≤ s.length ∧ (s.length : Int) ≤ big))
 (.leaf (.d (.int .i64 ((0 : Int) + (pre isWord (s.drop (0 : Int).toNat) : Int))), []))
 (.fail) : Tr (AV × Hp)) := by kernel_rfl


theorem sum_run_0 : SumOK Tryd.prog gl (ann 45) L_run_0 (.loop l_run_0) := by
  refine SumOK.of_inv (X := Xrun) (xok_Xrun 45) (by simp only [Sums, l_run_0, and_true]) (by kernel_rfl) (lv := [0, 3]) (rt := [2]) (xs := [(0, [3])]) (by decide)
    (fun m st r => ∃ (s : List UInt8) (n : Nat), n ≤ s.length ∧ (s.length : Int) ≤ big ∧ st = ⟨[(0, .d (.str s)), (3, .d (.int .i64 (n : Int)))], []⟩ ∧ r = (.ext 0, ⟨[(3, .d (.int .i64 ((n : Int) + (pre isWord (s.drop n) : Int))))], []⟩) ∧ m = s.length - n) ?_ ?_
  · intro st r h
    unfold L_run_0 at h
    split at h
    · rename_i s n
      rcases Tr.br_some h with ⟨h1, h2⟩ | ⟨_, h2⟩
      · obtain ⟨h3, h4, h5⟩ := of_decide_eq_true h1
        obtain rfl := Tr.leaf_some h2
        obtain ⟨k, rfl⟩ := Int.eq_ofNat_of_zero_le h3
        exact ⟨_, s, k, by omega, h5, rfl, by simp, rfl⟩
      · exact Tr.fail_some h2
    · exact Tr.fail_some h
  · rintro m st r ⟨s, n, h1, h2, rfl, rfl, rfl⟩
    rw [body_run_0]
    have hw : n < s.length → IntKind.i64.wrap ((n : Int) + 1) = ((n + 1 : Nat) : Int) := fun h => by unfold big at h2; rw [wrap_in] <;> omega
    cases hb : s[n]? with
    | none =>
      have hl : s.length ≤ n := by simpa using hb
      have he : s.drop n = [] := List.drop_eq_nil_of_le hl
      refine ⟨.ext 0, _, ?_, .inl ⟨by simp, rfl⟩⟩
      have h3 : ¬ ((n : Int) < s.length) := by omega
      simp [Tr.run_br, Tr.run_leaf, h3, he, pre_nil]
    | some b =>
      have hl := at_len hb
      have h3 : ((n : Int) < s.length) := by omega
      cases hp : isWord b with
      | true =>
        refine ⟨.nrm, ⟨[(0, .d (.str s)), (3, .d (.int .i64 ((n + 1 : Nat) : Int)))], []⟩, ?_, .inr ⟨rfl, _, ?_, s, n + 1, by omega, h2, rfl, ?_, rfl⟩⟩
        · cases h4 : isLetter (b.toNat : Int) with
          | true => simp [Tr.run_br, Tr.run_leaf, Tr.run_opt_, h3, hb, h4, hw hl]
          | false =>
            have h5 : isDigit (b.toNat : Int) = true := by simpa [isWord, isLet, isDig, h4] using hp
            simp [Tr.run_br, Tr.run_leaf, Tr.run_opt_, h3, hb, h4, h5, hw hl]
        · omega
        · rw [pre_at_yes hb hp]; simp; omega
      | false =>
        refine ⟨.ext 0, _, ?_, .inl ⟨by simp, rfl⟩⟩
        simp only [isWord, Bool.or_eq_false_iff] at hp
        have h4 : isLetter (b.toNat : Int) = false := hp.1
        have h5 : isDigit (b.toNat : Int) = false := hp.2
        rw [pre_at_no hb (by simp [isWord, hp])]
        simp [Tr.run_br, Tr.run_leaf, Tr.run_opt_, h3, hb, h4, h5]

theorem ok_run : FnOK Tryd.prog gl 45 runT := by
  refine fn_of (X := Xrun) (xok_Xrun 45) Tryd.func45 c_run_eq (by kernel_rfl) (by simp only [Sums, c_run, and_true, true_and]; exact sum_run_0) ?_
  intro xs H o h
  unfold runT at h
  split at h
  · rw [tree_run]
    rcases Tr.br_some h with ⟨h1, h2⟩ | ⟨_, h2⟩
    · obtain rfl := Tr.leaf_some h2
      have h3 := of_decide_eq_true h1
      simp [Tr.run_br, Tr.run_leaf, h3]
    · exact Tr.fail_some h2
  · exact Tr.fail_some h



def validB (s : List UInt8) : Bool := !decide (s = []) && (decide ((s.length : Int) ≤ 16) && ((match s[0]? with | some b => isLet b | none => false) && (decide ((pre isWord s : Int) = s.length) && !resB s)))


def cellsI (z : Int) : Int := min (max z 1) 2147483649

def validT : FT
  | [.d (.str s)], [] => .br (decide ((s.length : Int) ≤ big)) (.leaf (.d (.bool (validB s)), [])) .fail
  | _, _ => .fail

def rcellsT : FT
  | [.agg [.d (.str nm), .d (.int .i64 z), .d (.int .i64 ini)]], [] => .leaf (.d (.int .i64 (cellsI z)), [])
  | _, _ => .fail

noncomputable abbrev Xvalid : TX := ⟨Tryd.prog, tbl [(44, letterT), (45, runT), (46, reservedT)], iso, gl, vw⟩

theorem xok_Xvalid (f : Nat) : XOK Xvalid (ann f) gl := XOK.of base (l := [(44, letterT), (45, runT), (46, reservedT)]) ⟨ok_letter, ok_run, ok_reserved, trivial⟩ f

/-- rollbacknet/token.Valid -/
def c_valid : CC := .seq (.region [
    ⟨.yes, (some 2), .assign (.const (.bool false)), false, false, []⟩] [0]) <|
  .seq (.region [
    ⟨.yes, (some 3), .move (.tmp 0), false, false, []⟩,
    ⟨.yes, (some 4), .binOp .neq 9 (.tmp 3) (.const (.string ⟨#[]⟩)) 9, false, false, []⟩,
    ⟨.yes, (some 5), .move (.tmp 4), true, false, []⟩,
    ⟨(.on 5 true), (some 6), .move (.tmp 0), false, false, []⟩,
    ⟨(.on 5 true), (some 7), .call ⟨.builtin .len, #[(.tmp 6)], #[9]⟩, false, false, []⟩,
    ⟨(.on 5 true), (some 8), .binOp .leq 3 (.tmp 7) (.const (.int .i64 (16))) 3, false, false, []⟩,
    ⟨.yes, (some 9), .pick (.tmp 5) (.tmp 8) (.const (.bool false)), false, false, []⟩,
    ⟨.yes, (some 10), .move (.tmp 9), true, false, []⟩,
    ⟨(.on 10 true), (some 11), .move (.tmp 0), false, false, []⟩,
    ⟨(.on 10 true), (some 12), .index 9 (.tmp 11) (.const (.int .i64 (0))), false, false, []⟩,
    ⟨(.on 10 true), (some 13), .call ⟨.value (.func 44), #[(.tmp 12)], #[5]⟩, false, false, []⟩,
    ⟨.yes, (some 14), .pick (.tmp 10) (.tmp 13) (.const (.bool false)), false, false, []⟩,
    ⟨.yes, (some 15), .move (.tmp 14), true, false, []⟩,
    ⟨(.on 15 true), (some 16), .move (.tmp 0), false, false, []⟩,
    ⟨(.on 15 true), (some 17), .call ⟨.value (.func 45), #[(.tmp 16)], #[9]⟩, false, false, []⟩,
    ⟨(.on 15 true), (some 18), .move (.tmp 0), false, false, []⟩,
    ⟨(.on 15 true), (some 19), .call ⟨.builtin .len, #[(.tmp 18)], #[9]⟩, false, false, []⟩,
    ⟨(.on 15 true), (some 20), .binOp .eql 3 (.tmp 17) (.tmp 19) 3, false, false, []⟩,
    ⟨.yes, (some 21), .pick (.tmp 15) (.tmp 20) (.const (.bool false)), false, false, []⟩,
    ⟨.yes, (some 22), .move (.tmp 21), true, false, []⟩,
    ⟨(.on 22 true), (some 23), .move (.tmp 0), true, false, []⟩,
    ⟨(.on 22 true), (some 24), .call ⟨.value (.func 46), #[(.tmp 23)], #[9]⟩, false, false, []⟩,
    ⟨(.on 22 true), (some 25), .unOp .not 4 (.tmp 24), false, false, []⟩,
    ⟨.yes, (some 26), .pick (.tmp 22) (.tmp 25) (.const (.bool false)), false, false, []⟩,
    ⟨.yes, (some 2), .assign (.tmp 26), true, false, []⟩] [2]) <|
  .ret

theorem c_valid_eq : ∃ c, Tryd.f33.body = some c ∧ codeOK Tryd.f33.ntmps c = true ∧ comp Tryd.prog (ann 33) c = erase c_valid := ⟨_, rfl, by kernel_rfl, by kernel_rfl⟩

theorem tree_valid (s : List UInt8) : fnT Xvalid c_valid Tryd.f33.results.toList [.d (.str s)] [] = (
    .br (!decide (s = []))
 (.br (decide ((s.length : Int) ≤ 16))
 (.br (decide ((0 : Int) ≤ 0))
 (.opt (s[0]?) fun b1 => .br (isLetter (b1.toNat : Int))
 (.br (decide ((s.length : Int) ≤ big))
 (.br (decide ((pre isWord s : Int) = (s.length : Int)))
 (.leaf (.d (.bool (!(resB s))), []))
 (.leaf (.d (.bool false), [])))
 (.fail))
 (.leaf (.d (.bool false), [])))
 (.fail))
 (.leaf (.d (.bool false), [])))
 (.leaf (.d (.bool false), [])) : Tr (AV × Hp)) := by kernel_rfl

theorem ok_valid : FnOK Tryd.prog gl 33 validT := by
  refine fn_of (X := Xvalid) (xok_Xvalid 33) Tryd.func33 c_valid_eq (by kernel_rfl) (by simp only [Sums, c_valid, and_true]) ?_
  intro xs H o h
  unfold validT at h
  split at h
  · rename_i s
    rw [tree_valid]
    rcases Tr.br_some h with ⟨h1, h2⟩ | ⟨_, h2⟩
    · obtain rfl := Tr.leaf_some h2
      have h3 := of_decide_eq_true h1
      cases hs : s[0]? with
      | none =>
        have h0 : s = [] := by cases s with | nil => rfl | cons => simp at hs
        subst h0
        simp [Tr.run_br, Tr.run_leaf, validB]
      | some b =>
        have h0 : ¬ (s = []) := by rintro rfl; simp at hs
        by_cases h4 : (s.length : Int) ≤ 16
        · cases h5 : isLetter (b.toNat : Int) with
          | true =>
            by_cases h6 : (pre isWord s : Int) = (s.length : Int)
            · cases h7 : resB s <;> simp [Tr.run_br, Tr.run_leaf, Tr.run_opt_, validB, hs, h0, h3, h4, h5, h6, h7, isLet]
            · simp [Tr.run_br, Tr.run_leaf, Tr.run_opt_, validB, hs, h0, h3, h4, h5, h6, isLet]
          | false => simp [Tr.run_br, Tr.run_leaf, Tr.run_opt_, validB, hs, h0, h3, h4, h5, isLet]
        · simp [Tr.run_br, Tr.run_leaf, Tr.run_opt_, validB, hs, h0, h3, h4]
    · exact Tr.fail_some h2
  · exact Tr.fail_some h

noncomputable abbrev Y1 : TX := ⟨Tryd.prog, tbl [], iso, gl, vw⟩

theorem xok_Y1 (f : Nat) : XOK Y1 (ann f) gl := XOK.of base (l := []) trivial f

/-- rollbacknet/rollbacknetref03.cells -/
def c_rcells : CC := .seq (.region [
    ⟨.yes, (some 1), .box 42 (.tmp 0), true, false, []⟩,
    ⟨.yes, (some 2), .assign (.const (.int .i64 (0))), false, false, []⟩] [1]) <|
  .seq (.region [
    ⟨.yes, (some 3), .fieldAddr 42 (.tmp 1) 1, false, false, []⟩,
    ⟨.yes, (some 4), .load 3 (.tmp 3), false, false, []⟩,
    ⟨.yes, (some 5), .call ⟨.builtin .max, #[(.tmp 4), (.const (.int .i64 (1)))], #[3, 3]⟩, false, false, []⟩,
    ⟨.yes, (some 6), .call ⟨.builtin .min, #[(.tmp 5), (.const (.int .i64 (2147483649)))], #[3, 3]⟩, false, false, []⟩,
    ⟨.yes, (some 2), .assign (.tmp 6), true, false, []⟩] [2]) <|
  .ret

theorem c_rcells_eq : ∃ c, Tryd.f25.body = some c ∧ codeOK Tryd.f25.ntmps c = true ∧ comp Tryd.prog (ann 25) c = erase c_rcells := ⟨_, rfl, by kernel_rfl, by kernel_rfl⟩

theorem tree_rcells (nm : List UInt8) (z ini : Int) : fnT Y1 c_rcells Tryd.f25.results.toList [.agg [.d (.str nm), .d (.int .i64 z), .d (.int .i64 ini)]] [] = (
    .leaf (.d (.int .i64 (if (2147483649 : Int) < (if z < 1 then 1 else z) then 2147483649 else if z < 1 then 1 else z)), []) : Tr (AV × Hp)) := by kernel_rfl

theorem ok_rcells : FnOK Tryd.prog gl 25 rcellsT := by
  refine fn_of (X := Y1) (xok_Y1 25) Tryd.func25 c_rcells_eq (by kernel_rfl) (by simp only [Sums, c_rcells, and_true]) ?_
  intro xs H o h
  unfold rcellsT at h
  split at h
  · rename_i nm z ini
    rw [tree_rcells]
    obtain rfl := Tr.leaf_some h
    have : cellsI z = (if (2147483649 : Int) < (if z < 1 then 1 else z) then 2147483649 else (if z < 1 then 1 else z)) := by unfold cellsI; split <;> split <;> omega
    rw [this]; rfl
  · exact Tr.fail_some h


/-- Where a declaration lies. -/
def lookG : List Var → List UInt8 → Int → Option (Int × Int)
  | [], _, _ => none
  | v :: r, nm, f => if 2147483648 < f then none else if v.name = nm then some (f, max v.size 0) else lookG r nm (f + cellsI v.size)

def lookR : List Var → List UInt8 → Int → Option (Int × Int × Bool)
  | [], _, _ => none
  | v :: r, nm, f => if v.name = nm then some (f, max v.size 0, true) else if 2147483648 < f + cellsI v.size then some (0, 0, false) else lookR r nm (f + cellsI v.size)

theorem cellsI_pos (z : Int) : 1 ≤ cellsI z ∧ cellsI z ≤ 2147483649 := by unfold cellsI; omega

def lk (o : Option (Int × Int)) : Int × Int × Bool := match o with | some (a, b) => (a, b, true) | none => (0, 0, false)

theorem look_eq : ∀ (l : List Var) (nm : List UInt8) (f : Int), f ≤ 2147483648 → lk (lookG l nm f) = (lookR l nm f).getD (0, 0, false)
  | [], _, _, _ => rfl
  | v :: r, nm, f, h => by
    unfold lookG lookR
    rw [if_neg (by omega)]
    split
    · rfl
    · split
      · rename_i h2
        cases r with
        | nil => rfl
        | cons u r => unfold lookG; rw [if_pos h2]; rfl
      · exact look_eq r nm _ (by omega)

theorem vdrop {α : Type} {l : List α} {n : Nat} {v : α} (h : l[n]? = some v) : l.drop n = v :: l.drop (n + 1) := by
  have hl := (List.getElem?_eq_some_iff.1 h).1
  rw [List.drop_eq_getElem_cons hl]; congr 1; exact (List.getElem?_eq_some_iff.1 h).2

def L_lookup_0 : ST → Tr (Ex × ST)
  | ⟨[(1, .d (.str nm)), (7, .d (.int .i64 f)), (11, .d (.sl 3 xs)), (12, .d (.int .i64 m)), (13, .d (.int .i64 n))], []⟩ => .opt (unL unVar xs) fun l => .br (decide (m = l.length ∧ 0 ≤ n ∧ n ≤ m ∧ 0 ≤ f ∧ f ≤ 4294967297 ∧ m ≤ big)) (.br (lookG (l.drop n.toNat) nm f).isSome (.leaf (.ret, ⟨[(4, .d (.int .i64 (lk (lookG (l.drop n.toNat) nm f)).1)), (5, .d (.int .i64 (lk (lookG (l.drop n.toNat) nm f)).2.1)), (6, .d (.bool true))], []⟩)) (.leaf ((.ext 0), ⟨[], []⟩))) .fail
  | _ => .fail

def lookupT : FT
  | [.d (.sl 3 xs), .d (.str nm)], [] => .opt (unL unVar xs) fun l => .br (decide ((l.length : Int) ≤ big)) (.leaf (.tup [.d (.int .i64 (lk (lookG l nm 0)).1), .d (.int .i64 (lk (lookG l nm 0)).2.1), .d (.bool (lk (lookG l nm 0)).2.2)], [])) .fail
  | _, _ => .fail

def l_lookup_0 : CC := .seq (.region [
    ⟨.yes, (some 14), .binOp .lss 3 (.tmp 13) (.tmp 12) 3, false, false, []⟩] [1, 7, 11, 12, 13, 14]) <|
  .seq (.cond (.tmp 14)
    (.skip)
    (.exit 0)) <|
  .seq (.block 1 <| .seq (.region [
    ⟨.yes, (some 15), .indexAddr 26 (.tmp 11) (.tmp 13), false, false, []⟩,
    ⟨.yes, (some 16), .load 42 (.tmp 15), false, false, []⟩,
    ⟨.yes, (some 9), .alloc 42, false, false, []⟩,
    ⟨.yes, none, .store 42 (.tmp 9) (.tmp 16), true, false, []⟩] [1, 7, 9, 11, 12, 13]) <|
  .seq (.seq (.region [
    ⟨.yes, (some 17), .move (.tmp 7), false, false, []⟩,
    ⟨.yes, (some 18), .binOp .gtr 3 (.tmp 17) (.const (.int .i64 (2147483648))) 3, false, false, []⟩] [1, 7, 9, 11, 12, 13, 18]) <|
  .cond (.tmp 18)
    (.exit 0)
    (.skip)) <|
  .seq (.region [
    ⟨.yes, (some 19), .fieldAddr 42 (.tmp 9) 1, false, false, []⟩,
    ⟨.yes, (some 20), .load 3 (.tmp 19), false, false, []⟩,
    ⟨.yes, (some 21), .call ⟨.builtin .max, #[(.tmp 20), (.const (.int .i64 (0)))], #[3, 3]⟩, false, false, []⟩,
    ⟨.yes, (some 10), .assign (.tmp 21), true, false, []⟩] [1, 7, 9, 10, 11, 12, 13]) <|
  .seq (.seq (.region [
    ⟨.yes, (some 22), .fieldAddr 42 (.tmp 9) 0, false, false, []⟩,
    ⟨.yes, (some 23), .load 9 (.tmp 22), false, false, []⟩,
    ⟨.yes, (some 24), .move (.tmp 1), false, false, []⟩,
    ⟨.yes, (some 25), .binOp .eql 9 (.tmp 23) (.tmp 24) 9, false, false, []⟩] [1, 7, 10, 11, 12, 13, 25]) <|
  .cond (.tmp 25)
    (.seq (.region [
      ⟨.yes, (some 26), .move (.tmp 7), true, false, []⟩,
      ⟨.yes, (some 27), .move (.tmp 10), true, false, []⟩,
      ⟨.yes, (some 4), .assign (.tmp 26), true, false, []⟩,
      ⟨.yes, (some 5), .assign (.tmp 27), true, false, []⟩,
      ⟨.yes, (some 6), .assign (.const (.bool true)), false, false, []⟩] [4, 5, 6]) <|
    .ret)
    (.skip)) <|
  .region [
    ⟨.yes, (some 28), .move (.tmp 7), true, false, []⟩,
    ⟨.yes, (some 29), .move (.tmp 10), true, false, []⟩,
    ⟨.yes, (some 30), .call ⟨.builtin .max, #[(.tmp 29), (.const (.int .i64 (1)))], #[3, 3]⟩, false, false, []⟩,
    ⟨.yes, (some 31), .call ⟨.builtin .min, #[(.tmp 30), (.const (.int .i64 (2147483649)))], #[3, 3]⟩, false, false, []⟩,
    ⟨.yes, (some 32), .binOp .add 3 (.tmp 28) (.tmp 31) 3, false, false, []⟩,
    ⟨.yes, (some 7), .assign (.tmp 32), true, false, []⟩] [1, 7, 11, 12, 13]) <|
  .region [
    ⟨.yes, (some 33), .binOp .add 3 (.tmp 13) (.const (.int .i64 (1))) 3, false, false, []⟩,
    ⟨.yes, (some 13), .move (.tmp 33), true, false, []⟩] [1, 7, 11, 12, 13]

/-- rollbacknet/resolve.Lookup -/
def c_lookup : CC := .seq (.region [
    ⟨.yes, (some 4), .assign (.const (.int .i64 (0))), false, false, []⟩,
    ⟨.yes, (some 5), .assign (.const (.int .i64 (0))), false, false, []⟩,
    ⟨.yes, (some 6), .assign (.const (.bool false)), false, false, []⟩] [0, 1]) <|
  .seq (.region [
    ⟨.yes, (some 7), .assign (.const (.int .i64 (0))), false, false, []⟩] [0, 1, 7]) <|
  .seq (.seq (.region [
    ⟨.yes, (some 11), .move (.tmp 0), true, false, [(some 3)]⟩,
    ⟨.yes, (some 12), .call ⟨.builtin .len, #[(.tmp 11)], #[26]⟩, false, false, []⟩,
    ⟨.yes, (some 13), .move (.const (.int .i64 (0))), false, false, []⟩] [1, 7, 11, 12, 13]) <|
  .block 0 <| .keep [1, 7, 11, 12, 13] <| .sum L_lookup_0 (.loop l_lookup_0)) <|
  .seq (.region [
    ⟨.yes, (some 4), .assign (.const (.int .i64 (0))), false, false, []⟩,
    ⟨.yes, (some 5), .assign (.const (.int .i64 (0))), false, false, []⟩,
    ⟨.yes, (some 6), .assign (.const (.bool false)), false, false, []⟩] [4, 5, 6]) <|
  .ret

theorem c_lookup_eq : ∃ c, Tryd.f13.body = some c ∧ codeOK Tryd.f13.ntmps c = true ∧ comp Tryd.prog (ann 13) c = erase c_lookup := ⟨_, rfl, by kernel_rfl, by kernel_rfl⟩

theorem body_lookup_0 (nm : List UInt8) (f m n : Int) (xs : List DV) : bodyT Y1 [1, 7, 11, 12, 13] [4, 5, 6] [(0, [])] l_lookup_0 ⟨[(1, .d (.str nm)), (7, .d (.int .i64 f)), (11, .d (.sl 3 xs)), (12, .d (.int .i64 m)), (13, .d (.int .i64 n))], []⟩ = (
    .br (decide (n < m))
 (.br (decide ((0 : Int) ≤ n))
 (.opt ((xs[(Int.toNat n)]?).bind unVar) fun y1 => .br (decide ((2147483648 : Int) < f))
 (.leaf ((.ext 0), ⟨[], []⟩))
 (.br (decide (y1.name = nm))
 (.leaf (.ret, ⟨[(4, .d (.int .i64 f)), (5, .d (.int .i64 (if y1.size < 0 then 0 else y1.size))), (6, .d (.bool true))], []⟩))
 (.leaf (.nrm, ⟨[(1, .d (.str nm)), (7, .d (.int .i64 (IntKind.i64.wrap (f + (if (2147483649 : Int) < (if (if y1.size < 0 then 0 else y1.size) < 1 then 1 else if y1.size < 0 then 0 else y1.size) then 2147483649 else if (if y1.size < 0 then 0 else y1.size) < 1 then 1 else if y1.size < 0 then 0 else y1.size))))), (11, .d (.sl 3 xs)), (12, .d (.int .i64 m)), (13, .d (.int .i64 (IntKind.i64.wrap (n + 1))))], []⟩))))
 (.fail))
 (.leaf ((.ext 0), ⟨[], []⟩)) : Tr (Ex × ST)) := by kernel_rfl

theorem tree_lookup (nm : List UInt8) (xs : List DV) : fnT Y1 c_lookup Tryd.f13.results.toList [.d (.sl 3 xs), .d (.str nm)] [] = (
    .opt (unL unVar xs) fun l1 => .br (decide ((xs.length : Int) = l1.length ∧ 0 ≤ (0 : Int) ∧ (0 : Int) ≤ (xs.length : Int) ∧ 0 ≤ (0 : Int) ∧ (0 : Int) ≤ 4294967297 ∧ (xs.length : Int) ≤ big))
 (.br ((lookG (l1.drop (0 : Int).toNat) nm (0 : Int)).isSome)
 (.leaf (.tup [.d (.int .i64 ((lk (lookG (l1.drop (0 : Int).toNat) nm (0 : Int))).1)), .d (.int .i64 ((lk (lookG (l1.drop (0 : Int).toNat) nm (0 : Int))).2.1)), .d (.bool true)], []))
 (.leaf (.tup [.d (.int .i64 0), .d (.int .i64 0), .d (.bool false)], [])))
 (.fail) : Tr (AV × Hp)) := by kernel_rfl


theorem maxI (z : Int) : (if z < 0 then 0 else z) = max z 0 := by split <;> omega
theorem cellsI0 (z : Int) : (if (2147483649 : Int) < (if (if z < 0 then 0 else z) < 1 then 1 else if z < 0 then 0 else z) then 2147483649 else if (if z < 0 then 0 else z) < 1 then 1 else if z < 0 then 0 else z) = cellsI z := by
  rw [maxI]; unfold cellsI; split <;> split <;> omega

theorem sum_lookup_0 : SumOK Tryd.prog gl (ann 13) L_lookup_0 (.loop l_lookup_0) := by
  refine SumOK.of_inv (X := Y1) (xok_Y1 13) (by simp only [Sums, l_lookup_0, and_true]) (by kernel_rfl) (lv := [1, 7, 11, 12, 13]) (rt := [4, 5, 6]) (xs := [(0, [])]) (by decide)
    (fun k st r => ∃ (l : List Var) (nm : List UInt8) (f : Int) (n : Nat), n ≤ l.length ∧ (l.length : Int) ≤ big ∧ 0 ≤ f ∧ f ≤ 4294967297 ∧
      st = ⟨[(1, .d (.str nm)), (7, .d (.int .i64 f)), (11, .d (.sl 3 (l.map encVar))), (12, .d (.int .i64 (l.length : Int))), (13, .d (.int .i64 (n : Int)))], []⟩ ∧
      r = (bif (lookG (l.drop n) nm f).isSome then (.ret, ⟨[(4, .d (.int .i64 (lk (lookG (l.drop n) nm f)).1)), (5, .d (.int .i64 (lk (lookG (l.drop n) nm f)).2.1)), (6, .d (.bool true))], []⟩) else (.ext 0, ⟨[], []⟩)) ∧ k = l.length - n) ?_ ?_
  · intro st r h
    unfold L_lookup_0 at h
    split at h
    · rename_i nm f xs m n
      obtain ⟨l, hl, h0⟩ := Tr.opt_some h
      obtain rfl := unL_inv unVar_ok hl
      rcases Tr.br_some h0 with ⟨h1, h2⟩ | ⟨_, h2⟩
      · obtain ⟨rfl, h3, h4, h5, h6, h7⟩ := of_decide_eq_true h1
        obtain ⟨k, rfl⟩ := Int.eq_ofNat_of_zero_le h3
        refine ⟨_, l, nm, f, k, by omega, h7, h5, h6, rfl, ?_, rfl⟩
        simp only [Int.toNat_natCast] at h2
        rcases Tr.br_some h2 with ⟨hs, h8⟩ | ⟨hs, h8⟩ <;> rw [hs] <;> exact (Tr.leaf_some h8).symm
      · exact Tr.fail_some h2
    · exact Tr.fail_some h
  · rintro k st r ⟨l, nm, f, n, h1, h2, h3, h4, rfl, rfl, rfl⟩
    rw [body_lookup_0]
    cases hb : l[n]? with
    | none =>
      have hl : l.length ≤ n := by simpa using hb
      have he : l.drop n = [] := List.drop_eq_nil_of_le hl
      refine ⟨.ext 0, ⟨[], []⟩, ?_, .inl ⟨by simp, by rw [he]; rfl⟩⟩
      have h5 : ¬ ((n : Int) < l.length) := by omega
      simp [Tr.run_br, Tr.run_leaf, h5]
    | some v =>
      have hl := at_len hb
      have h5 : ((n : Int) < l.length) := by omega
      have hc := cellsI_pos v.size
      rw [vdrop hb]
      by_cases h6 : (2147483648 : Int) < f
      · refine ⟨.ext 0, ⟨[], []⟩, ?_, .inl ⟨by simp, by simp [lookG, h6]⟩⟩
        simp [Tr.run_br, Tr.run_leaf, Tr.run_opt_, h5, unVar_enc, hb, h6]
      · by_cases h7 : v.name = nm
        · refine ⟨.ret, ⟨[(4, .d (.int .i64 f)), (5, .d (.int .i64 (max v.size 0))), (6, .d (.bool true))], []⟩, ?_, .inl ⟨by simp, by simp [lookG, h6, h7, lk]⟩⟩
          simp [Tr.run_br, Tr.run_leaf, Tr.run_opt_, h5, unVar_enc, hb, h6, h7, maxI]
        · refine ⟨.nrm, ⟨[(1, .d (.str nm)), (7, .d (.int .i64 (f + cellsI v.size))), (11, .d (.sl 3 (l.map encVar))), (12, .d (.int .i64 (l.length : Int))), (13, .d (.int .i64 ((n + 1 : Nat) : Int)))], []⟩, ?_,
            .inr ⟨rfl, _, ?_, l, nm, f + cellsI v.size, n + 1, by omega, h2, by omega, by omega, rfl, ?_, rfl⟩⟩
          · have h8 : IntKind.i64.wrap ((n : Int) + 1) = ((n + 1 : Nat) : Int) := by unfold big at h2; rw [wrap_in] <;> omega
            have h9 : IntKind.i64.wrap (f + cellsI v.size) = f + cellsI v.size := by rw [wrap_in] <;> omega
            simp only [cellsI0, h8, h9]
            simp [Tr.run_br, Tr.run_leaf, Tr.run_opt_, h5, unVar_enc, hb, h6, h7, h9]
          · omega
          · simp only [lookG, if_neg h6, if_neg h7]

theorem ok_lookup : FnOK Tryd.prog gl 13 lookupT := by
  refine fn_of (X := Y1) (xok_Y1 13) Tryd.func13 c_lookup_eq (by kernel_rfl) (by simp only [Sums, c_lookup, and_true, true_and]; exact sum_lookup_0) ?_
  intro xs H o h
  unfold lookupT at h
  split at h
  · rename_i xs nm
    rw [tree_lookup]
    obtain ⟨l, hl, h⟩ := Tr.opt_some h
    rcases Tr.br_some h with ⟨h1, h2⟩ | ⟨_, h2⟩
    · have h3 := of_decide_eq_true h1
      obtain rfl := Tr.leaf_some h2
      have hlen : xs.length = l.length := by rw [unL_inv unVar_ok hl, List.length_map]
      refine Tr.opt_to hl ?_
      cases hs : lookG l nm 0 with
      | none => simp [Tr.run_br, Tr.run_leaf, hlen, h3, hs, lk]
      | some p => obtain ⟨u, v⟩ := p; simp [Tr.run_br, Tr.run_leaf, hlen, h3, hs, lk]
    · exact Tr.fail_some h2
  · exact Tr.fail_some h

def L_rlookup_0 : ST → Tr (Ex × ST)
  | ⟨[(0, .d (.sl 3 xs)), (1, .d (.str nm)), (7, .d (.int .i64 f)), (8, .d (.int .i64 n))], []⟩ => .opt (unL unVar xs) fun l => .br (decide (0 ≤ n ∧ n ≤ l.length ∧ 0 ≤ f ∧ f ≤ 2147483648 ∧ (l.length : Int) ≤ big)) (.br (lookR (l.drop n.toNat) nm f).isSome (.leaf (.ret, ⟨[(4, .d (.int .i64 ((lookR (l.drop n.toNat) nm f).getD (0, 0, false)).1)), (5, .d (.int .i64 ((lookR (l.drop n.toNat) nm f).getD (0, 0, false)).2.1)), (6, .d (.bool ((lookR (l.drop n.toNat) nm f).getD (0, 0, false)).2.2))], []⟩)) (.leaf ((.ext 0), ⟨[], []⟩))) .fail
  | _ => .fail

def rlookupT : FT
  | [.d (.sl 3 xs), .d (.str nm)], [] => .opt (unL unVar xs) fun l => .br (decide ((l.length : Int) ≤ big)) (.leaf (.tup [.d (.int .i64 ((lookR l nm 0).getD (0, 0, false)).1), .d (.int .i64 ((lookR l nm 0).getD (0, 0, false)).2.1), .d (.bool ((lookR l nm 0).getD (0, 0, false)).2.2)], [])) .fail
  | _, _ => .fail

noncomputable abbrev Xr : TX := ⟨Tryd.prog, tbl [(25, rcellsT)], iso, gl, vw⟩

theorem xok_Xr (f : Nat) : XOK Xr (ann f) gl := XOK.of base (l := [(25, rcellsT)]) ⟨ok_rcells, trivial⟩ f

def l_rlookup_0 : CC := .seq (.seq (.region [
    ⟨.yes, (some 9), .move (.tmp 8), false, false, []⟩,
    ⟨.yes, (some 10), .move (.tmp 0), false, false, [(some 3)]⟩,
    ⟨.yes, (some 11), .call ⟨.builtin .len, #[(.tmp 10)], #[26]⟩, false, false, []⟩,
    ⟨.yes, (some 12), .binOp .lss 3 (.tmp 9) (.tmp 11) 3, false, false, []⟩] [0, 1, 7, 8, 12]) <|
  .cond (.tmp 12)
    (.skip)
    (.exit 0)) <|
  .seq (.block 1 <| .seq (.seq (.region [
    ⟨.yes, (some 15), .move (.tmp 0), false, false, [(some 3)]⟩,
    ⟨.yes, (some 16), .move (.tmp 8), false, false, []⟩,
    ⟨.yes, (some 17), .indexAddr 26 (.tmp 15) (.tmp 16), false, false, []⟩,
    ⟨.yes, (some 18), .fieldAddr 42 (.tmp 17) 0, false, false, []⟩,
    ⟨.yes, (some 19), .load 9 (.tmp 18), false, false, []⟩,
    ⟨.yes, (some 20), .move (.tmp 1), false, false, []⟩,
    ⟨.yes, (some 21), .binOp .eql 9 (.tmp 19) (.tmp 20) 9, false, false, []⟩] [0, 1, 7, 8, 21]) <|
  .cond (.tmp 21)
    (.seq (.drawn ⟨[0, 1, 2, 7, 8], [], [4, 5, 6]⟩ [
      ⟨(some 22), .move (.tmp 7), 3, "ref.go:22", #[], none⟩,
      ⟨(some 23), .move (.tmp 0), 26, "ref.go:22", #[], none⟩,
      ⟨(some 24), .move (.tmp 8), 3, "ref.go:22", #[], none⟩,
      ⟨(some 25), .indexAddr 26 (.tmp 23) (.tmp 24), 0, "ref.go:22", #[⟨1, .data⟩, ⟨2, .data⟩], none⟩,
      ⟨(some 26), .fieldAddr 42 (.tmp 25) 1, 0, "ref.go:22", #[⟨3, .data⟩], none⟩,
      ⟨(some 27), .load 3 (.tmp 26), 3, "ref.go:22", #[⟨4, .data⟩], none⟩,
      ⟨(some 28), .call ⟨.builtin .max, #[(.tmp 27), (.const (.int .i64 (0)))], #[3, 3]⟩, 3, "ref.go:22", #[⟨5, .data⟩], none⟩,
      ⟨(some 4), .assign (.tmp 22), 3, "ref.go:22", #[⟨0, .data⟩, ⟨0, .phase⟩, ⟨1, .textOnly .lateStores⟩, ⟨2, .textOnly .lateStores⟩, ⟨3, .textOnly .lateStores⟩, ⟨4, .textOnly .lateStores⟩, ⟨5, .textOnly .lateStores⟩, ⟨6, .textOnly .lateStoresUnsure⟩], none⟩,
      ⟨(some 5), .assign (.tmp 28), 3, "ref.go:22", #[⟨6, .data⟩, ⟨7, .chain⟩, ⟨0, .phase⟩, ⟨1, .phase⟩, ⟨2, .phase⟩, ⟨3, .phase⟩, ⟨4, .phase⟩, ⟨5, .phase⟩, ⟨6, .phase⟩, ⟨7, .phase⟩], none⟩,
      ⟨(some 6), .assign (.const (.bool true)), 4, "ref.go:22", #[⟨8, .chain⟩, ⟨0, .phase⟩, ⟨1, .phase⟩, ⟨2, .phase⟩, ⟨3, .phase⟩, ⟨4, .phase⟩, ⟨5, .phase⟩, ⟨6, .phase⟩, ⟨7, .phase⟩, ⟨8, .phase⟩], none⟩]) <|
    .ret)
    (.skip)) <|
  .seq (.region [
    ⟨.yes, (some 29), .move (.tmp 7), true, false, []⟩,
    ⟨.yes, (some 30), .move (.tmp 0), false, false, [(some 3)]⟩,
    ⟨.yes, (some 31), .move (.tmp 8), false, false, []⟩,
    ⟨.yes, (some 32), .indexAddr 26 (.tmp 30) (.tmp 31), false, false, []⟩,
    ⟨.yes, (some 33), .load 42 (.tmp 32), false, false, []⟩,
    ⟨.yes, (some 34), .call ⟨.value (.func 25), #[(.tmp 33)], #[42]⟩, false, false, []⟩,
    ⟨.yes, (some 35), .binOp .add 3 (.tmp 29) (.tmp 34) 3, false, false, []⟩,
    ⟨.yes, (some 7), .assign (.tmp 35), true, false, []⟩] [0, 1, 7, 8]) <|
  .seq (.region [
    ⟨.yes, (some 36), .move (.tmp 7), false, false, []⟩,
    ⟨.yes, (some 37), .binOp .gtr 3 (.tmp 36) (.const (.int .i64 (2147483648))) 3, false, false, []⟩] [0, 1, 7, 8, 37]) <|
  .cond (.tmp 37)
    (.seq (.region [
      ⟨.yes, (some 4), .assign (.const (.int .i64 (0))), false, false, []⟩,
      ⟨.yes, (some 5), .assign (.const (.int .i64 (0))), false, false, []⟩,
      ⟨.yes, (some 6), .assign (.const (.bool false)), false, false, []⟩] [4, 5, 6]) <|
    .ret)
    (.skip)) <|
  .region [
    ⟨.yes, (some 13), .move (.tmp 8), true, false, []⟩,
    ⟨.yes, (some 14), .binOp .add 3 (.tmp 13) (.const (.int .i64 (1))) 3, false, false, []⟩,
    ⟨.yes, (some 8), .assign (.tmp 14), true, false, []⟩] [0, 1, 7, 8]

/-- rollbacknet/rollbacknetref03.Lookup -/
def c_rlookup : CC := .seq (.region [
    ⟨.yes, (some 4), .assign (.const (.int .i64 (0))), false, false, []⟩,
    ⟨.yes, (some 5), .assign (.const (.int .i64 (0))), false, false, []⟩,
    ⟨.yes, (some 6), .assign (.const (.bool false)), false, false, []⟩] [0, 1]) <|
  .seq (.region [
    ⟨.yes, (some 7), .assign (.const (.int .i64 (0))), false, false, []⟩] [0, 1, 7]) <|
  .seq (.seq (.region [
    ⟨.yes, (some 8), .assign (.const (.int .i64 (0))), false, false, []⟩] [0, 1, 7, 8]) <|
  .block 0 <| .keep [0, 1, 7, 8] <| .sum L_rlookup_0 (.loop l_rlookup_0)) <|
  .seq (.region [
    ⟨.yes, (some 4), .assign (.const (.int .i64 (0))), false, false, []⟩,
    ⟨.yes, (some 5), .assign (.const (.int .i64 (0))), false, false, []⟩,
    ⟨.yes, (some 6), .assign (.const (.bool false)), false, false, []⟩] [4, 5, 6]) <|
  .ret

theorem c_rlookup_eq : ∃ c, Tryd.f40.body = some c ∧ codeOK Tryd.f40.ntmps c = true ∧ comp Tryd.prog (ann 40) c = erase c_rlookup := ⟨_, rfl, by kernel_rfl, by kernel_rfl⟩

theorem body_rlookup_0 (nm : List UInt8) (f n : Int) (xs : List DV) : bodyT Xr [0, 1, 7, 8] [4, 5, 6] [(0, [])] l_rlookup_0 ⟨[(0, .d (.sl 3 xs)), (1, .d (.str nm)), (7, .d (.int .i64 f)), (8, .d (.int .i64 n))], []⟩ = (
    .br (decide (n < (xs.length : Int)))
 (.br (decide ((0 : Int) ≤ n))
 (.opt ((xs[(Int.toNat n)]?).bind unVar) fun y1 => .br (decide (y1.name = nm))
 (.br (decide ((0 : Int) ≤ n))
 (.opt ((xs[(Int.toNat n)]?).bind unVar) fun y2 => .leaf (.ret, ⟨[(4, .d (.int .i64 f)), (5, .d (.int .i64 (if y2.size < 0 then 0 else y2.size))), (6, .d (.bool true))], []⟩))
 (.fail))
 (.br (decide ((0 : Int) ≤ n))
 (.opt ((xs[(Int.toNat n)]?).bind unVar) fun y3 => .br (decide ((2147483648 : Int) < (IntKind.i64.wrap (f + (cellsI y3.size)))))
 (.leaf (.ret, ⟨[(4, .d (.int .i64 0)), (5, .d (.int .i64 0)), (6, .d (.bool false))], []⟩))
 (.leaf (.nrm, ⟨[(0, .d (.sl 3 xs)), (1, .d (.str nm)), (7, .d (.int .i64 (IntKind.i64.wrap (f + (cellsI y3.size))))), (8, .d (.int .i64 (IntKind.i64.wrap (n + 1))))], []⟩)))
 (.fail)))
 (.fail))
 (.leaf ((.ext 0), ⟨[], []⟩)) : Tr (Ex × ST)) := by kernel_rfl

theorem tree_rlookup (nm : List UInt8) (xs : List DV) : fnT Xr c_rlookup Tryd.f40.results.toList [.d (.sl 3 xs), .d (.str nm)] [] = (
    .opt (unL unVar xs) fun l1 => .br (decide (0 ≤ (0 : Int) ∧ (0 : Int) ≤ l1.length ∧ 0 ≤ (0 : Int) ∧ (0 : Int) ≤ 2147483648 ∧ (l1.length : Int) ≤ big))
 (.br ((lookR (l1.drop (0 : Int).toNat) nm (0 : Int)).isSome)
 (.leaf (.tup [.d (.int .i64 (((lookR (l1.drop (0 : Int).toNat) nm (0 : Int)).getD (0, 0, false)).1)), .d (.int .i64 (((lookR (l1.drop (0 : Int).toNat) nm (0 : Int)).getD (0, 0, false)).2.1)), .d (.bool (((lookR (l1.drop (0 : Int).toNat) nm (0 : Int)).getD (0, 0, false)).2.2))], []))
 (.leaf (.tup [.d (.int .i64 0), .d (.int .i64 0), .d (.bool false)], [])))
 (.fail) : Tr (AV × Hp)) := by kernel_rfl


theorem sum_rlookup_0 : SumOK Tryd.prog gl (ann 40) L_rlookup_0 (.loop l_rlookup_0) := by
  refine SumOK.of_inv (X := Xr) (xok_Xr 40) (by simp only [Sums, l_rlookup_0, and_true]) (by kernel_rfl) (lv := [0, 1, 7, 8]) (rt := [4, 5, 6]) (xs := [(0, [])]) (by decide)
    (fun k st r => ∃ (l : List Var) (nm : List UInt8) (f : Int) (n : Nat), n ≤ l.length ∧ (l.length : Int) ≤ big ∧ 0 ≤ f ∧ f ≤ 2147483648 ∧
      st = ⟨[(0, .d (.sl 3 (l.map encVar))), (1, .d (.str nm)), (7, .d (.int .i64 f)), (8, .d (.int .i64 (n : Int)))], []⟩ ∧
      r = (bif (lookR (l.drop n) nm f).isSome then (.ret, ⟨[(4, .d (.int .i64 ((lookR (l.drop n) nm f).getD (0, 0, false)).1)), (5, .d (.int .i64 ((lookR (l.drop n) nm f).getD (0, 0, false)).2.1)), (6, .d (.bool ((lookR (l.drop n) nm f).getD (0, 0, false)).2.2))], []⟩) else (.ext 0, ⟨[], []⟩)) ∧ k = l.length - n) ?_ ?_
  · intro st r h
    unfold L_rlookup_0 at h
    split at h
    · rename_i xs nm f n
      obtain ⟨l, hl, h0⟩ := Tr.opt_some h
      obtain rfl := unL_inv unVar_ok hl
      rcases Tr.br_some h0 with ⟨h1, h2⟩ | ⟨_, h2⟩
      · obtain ⟨h3, h4, h5, h6, h7⟩ := of_decide_eq_true h1
        obtain ⟨k, rfl⟩ := Int.eq_ofNat_of_zero_le h3
        refine ⟨_, l, nm, f, k, by omega, h7, h5, h6, rfl, ?_, rfl⟩
        simp only [Int.toNat_natCast] at h2
        rcases Tr.br_some h2 with ⟨hs, h8⟩ | ⟨hs, h8⟩ <;> rw [hs] <;> exact (Tr.leaf_some h8).symm
      · exact Tr.fail_some h2
    · exact Tr.fail_some h
  · rintro k st r ⟨l, nm, f, n, h1, h2, h3, h4, rfl, rfl, rfl⟩
    rw [body_rlookup_0]
    cases hb : l[n]? with
    | none =>
      have hl : l.length ≤ n := by simpa using hb
      have he : l.drop n = [] := List.drop_eq_nil_of_le hl
      refine ⟨.ext 0, ⟨[], []⟩, ?_, .inl ⟨by simp, by rw [he]; rfl⟩⟩
      have h5 : ¬ ((n : Int) < l.length) := by omega
      simp [Tr.run_br, Tr.run_leaf, h5]
    | some v =>
      have hl := at_len hb
      have h5 : ((n : Int) < l.length) := by omega
      have hc := cellsI_pos v.size
      have h9 : IntKind.i64.wrap (f + cellsI v.size) = f + cellsI v.size := by rw [wrap_in] <;> omega
      rw [vdrop hb]
      by_cases h7 : v.name = nm
      · refine ⟨.ret, ⟨[(4, .d (.int .i64 f)), (5, .d (.int .i64 (max v.size 0))), (6, .d (.bool true))], []⟩, ?_, .inl ⟨by simp, by simp [lookR, h7]⟩⟩
        simp [Tr.run_br, Tr.run_leaf, Tr.run_opt_, h5, unVar_enc, hb, h7, maxI]
      · by_cases h6 : (2147483648 : Int) < f + cellsI v.size
        · refine ⟨.ret, ⟨[(4, .d (.int .i64 0)), (5, .d (.int .i64 0)), (6, .d (.bool false))], []⟩, ?_, .inl ⟨by simp, by simp [lookR, h6, h7]⟩⟩
          simp [Tr.run_br, Tr.run_leaf, Tr.run_opt_, h5, unVar_enc, hb, h6, h7, h9]
        · refine ⟨.nrm, ⟨[(0, .d (.sl 3 (l.map encVar))), (1, .d (.str nm)), (7, .d (.int .i64 (f + cellsI v.size))), (8, .d (.int .i64 ((n + 1 : Nat) : Int)))], []⟩, ?_,
            .inr ⟨rfl, _, ?_, l, nm, f + cellsI v.size, n + 1, by omega, h2, by omega, by omega, rfl, ?_, rfl⟩⟩
          · have h8 : IntKind.i64.wrap ((n : Int) + 1) = ((n + 1 : Nat) : Int) := by unfold big at h2; rw [wrap_in] <;> omega
            simp only [h8]
            simp [Tr.run_br, Tr.run_leaf, Tr.run_opt_, h5, unVar_enc, hb, h6, h7, h9]
          · omega
          · simp only [lookR, if_neg h6, if_neg h7]

theorem ok_rlookup : FnOK Tryd.prog gl 40 rlookupT := by
  refine fn_of (X := Xr) (xok_Xr 40) Tryd.func40 c_rlookup_eq (by kernel_rfl) (by simp only [Sums, c_rlookup, and_true, true_and]; exact sum_rlookup_0) ?_
  intro xs H o h
  unfold rlookupT at h
  split at h
  · rename_i xs nm
    rw [tree_rlookup]
    obtain ⟨l, hl, h⟩ := Tr.opt_some h
    rcases Tr.br_some h with ⟨h1, h2⟩ | ⟨_, h2⟩
    · have h3 := of_decide_eq_true h1
      obtain rfl := Tr.leaf_some h2
      refine Tr.opt_to hl ?_
      cases hs : lookR l nm 0 with
      | none => simp [Tr.run_br, Tr.run_leaf, h3, hs]
      | some p => obtain ⟨u, v, z⟩ := p; simp [Tr.run_br, Tr.run_leaf, h3, hs]
    · exact Tr.fail_some h2
  · exact Tr.fail_some h

end Go.AI.RD
