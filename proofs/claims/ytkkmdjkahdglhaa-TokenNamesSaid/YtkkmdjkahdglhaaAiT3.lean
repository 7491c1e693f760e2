import Derived.Test.YtkkmdjkahdglhaaProg
import Derived.Test.YtkkmdjkahdglhaaAiSim
import Derived.KernelRfl
namespace Go.AI.T3
open Go Go.Proofs
set_option maxRecDepth 10000
set_option linter.unusedVariables false

def tab : List (Nat × List (Nat × RA)) := [
  (5, [(0, ⟨[], [], [0]⟩), (1, ⟨[], [], [0, 4]⟩), (2, ⟨[], [], [2]⟩), (3, ⟨[5, 8, 12], [], [2]⟩)]),
  (6, [(0, ⟨[], [], []⟩), (1, ⟨[1, 5, 6, 7], [], [1, 3]⟩), (2, ⟨[0, 2, 7, 14, 15, 21], [], [0]⟩)]),
  (7, [(0, ⟨[], [], [0]⟩), (1, ⟨[], [], [0, 13]⟩), (2, ⟨[], [], [2, 3, 4]⟩), (3, ⟨[], [], [0, 5]⟩), (4, ⟨[], [], [0, 5, 6]⟩), (5, ⟨[], [], [0, 5, 6, 17]⟩), (6, ⟨[3], [], [0, 5, 6, 7]⟩), (7, ⟨[2, 6, 10, 14], [], [0, 5, 6, 7, 21]⟩), (8, ⟨[0, 2], [], [0, 5, 6]⟩), (9, ⟨[0, 2], [], [0, 5, 6, 38]⟩), (10, ⟨[4], [], [0, 5, 6, 50]⟩), (11, ⟨[0, 2], [], [0, 5, 6]⟩), (12, ⟨[4, 9, 10, 11], [], [0, 5, 6, 8, 9, 10]⟩), (13, ⟨[], [], [0, 5, 6, 8, 9, 10, 62]⟩), (14, ⟨[0, 1, 3, 4], [], [2, 3, 4]⟩), (15, ⟨[2], [], [0, 5, 6, 8, 9]⟩), (16, ⟨[0, 3, 4], [], [0, 5, 6, 9]⟩), (17, ⟨[0, 1, 3], [], [0, 5, 6]⟩), (18, ⟨[0, 1], [], [2, 3, 4]⟩)]),
  (8, [(0, ⟨[], [], [0]⟩), (1, ⟨[], [], [0, 12]⟩), (2, ⟨[], [], [2, 3, 4]⟩), (3, ⟨[], [], [0, 5]⟩), (4, ⟨[], [], [0, 5, 6]⟩), (5, ⟨[], [], [0, 5, 6, 16]⟩), (6, ⟨[3, 8, 9, 10], [], [0, 5, 6, 7, 8, 9]⟩), (7, ⟨[], [], [0, 5, 6, 7, 8, 9, 25]⟩), (8, ⟨[0, 1, 3, 4], [], [2, 3, 4]⟩), (9, ⟨[0, 3, 4], [], [0, 5, 8]⟩), (10, ⟨[0, 1], [], [0, 5, 6]⟩), (11, ⟨[4], [], [0, 5, 6, 33]⟩), (12, ⟨[0, 2], [], [0, 5, 6]⟩), (13, ⟨[4], [], [0, 5, 6, 40]⟩), (14, ⟨[4], [], [0, 5, 6, 54]⟩), (15, ⟨[0, 2], [], [0, 5, 6]⟩), (16, ⟨[0, 1], [], [2, 3, 4]⟩)]),
  (9, [(0, ⟨[], [], [0, 1]⟩), (1, ⟨[], [], [0, 1, 9]⟩), (2, ⟨[], [], [4]⟩), (3, ⟨[], [], [0, 1, 5]⟩), (4, ⟨[], [], [0, 1, 5, 13]⟩), (5, ⟨[0, 2], [], [0, 1, 5]⟩), (6, ⟨[], [], [0, 1, 5, 26]⟩), (7, ⟨[], [], [4]⟩), (8, ⟨[], [], [4]⟩)]),
  (10, [(0, ⟨[], [], [0]⟩), (1, ⟨[], [], [0, 5]⟩), (2, ⟨[], [], [2]⟩), (3, ⟨[], [], [0, 3]⟩), (4, ⟨[], [], [0, 3, 7]⟩), (5, ⟨[6, 8], [], [0, 3]⟩), (6, ⟨[0, 2], [], [0, 3]⟩), (7, ⟨[0, 1], [], [2]⟩)]),
  (11, [(0, ⟨[], [], [0]⟩), (1, ⟨[2, 7, 12, 19, 20, 24], [], [2]⟩)]),
  (12, [(0, ⟨[], [], [0]⟩), (1, ⟨[3, 8, 14], [], [0, 21]⟩), (2, ⟨[], [], [2]⟩), (3, ⟨[], [], [0, 3]⟩), (4, ⟨[], [], [0, 3, 25]⟩), (5, ⟨[0, 2], [], [0, 3]⟩), (6, ⟨[5], [], [0, 3, 39]⟩), (7, ⟨[], [], [2]⟩), (8, ⟨[], [], [2]⟩)]),
  (13, [(0, ⟨[], [], [0]⟩), (1, ⟨[0], [], [3]⟩), (2, ⟨[1], [], [3, 4]⟩), (3, ⟨[1], [], [3, 4]⟩), (4, ⟨[1], [], [3, 4]⟩), (5, ⟨[1], [], [3, 4]⟩), (6, ⟨[1], [], [3, 4]⟩), (7, ⟨[1], [], [3, 4]⟩), (8, ⟨[1], [], [3, 4]⟩), (9, ⟨[1], [], [3, 4]⟩), (10, ⟨[1], [], [3, 4]⟩), (11, ⟨[1], [], [3, 4]⟩), (12, ⟨[1], [], [3, 4]⟩), (13, ⟨[1], [], [3, 4]⟩), (14, ⟨[1], [], [3, 4]⟩), (15, ⟨[1], [], [3, 4]⟩), (16, ⟨[1], [], [3, 4]⟩), (17, ⟨[1], [], [4]⟩), (18, ⟨[], [], [2]⟩), (19, ⟨[], [], [2]⟩)]),
  (14, [(0, ⟨[], [], [0]⟩), (1, ⟨[], [], [0, 8]⟩), (2, ⟨[], [], [2]⟩), (3, ⟨[], [], [0, 3]⟩), (4, ⟨[], [], [0, 3, 12]⟩), (5, ⟨[0, 2], [], [0, 3]⟩), (6, ⟨[], [], [0, 3, 18]⟩), (7, ⟨[], [], [2]⟩), (8, ⟨[0, 3], [], [4]⟩), (9, ⟨[], [], [4, 5]⟩), (10, ⟨[], [], [4, 5, 26]⟩), (11, ⟨[0, 2], [], [4, 5]⟩), (12, ⟨[], [], [4, 5, 36]⟩), (13, ⟨[], [], [2]⟩), (14, ⟨[], [], [2]⟩)]),
  (15, [(0, ⟨[], [], [0, 2]⟩), (1, ⟨[3], [], [0, 2, 7]⟩), (2, ⟨[2], [], [0, 2, 5]⟩), (3, ⟨[], [], [0, 2, 5, 14]⟩), (4, ⟨[1], [], [2, 3, 4]⟩), (5, ⟨[0, 3, 4, 5, 6], [], [2, 3, 4]⟩), (6, ⟨[3], [], [0, 2, 21]⟩), (7, ⟨[0, 5, 6, 7], [], [2, 3, 4]⟩), (8, ⟨[2], [], [0, 2, 6]⟩), (9, ⟨[], [], [0, 2, 6, 33]⟩), (10, ⟨[1], [], [2, 3, 4]⟩), (11, ⟨[0, 3, 4, 5, 6], [], [2, 3, 4]⟩)]),
  (16, [(0, ⟨[], [], [0]⟩), (1, ⟨[2, 6, 10, 11, 14], [], [2]⟩)]),
  (17, [(0, ⟨[], [], [0, 1, 4]⟩), (1, ⟨[3], [], [0, 1, 4, 7]⟩), (2, ⟨[2], [], [0, 1, 4, 7, 8]⟩), (3, ⟨[2], [], [0, 1, 4, 7, 8, 16]⟩), (4, ⟨[4, 9], [], [0, 1, 4, 8, 34]⟩), (5, ⟨[0, 2], [], [0, 1, 4, 8]⟩), (6, ⟨[], [], [0, 1, 4, 8, 40]⟩), (7, ⟨[1], [], [4, 5, 6]⟩), (8, ⟨[0, 4, 5, 6, 7, 8], [], [4, 5, 6]⟩), (9, ⟨[2], [], [0, 1, 4, 7, 8, 49]⟩), (10, ⟨[0], [], [0, 1, 4, 8, 53]⟩), (11, ⟨[4], [], [0, 1, 4, 8, 63]⟩), (12, ⟨[0, 2], [], [0, 1, 4, 8]⟩), (13, ⟨[4, 9], [], [0, 1, 4, 8, 81]⟩), (14, ⟨[1], [], [4, 5, 6]⟩), (15, ⟨[0, 5, 8, 9], [], [1, 4, 8, 9, 10]⟩), (16, ⟨[0], [], [1, 4, 8, 9, 92]⟩), (17, ⟨[1], [], [4, 5, 6]⟩), (18, ⟨[0, 1, 2, 3, 4, 5], [], [4, 5, 6]⟩), (19, ⟨[4, 11], [], [0, 1, 4, 7, 8, 98]⟩), (20, ⟨[0, 5, 6, 7, 9, 10], [], [4, 5, 6]⟩), (21, ⟨[0, 2], [], [0, 1, 4, 8, 119]⟩), (22, ⟨[0, 4, 5, 6, 7, 8], [], [4, 5, 6]⟩), (23, ⟨[1], [], [4, 5, 6]⟩)]),
  (18, [(0, ⟨[], [], [0, 1]⟩), (1, ⟨[], [], [0, 1, 10]⟩), (2, ⟨[], [], [4]⟩), (3, ⟨[], [], [0, 1, 5]⟩), (4, ⟨[], [], [0, 1, 5, 14]⟩), (5, ⟨[0, 2], [], [0, 1, 5]⟩), (6, ⟨[11, 24], [], [0, 1, 5, 53]⟩), (7, ⟨[], [], [4]⟩), (8, ⟨[], [], [4]⟩)]),
  (19, [(0, ⟨[], [], [0]⟩), (1, ⟨[2, 6, 9, 14, 15, 18], [], [2]⟩)]),
  (20, [(0, ⟨[], [], [0]⟩), (1, ⟨[], [], [0, 3]⟩), (2, ⟨[4, 9], [], [0, 3, 19]⟩), (3, ⟨[0, 2], [], [0, 3]⟩), (4, ⟨[0, 1], [], [2]⟩)]),
  (21, [(0, ⟨[], [], [0]⟩), (1, ⟨[2, 6, 9, 14, 15, 18], [], [2]⟩)]),
  (22, [(0, ⟨[], [], [0]⟩), (1, ⟨[2, 3, 6], [], [2]⟩)]),
  (23, [(0, ⟨[], [], [0]⟩), (1, ⟨[2, 3, 6], [], [2]⟩)]),
  (24, [(0, ⟨[], [], [0, 2]⟩), (1, ⟨[], [], [0, 2, 5]⟩), (2, ⟨[3, 9], [], [0, 2, 5, 24]⟩), (3, ⟨[0, 2], [], [0, 2, 5]⟩), (4, ⟨[4, 9], [], [0, 2, 5, 42]⟩), (5, ⟨[1], [], [2, 3, 4]⟩), (6, ⟨[], [], [0, 2, 5, 6]⟩), (7, ⟨[0], [], [2, 5, 6, 47, 48, 49]⟩), (8, ⟨[], [], [2, 5, 6, 47, 48, 49, 50]⟩), (9, ⟨[2], [], [2, 5, 6, 8, 47, 48, 49]⟩), (10, ⟨[0, 3], [], [2, 5, 6, 9, 47, 48, 49]⟩), (11, ⟨[], [], [2, 5, 6, 9, 47, 48, 49, 60]⟩), (12, ⟨[1], [], [2, 3, 4]⟩), (13, ⟨[0, 2, 4], [], [2, 5, 6, 47, 48, 49]⟩), (14, ⟨[1], [], [2, 5, 6, 47, 48, 49]⟩), (15, ⟨[0, 1, 2, 3, 4], [], [2, 3, 4]⟩)]),
  (25, [(0, ⟨[], [], [0]⟩), (1, ⟨[], [], [0, 3]⟩), (2, ⟨[], [], [0, 3, 6]⟩), (3, ⟨[2], [], [0, 3]⟩), (4, ⟨[], [], [0, 3, 10]⟩), (5, ⟨[1], [], [0, 3, 10, 11]⟩), (6, ⟨[1], [], [0, 3, 10, 11]⟩), (7, ⟨[1], [], [3, 10, 14]⟩), (8, ⟨[1], [], [3, 10, 14]⟩), (9, ⟨[1], [], [3, 10, 14]⟩), (10, ⟨[1], [], [3, 10, 14]⟩), (11, ⟨[1], [], [10, 19]⟩), (12, ⟨[1], [], [10, 19]⟩), (13, ⟨[1], [], [10, 19]⟩), (14, ⟨[1], [], [10, 19]⟩), (15, ⟨[1], [], [10, 19]⟩), (16, ⟨[1], [], [10, 19]⟩), (17, ⟨[1], [], [10, 19]⟩), (18, ⟨[1], [], [10, 19]⟩), (19, ⟨[1], [], [10, 19]⟩), (20, ⟨[1], [], [10, 19]⟩), (21, ⟨[1], [], [10, 19]⟩), (22, ⟨[1], [], [10, 19]⟩), (23, ⟨[1], [], [19]⟩), (24, ⟨[0, 1], [], [36]⟩), (25, ⟨[], [], [2]⟩), (26, ⟨[], [], [2]⟩), (27, ⟨[0], [], [38]⟩), (28, ⟨[], [], [2]⟩), (29, ⟨[], [], [2]⟩), (30, ⟨[], [], [2]⟩)]),
  (26, [(0, ⟨[], [], [0]⟩), (1, ⟨[], [], [0, 4]⟩), (2, ⟨[], [], [0, 4, 5]⟩), (3, ⟨[], [], [0, 4, 5, 10]⟩), (4, ⟨[0, 2], [], [0, 4, 5]⟩), (5, ⟨[5], [], [0, 4, 5, 6]⟩), (6, ⟨[], [], [0, 4, 5, 6, 22]⟩), (7, ⟨[], [], [2, 3]⟩), (8, ⟨[0, 2, 4], [], [0, 4, 5]⟩), (9, ⟨[0, 1], [], [2, 3]⟩)]),
  (27, [(0, ⟨[], [], [0, 1]⟩), (1, ⟨[2, 5, 9, 13, 18, 21, 26, 27, 29, 30, 34], [], [4]⟩)]),
  (28, [(0, ⟨[], [], [0]⟩), (1, ⟨[], [], [0, 3]⟩), (2, ⟨[], [], [0, 3, 5]⟩), (3, ⟨[0, 2], [], [0, 3]⟩), (4, ⟨[], [], [0, 3, 11]⟩), (5, ⟨[], [], [2]⟩), (6, ⟨[], [], [2]⟩)])]

def ann : FuncId → Ann := annOf tab

def iso (f : Nat) : Bool := [5, 6, 7, 8, 9, 10, 11, 12, 13, 14, 15, 16, 17, 18, 19, 20, 21, 22, 23, 24, 25, 26, 27, 28].contains f


/-- rollbacknet/rollbacknetlaw01.TokenNames -/
def c5 : CC := .seq (.region [
    ⟨.yes, (some 2), .assign (.const (.bool false)), false, false⟩] [0]) <|
  .seq (.seq (.region [
    ⟨.yes, (some 3), .call ⟨.value (.func 6), #[], #[]⟩, false, false⟩,
    ⟨.yes, (some 4), .unOp .not 4 (.tmp 3), false, false⟩] [0, 4]) <|
  .cond (.tmp 4)
    (.seq (.region [
      ⟨.yes, (some 2), .assign (.const (.bool false)), false, false⟩] [2]) <|
    .ret)
    (.skip)) <|
  .seq (.region [
    ⟨.yes, (some 5), .move (.tmp 0), false, false⟩,
    ⟨.yes, (some 6), .call ⟨.value (.func 11), #[(.tmp 5)], #[9]⟩, false, false⟩,
    ⟨.yes, (some 7), .move (.tmp 0), false, false⟩,
    ⟨.yes, (some 8), .call ⟨.value (.func 12), #[(.tmp 7)], #[9]⟩, false, false⟩,
    ⟨.yes, (some 9), .binOp .eql 4 (.tmp 6) (.tmp 8) 4, false, false⟩,
    ⟨.yes, (some 10), .move (.tmp 9), true, false⟩,
    ⟨(.on 10 true), (some 11), .move (.tmp 0), false, false⟩,
    ⟨(.on 10 true), (some 12), .call ⟨.value (.func 13), #[(.tmp 11)], #[9]⟩, false, false⟩,
    ⟨(.on 10 true), (some 13), .move (.tmp 0), true, false⟩,
    ⟨(.on 10 true), (some 14), .call ⟨.value (.func 14), #[(.tmp 13)], #[9]⟩, false, false⟩,
    ⟨(.on 10 true), (some 15), .binOp .eql 4 (.tmp 12) (.tmp 14) 4, false, false⟩,
    ⟨.yes, (some 16), .pick (.tmp 10) (.tmp 15) (.const (.bool false)), false, false⟩,
    ⟨.yes, (some 2), .assign (.tmp 16), true, false⟩] [2]) <|
  .ret

theorem c5_eq : ∃ c, Try.f5.body = some c ∧ compileCode (ann 5) c = c5 := ⟨_, rfl, by kernel_rfl⟩


/-- rollbacknet/rollbacknetlaw01.awake -/
def c6 : CC := .seq (.region [
    ⟨.yes, (some 0), .assign (.const (.bool false)), false, false⟩] []) <|
  .seq (.region [
    ⟨.yes, (some 5), .call ⟨.value (.func 7), #[(.const (.string ⟨#[97, 61, 61, 33, 98, 32, 35, 32, 99]⟩))], #[9]⟩, false, false⟩,
    ⟨.yes, (some 4), .move (.tmp 5), true, false⟩,
    ⟨.yes, (some 6), .extract (.tmp 4) 0, false, false⟩,
    ⟨.yes, (some 7), .extract (.tmp 4) 1, false, false⟩,
    ⟨.yes, (some 8), .extract (.tmp 4) 2, false, false⟩,
    ⟨.yes, (some 1), .assign (.tmp 6), true, false⟩,
    ⟨.yes, (some 2), .assign (.tmp 7), true, false⟩,
    ⟨.yes, (some 3), .assign (.tmp 8), true, false⟩] [1, 3]) <|
  .seq (.region [
    ⟨.yes, (some 9), .move (.tmp 3), true, false⟩,
    ⟨.yes, (some 10), .binOp .eql 24 (.tmp 9) (.const (.int .i64 (0))) 24, false, false⟩,
    ⟨.yes, (some 11), .move (.tmp 10), true, false⟩,
    ⟨(.on 11 true), (some 12), .move (.tmp 1), false, false⟩,
    ⟨(.on 11 true), (some 13), .call ⟨.builtin .len, #[(.tmp 12)], #[23]⟩, false, false⟩,
    ⟨(.on 11 true), (some 14), .binOp .eql 3 (.tmp 13) (.const (.int .i64 (4))) 3, false, false⟩,
    ⟨.yes, (some 15), .pick (.tmp 11) (.tmp 14) (.const (.bool false)), false, false⟩,
    ⟨.yes, (some 16), .move (.tmp 15), true, false⟩,
    ⟨(.on 16 true), (some 17), .move (.tmp 1), false, false⟩,
    ⟨(.on 16 true), (some 18), .indexAddr 23 (.tmp 17) (.const (.int .i64 (3))), false, false⟩,
    ⟨(.on 16 true), (some 19), .fieldAddr 31 (.tmp 18) 3, false, false⟩,
    ⟨(.on 16 true), (some 20), .load 3 (.tmp 19), false, false⟩,
    ⟨(.on 16 true), (some 21), .binOp .eql 3 (.tmp 20) (.const (.int .i64 (4))) 3, false, false⟩,
    ⟨.yes, (some 22), .pick (.tmp 16) (.tmp 21) (.const (.bool false)), false, false⟩,
    ⟨.yes, (some 23), .move (.tmp 22), true, false⟩,
    ⟨(.on 23 true), (some 24), .move (.tmp 1), true, false⟩,
    ⟨(.on 23 true), (some 25), .indexAddr 23 (.tmp 24) (.const (.int .i64 (1))), false, false⟩,
    ⟨(.on 23 true), (some 26), .fieldAddr 31 (.tmp 25) 1, false, false⟩,
    ⟨(.on 23 true), (some 27), .load 9 (.tmp 26), false, false⟩,
    ⟨(.on 23 true), (some 28), .binOp .eql 9 (.tmp 27) (.const (.string ⟨#[61, 61]⟩)) 9, false, false⟩,
    ⟨.yes, (some 29), .pick (.tmp 23) (.tmp 28) (.const (.bool false)), false, false⟩,
    ⟨.yes, (some 0), .assign (.tmp 29), true, false⟩] [0]) <|
  .ret

theorem c6_eq : ∃ c, Try.f6.body = some c ∧ compileCode (ann 6) c = c6 := ⟨_, rfl, by kernel_rfl⟩

def l7_0 : CC := .seq (.seq (.region [
    ⟨.yes, (some 41), .move (.tmp 6), false, false⟩,
    ⟨.yes, (some 42), .move (.tmp 0), false, false⟩,
    ⟨.yes, (some 43), .call ⟨.builtin .len, #[(.tmp 42)], #[9]⟩, false, false⟩,
    ⟨.yes, (some 44), .binOp .lss 3 (.tmp 41) (.tmp 43) 3, false, false⟩,
    ⟨.yes, (some 45), .move (.tmp 44), true, false⟩,
    ⟨(.on 45 true), (some 46), .move (.tmp 0), false, false⟩,
    ⟨(.on 45 true), (some 47), .move (.tmp 6), false, false⟩,
    ⟨(.on 45 true), (some 48), .index 9 (.tmp 46) (.tmp 47), false, false⟩,
    ⟨(.on 45 true), (some 49), .binOp .neq 5 (.tmp 48) (.const (.int .u8 (10))) 5, false, false⟩,
    ⟨.yes, (some 50), .pick (.tmp 45) (.tmp 49) (.const (.bool false)), false, false⟩] [0, 5, 6, 50]) <|
  .cond (.tmp 50)
    (.skip)
    (.exit 3)) <|
  .block 4 <| .region [
      ⟨.yes, (some 51), .move (.tmp 6), true, false⟩,
      ⟨.yes, (some 52), .binOp .add 3 (.tmp 51) (.const (.int .i64 (1))) 3, false, false⟩,
      ⟨.yes, (some 6), .assign (.tmp 52), true, false⟩] [0, 5, 6]

def l7_1 : CC := .seq (.seq (.region [
    ⟨.yes, (some 14), .move (.tmp 6), false, false⟩,
    ⟨.yes, (some 15), .move (.tmp 0), false, false⟩,
    ⟨.yes, (some 16), .call ⟨.builtin .len, #[(.tmp 15)], #[9]⟩, false, false⟩,
    ⟨.yes, (some 17), .binOp .lss 3 (.tmp 14) (.tmp 16) 3, false, false⟩] [0, 5, 6, 17]) <|
  .cond (.tmp 17)
    (.skip)
    (.exit 0)) <|
  .block 1 <| .seq (.seq (.region [
      ⟨.yes, (some 18), .move (.tmp 0), false, false⟩,
      ⟨.yes, (some 19), .move (.tmp 6), false, false⟩,
      ⟨.yes, (some 20), .index 9 (.tmp 18) (.tmp 19), false, false⟩,
      ⟨.yes, (some 7), .assign (.tmp 20), true, false⟩] [0, 5, 6, 7]) <|
    .block 2 <| .seq (.region [
        ⟨.yes, (some 22), .move (.tmp 7), false, false⟩,
        ⟨.yes, (some 23), .binOp .eql 5 (.tmp 22) (.const (.int .u8 (32))) 5, false, false⟩,
        ⟨.yes, (some 24), .move (.tmp 23), true, false⟩,
        ⟨(.on 24 false), (some 25), .move (.tmp 7), false, false⟩,
        ⟨(.on 24 false), (some 26), .binOp .eql 5 (.tmp 25) (.const (.int .u8 (9))) 5, false, false⟩,
        ⟨.yes, (some 27), .pick (.tmp 24) (.const (.bool true)) (.tmp 26), false, false⟩,
        ⟨.yes, (some 28), .move (.tmp 27), true, false⟩,
        ⟨(.on 28 false), (some 29), .move (.tmp 7), false, false⟩,
        ⟨(.on 28 false), (some 30), .binOp .eql 5 (.tmp 29) (.const (.int .u8 (10))) 5, false, false⟩,
        ⟨.yes, (some 31), .pick (.tmp 28) (.const (.bool true)) (.tmp 30), false, false⟩,
        ⟨.yes, (some 32), .move (.tmp 31), true, false⟩,
        ⟨(.on 32 false), (some 33), .move (.tmp 7), false, false⟩,
        ⟨(.on 32 false), (some 34), .binOp .eql 5 (.tmp 33) (.const (.int .u8 (13))) 5, false, false⟩,
        ⟨.yes, (some 35), .pick (.tmp 32) (.const (.bool true)) (.tmp 34), false, false⟩,
        ⟨.yes, (some 21), .assign (.tmp 35), true, false⟩] [0, 5, 6, 7, 21]) <|
      .cond (.tmp 21)
        (.seq (.region [
          ⟨.yes, (some 36), .move (.tmp 6), true, false⟩,
          ⟨.yes, (some 37), .binOp .add 3 (.tmp 36) (.const (.int .i64 (1))) 3, false, false⟩,
          ⟨.yes, (some 6), .assign (.tmp 37), true, false⟩] [0, 5, 6]) <|
        .exit 1)
        (.seq (.region [
          ⟨.yes, (some 39), .move (.tmp 7), true, false⟩,
          ⟨.yes, (some 40), .binOp .eql 5 (.tmp 39) (.const (.int .u8 (35))) 5, false, false⟩,
          ⟨.yes, (some 38), .assign (.tmp 40), true, false⟩] [0, 5, 6, 38]) <|
        .cond (.tmp 38)
          (.seq (.block 3 <| .loop l7_0) <|
          .exit 1)
          (.skip))) <|
    .seq (.region [
      ⟨.yes, (some 54), .move (.tmp 0), false, false⟩,
      ⟨.yes, (some 55), .move (.tmp 6), false, false⟩,
      ⟨.yes, (some 56), .slice 9 (.tmp 54) (some (.tmp 55)) none none, false, false⟩,
      ⟨.yes, (some 57), .call ⟨.value (.func 15), #[(.tmp 56)], #[9]⟩, false, false⟩,
      ⟨.yes, (some 53), .move (.tmp 57), true, false⟩,
      ⟨.yes, (some 58), .extract (.tmp 53) 0, false, false⟩,
      ⟨.yes, (some 59), .extract (.tmp 53) 1, false, false⟩,
      ⟨.yes, (some 60), .extract (.tmp 53) 2, false, false⟩,
      ⟨.yes, (some 8), .alloc 31, false, false⟩,
      ⟨.yes, none, .store 31 (.tmp 8) (.tmp 58), true, false⟩,
      ⟨.yes, (some 9), .assign (.tmp 59), true, false⟩,
      ⟨.yes, (some 10), .assign (.tmp 60), true, false⟩] [0, 5, 6, 8, 9, 10]) <|
    .seq (.seq (.region [
      ⟨.yes, (some 61), .move (.tmp 10), false, false⟩,
      ⟨.yes, (some 62), .binOp .neq 24 (.tmp 61) (.const (.int .i64 (0))) 24, false, false⟩] [0, 5, 6, 8, 9, 10, 62]) <|
    .cond (.tmp 62)
      (.seq (.region [
        ⟨.yes, (some 63), .move (.tmp 6), true, false⟩,
        ⟨.yes, (some 64), .move (.tmp 10), true, false⟩,
        ⟨.yes, (some 2), .assign (.const (.slice none 0 0)), false, false⟩,
        ⟨.yes, (some 3), .assign (.tmp 63), true, false⟩,
        ⟨.yes, (some 4), .assign (.tmp 64), true, false⟩] [2, 3, 4]) <|
      .ret)
      (.skip)) <|
    .seq (.region [
      ⟨.yes, (some 65), .move (.tmp 6), false, false⟩,
      ⟨.yes, (some 66), .fieldAddr 31 (.tmp 8) 3, false, false⟩,
      ⟨.yes, none, .store 3 (.tmp 66) (.tmp 65), true, false⟩] [0, 5, 6, 8, 9]) <|
    .seq (.region [
      ⟨.yes, (some 67), .move (.tmp 5), true, false⟩,
      ⟨.yes, (some 68), .load 31 (.tmp 8), false, false⟩,
      ⟨.yes, (some 69), .buildSlice 23 1 #[(0, (.tmp 68))], false, false⟩,
      ⟨.yes, (some 70), .call ⟨.builtin .append, #[(.tmp 67), (.tmp 69)], #[23, 23]⟩, true, false⟩,
      ⟨.yes, (some 5), .assign (.tmp 70), true, false⟩] [0, 5, 6, 9]) <|
    .region [
      ⟨.yes, (some 71), .move (.tmp 6), true, false⟩,
      ⟨.yes, (some 72), .move (.tmp 9), true, false⟩,
      ⟨.yes, (some 73), .binOp .add 3 (.tmp 71) (.tmp 72) 3, false, false⟩,
      ⟨.yes, (some 6), .assign (.tmp 73), true, false⟩] [0, 5, 6]

/-- rollbacknet/token.Scan -/
def c7 : CC := .seq (.region [
    ⟨.yes, (some 2), .assign (.const (.slice none 0 0)), false, false⟩,
    ⟨.yes, (some 3), .assign (.const (.int .i64 (0))), false, false⟩,
    ⟨.yes, (some 4), .assign (.const (.int .i64 (0))), false, false⟩] [0]) <|
  .seq (.seq (.region [
    ⟨.yes, (some 11), .move (.tmp 0), false, false⟩,
    ⟨.yes, (some 12), .call ⟨.builtin .len, #[(.tmp 11)], #[9]⟩, false, false⟩,
    ⟨.yes, (some 13), .binOp .gtr 3 (.tmp 12) (.const (.int .i64 (4096))) 3, false, false⟩] [0, 13]) <|
  .cond (.tmp 13)
    (.seq (.region [
      ⟨.yes, (some 2), .assign (.const (.slice none 0 0)), false, false⟩,
      ⟨.yes, (some 3), .assign (.const (.int .i64 (0))), false, false⟩,
      ⟨.yes, (some 4), .assign (.const (.int .i64 (5))), false, false⟩] [2, 3, 4]) <|
    .ret)
    (.skip)) <|
  .seq (.region [
    ⟨.yes, (some 5), .assign (.const (.slice none 0 0)), false, false⟩] [0, 5]) <|
  .seq (.region [
    ⟨.yes, (some 6), .assign (.const (.int .i64 (0))), false, false⟩] [0, 5, 6]) <|
  .seq (.skip) <|
  .seq (.block 0 <| .loop l7_1) <|
  .seq (.region [
    ⟨.yes, (some 74), .move (.tmp 5), true, false⟩,
    ⟨.yes, (some 2), .assign (.tmp 74), true, false⟩,
    ⟨.yes, (some 3), .assign (.const (.int .i64 (0))), false, false⟩,
    ⟨.yes, (some 4), .assign (.const (.int .i64 (0))), false, false⟩] [2, 3, 4]) <|
  .ret

theorem c7_eq : ∃ c, Try.f7.body = some c ∧ compileCode (ann 7) c = c7 := ⟨_, rfl, by kernel_rfl⟩

def l8_0 : CC := .seq (.seq (.region [
    ⟨.yes, (some 45), .move (.tmp 6), false, false⟩,
    ⟨.yes, (some 46), .move (.tmp 0), false, false⟩,
    ⟨.yes, (some 47), .call ⟨.builtin .len, #[(.tmp 46)], #[9]⟩, false, false⟩,
    ⟨.yes, (some 48), .binOp .lss 3 (.tmp 45) (.tmp 47) 3, false, false⟩,
    ⟨.yes, (some 49), .move (.tmp 48), true, false⟩,
    ⟨(.on 49 true), (some 50), .move (.tmp 0), false, false⟩,
    ⟨(.on 49 true), (some 51), .move (.tmp 6), false, false⟩,
    ⟨(.on 49 true), (some 52), .index 9 (.tmp 50) (.tmp 51), false, false⟩,
    ⟨(.on 49 true), (some 53), .binOp .neq 5 (.tmp 52) (.const (.int .u8 (10))) 5, false, false⟩,
    ⟨.yes, (some 54), .pick (.tmp 49) (.tmp 53) (.const (.bool false)), false, false⟩] [0, 5, 6, 54]) <|
  .cond (.tmp 54)
    (.skip)
    (.exit 3)) <|
  .block 4 <| .region [
      ⟨.yes, (some 55), .move (.tmp 6), true, false⟩,
      ⟨.yes, (some 56), .binOp .add 3 (.tmp 55) (.const (.int .i64 (1))) 3, false, false⟩,
      ⟨.yes, (some 6), .assign (.tmp 56), true, false⟩] [0, 5, 6]

def l8_1 : CC := .seq (.seq (.region [
    ⟨.yes, (some 13), .move (.tmp 6), false, false⟩,
    ⟨.yes, (some 14), .move (.tmp 0), false, false⟩,
    ⟨.yes, (some 15), .call ⟨.builtin .len, #[(.tmp 14)], #[9]⟩, false, false⟩,
    ⟨.yes, (some 16), .binOp .lss 3 (.tmp 13) (.tmp 15) 3, false, false⟩] [0, 5, 6, 16]) <|
  .cond (.tmp 16)
    (.skip)
    (.exit 0)) <|
  .block 1 <| .block 2 <| .seq (.region [
        ⟨.yes, (some 34), .move (.tmp 0), false, false⟩,
        ⟨.yes, (some 35), .move (.tmp 6), false, false⟩,
        ⟨.yes, (some 36), .index 9 (.tmp 34) (.tmp 35), false, false⟩,
        ⟨.yes, (some 37), .call ⟨.value (.func 16), #[(.tmp 36)], #[5]⟩, false, false⟩,
        ⟨.yes, (some 33), .assign (.tmp 37), true, false⟩] [0, 5, 6, 33]) <|
      .cond (.tmp 33)
        (.region [
          ⟨.yes, (some 38), .move (.tmp 6), true, false⟩,
          ⟨.yes, (some 39), .binOp .add 3 (.tmp 38) (.const (.int .i64 (1))) 3, false, false⟩,
          ⟨.yes, (some 6), .assign (.tmp 39), true, false⟩] [0, 5, 6])
        (.seq (.region [
          ⟨.yes, (some 41), .move (.tmp 0), false, false⟩,
          ⟨.yes, (some 42), .move (.tmp 6), false, false⟩,
          ⟨.yes, (some 43), .index 9 (.tmp 41) (.tmp 42), false, false⟩,
          ⟨.yes, (some 44), .binOp .eql 5 (.tmp 43) (.const (.int .u8 (35))) 5, false, false⟩,
          ⟨.yes, (some 40), .assign (.tmp 44), true, false⟩] [0, 5, 6, 40]) <|
        .cond (.tmp 40)
          (.block 3 <| .loop l8_0)
          (.seq (.region [
            ⟨.yes, (some 18), .move (.tmp 0), false, false⟩,
            ⟨.yes, (some 19), .move (.tmp 6), false, false⟩,
            ⟨.yes, (some 20), .call ⟨.value (.func 17), #[(.tmp 18), (.tmp 19)], #[9, 3]⟩, false, false⟩,
            ⟨.yes, (some 17), .move (.tmp 20), true, false⟩,
            ⟨.yes, (some 21), .extract (.tmp 17) 0, false, false⟩,
            ⟨.yes, (some 22), .extract (.tmp 17) 1, false, false⟩,
            ⟨.yes, (some 23), .extract (.tmp 17) 2, false, false⟩,
            ⟨.yes, (some 7), .alloc 31, false, false⟩,
            ⟨.yes, none, .store 31 (.tmp 7) (.tmp 21), true, false⟩,
            ⟨.yes, (some 8), .assign (.tmp 22), true, false⟩,
            ⟨.yes, (some 9), .assign (.tmp 23), true, false⟩] [0, 5, 6, 7, 8, 9]) <|
          .seq (.seq (.region [
            ⟨.yes, (some 24), .move (.tmp 9), false, false⟩,
            ⟨.yes, (some 25), .binOp .neq 24 (.tmp 24) (.const (.int .i64 (0))) 24, false, false⟩] [0, 5, 6, 7, 8, 9, 25]) <|
          .cond (.tmp 25)
            (.seq (.region [
              ⟨.yes, (some 26), .move (.tmp 6), true, false⟩,
              ⟨.yes, (some 27), .move (.tmp 9), true, false⟩,
              ⟨.yes, (some 2), .assign (.const (.slice none 0 0)), false, false⟩,
              ⟨.yes, (some 3), .assign (.tmp 26), true, false⟩,
              ⟨.yes, (some 4), .assign (.tmp 27), true, false⟩] [2, 3, 4]) <|
            .ret)
            (.skip)) <|
          .seq (.region [
            ⟨.yes, (some 28), .move (.tmp 5), true, false⟩,
            ⟨.yes, (some 29), .load 31 (.tmp 7), false, false⟩,
            ⟨.yes, (some 30), .buildSlice 23 1 #[(0, (.tmp 29))], false, false⟩,
            ⟨.yes, (some 31), .call ⟨.builtin .append, #[(.tmp 28), (.tmp 30)], #[23, 23]⟩, true, false⟩,
            ⟨.yes, (some 5), .assign (.tmp 31), true, false⟩] [0, 5, 8]) <|
          .region [
            ⟨.yes, (some 32), .move (.tmp 8), true, false⟩,
            ⟨.yes, (some 6), .assign (.tmp 32), true, false⟩] [0, 5, 6]))

/-- rollbacknet/rollbacknetref01.Scan -/
def c8 : CC := .seq (.region [
    ⟨.yes, (some 2), .assign (.const (.slice none 0 0)), false, false⟩,
    ⟨.yes, (some 3), .assign (.const (.int .i64 (0))), false, false⟩,
    ⟨.yes, (some 4), .assign (.const (.int .i64 (0))), false, false⟩] [0]) <|
  .seq (.seq (.region [
    ⟨.yes, (some 10), .move (.tmp 0), false, false⟩,
    ⟨.yes, (some 11), .call ⟨.builtin .len, #[(.tmp 10)], #[9]⟩, false, false⟩,
    ⟨.yes, (some 12), .binOp .gtr 3 (.tmp 11) (.const (.int .i64 (4096))) 3, false, false⟩] [0, 12]) <|
  .cond (.tmp 12)
    (.seq (.region [
      ⟨.yes, (some 2), .assign (.const (.slice none 0 0)), false, false⟩,
      ⟨.yes, (some 3), .assign (.const (.int .i64 (0))), false, false⟩,
      ⟨.yes, (some 4), .assign (.const (.int .i64 (5))), false, false⟩] [2, 3, 4]) <|
    .ret)
    (.skip)) <|
  .seq (.region [
    ⟨.yes, (some 5), .assign (.const (.slice none 0 0)), false, false⟩] [0, 5]) <|
  .seq (.seq (.region [
    ⟨.yes, (some 6), .assign (.const (.int .i64 (0))), false, false⟩] [0, 5, 6]) <|
  .block 0 <| .loop l8_1) <|
  .seq (.region [
    ⟨.yes, (some 57), .move (.tmp 5), true, false⟩,
    ⟨.yes, (some 2), .assign (.tmp 57), true, false⟩,
    ⟨.yes, (some 3), .assign (.const (.int .i64 (0))), false, false⟩,
    ⟨.yes, (some 4), .assign (.const (.int .i64 (0))), false, false⟩] [2, 3, 4]) <|
  .ret

theorem c8_eq : ∃ c, Try.f8.body = some c ∧ compileCode (ann 8) c = c8 := ⟨_, rfl, by kernel_rfl⟩

def l9_0 : CC := .seq (.seq (.region [
    ⟨.yes, (some 10), .move (.tmp 5), false, false⟩,
    ⟨.yes, (some 11), .move (.tmp 0), false, false⟩,
    ⟨.yes, (some 12), .call ⟨.builtin .len, #[(.tmp 11)], #[23]⟩, false, false⟩,
    ⟨.yes, (some 13), .binOp .lss 3 (.tmp 10) (.tmp 12) 3, false, false⟩] [0, 1, 5, 13]) <|
  .cond (.tmp 13)
    (.skip)
    (.exit 0)) <|
  .seq (.block 1 <| .seq (.drawn ⟨[], [], [0, 1, 5, 26]⟩ [
      ⟨(some 16), .move (.tmp 0), 23, "ref.go:189", #[], none⟩,
      ⟨(some 17), .move (.tmp 5), 3, "ref.go:189", #[], none⟩,
      ⟨(some 18), .indexAddr 23 (.tmp 16) (.tmp 17), 0, "ref.go:189", #[⟨0, .data⟩, ⟨1, .data⟩], none⟩,
      ⟨(some 19), .fieldAddr 31 (.tmp 18) 3, 0, "ref.go:189", #[⟨2, .data⟩], none⟩,
      ⟨(some 20), .load 3 (.tmp 19), 3, "ref.go:189", #[⟨3, .data⟩], none⟩,
      ⟨(some 21), .move (.tmp 1), 23, "ref.go:189", #[], none⟩,
      ⟨(some 22), .move (.tmp 5), 3, "ref.go:189", #[], none⟩,
      ⟨(some 23), .indexAddr 23 (.tmp 21) (.tmp 22), 0, "ref.go:189", #[⟨5, .data⟩, ⟨6, .data⟩], none⟩,
      ⟨(some 24), .fieldAddr 31 (.tmp 23) 3, 0, "ref.go:189", #[⟨7, .data⟩], none⟩,
      ⟨(some 25), .load 3 (.tmp 24), 3, "ref.go:189", #[⟨8, .data⟩], none⟩,
      ⟨(some 26), .binOp .neq 3 (.tmp 20) (.tmp 25) 3, 4, "ref.go:189", #[⟨4, .data⟩, ⟨9, .data⟩], none⟩]) <|
    .cond (.tmp 26)
      (.seq (.region [
        ⟨.yes, (some 4), .assign (.const (.bool false)), false, false⟩] [4]) <|
      .ret)
      (.skip)) <|
  .region [
    ⟨.yes, (some 14), .move (.tmp 5), true, false⟩,
    ⟨.yes, (some 15), .binOp .add 3 (.tmp 14) (.const (.int .i64 (1))) 3, false, false⟩,
    ⟨.yes, (some 5), .assign (.tmp 15), true, false⟩] [0, 1, 5]

/-- rollbacknet/rollbacknetref01.Equal -/
def c9 : CC := .seq (.region [
    ⟨.yes, (some 4), .assign (.const (.bool false)), false, false⟩] [0, 1]) <|
  .seq (.seq (.region [
    ⟨.yes, (some 6), .move (.tmp 0), false, false⟩,
    ⟨.yes, (some 7), .move (.tmp 1), false, false⟩,
    ⟨.yes, (some 8), .call ⟨.value (.func 18), #[(.tmp 6), (.tmp 7)], #[23, 23]⟩, false, false⟩,
    ⟨.yes, (some 9), .unOp .not 4 (.tmp 8), false, false⟩] [0, 1, 9]) <|
  .cond (.tmp 9)
    (.seq (.region [
      ⟨.yes, (some 4), .assign (.const (.bool false)), false, false⟩] [4]) <|
    .ret)
    (.skip)) <|
  .seq (.seq (.region [
    ⟨.yes, (some 5), .assign (.const (.int .i64 (0))), false, false⟩] [0, 1, 5]) <|
  .block 0 <| .loop l9_0) <|
  .seq (.region [
    ⟨.yes, (some 4), .assign (.const (.bool true)), false, false⟩] [4]) <|
  .ret

theorem c9_eq : ∃ c, Try.f9.body = some c ∧ compileCode (ann 9) c = c9 := ⟨_, rfl, by kernel_rfl⟩

def l10_0 : CC := .seq (.seq (.region [
    ⟨.yes, (some 6), .move (.tmp 0), false, false⟩,
    ⟨.yes, (some 7), .binOp .gtr 3 (.tmp 6) (.const (.int .i64 (0))) 3, false, false⟩] [0, 3, 7]) <|
  .cond (.tmp 7)
    (.skip)
    (.exit 0)) <|
  .block 1 <| .seq (.region [
      ⟨.yes, (some 8), .move (.tmp 0), false, false⟩,
      ⟨.yes, (some 9), .binOp .rem 3 (.tmp 8) (.const (.int .i64 (10))) 3, false, false⟩,
      ⟨.yes, (some 10), .binOp .add 3 (.const (.int .i64 (48))) (.tmp 9) 3, false, false⟩,
      ⟨.yes, (some 11), .convert 3 5 (.tmp 10), false, false⟩,
      ⟨.yes, (some 12), .buildSlice 38 1 #[(0, (.tmp 11))], false, false⟩,
      ⟨.yes, (some 13), .convert 38 9 (.tmp 12), false, false⟩,
      ⟨.yes, (some 14), .move (.tmp 3), true, false⟩,
      ⟨.yes, (some 15), .binOp .add 9 (.tmp 13) (.tmp 14) 9, false, false⟩,
      ⟨.yes, (some 3), .assign (.tmp 15), true, false⟩] [0, 3]) <|
    .region [
      ⟨.yes, (some 16), .move (.tmp 0), true, false⟩,
      ⟨.yes, (some 17), .binOp .quo 3 (.tmp 16) (.const (.int .i64 (10))) 3, false, false⟩,
      ⟨.yes, (some 0), .assign (.tmp 17), true, false⟩] [0, 3]

/-- rollbacknet/rollbacknetref01.Decimal -/
def c10 : CC := .seq (.region [
    ⟨.yes, (some 2), .assign (.const (.string ⟨#[]⟩)), false, false⟩] [0]) <|
  .seq (.seq (.region [
    ⟨.yes, (some 4), .move (.tmp 0), false, false⟩,
    ⟨.yes, (some 5), .binOp .leq 3 (.tmp 4) (.const (.int .i64 (0))) 3, false, false⟩] [0, 5]) <|
  .cond (.tmp 5)
    (.seq (.region [
      ⟨.yes, (some 2), .assign (.const (.string ⟨#[48]⟩)), false, false⟩] [2]) <|
    .ret)
    (.skip)) <|
  .seq (.region [
    ⟨.yes, (some 3), .assign (.const (.string ⟨#[]⟩)), false, false⟩] [0, 3]) <|
  .seq (.block 0 <| .loop l10_0) <|
  .seq (.region [
    ⟨.yes, (some 18), .move (.tmp 3), true, false⟩,
    ⟨.yes, (some 2), .assign (.tmp 18), true, false⟩] [2]) <|
  .ret

theorem c10_eq : ∃ c, Try.f10.body = some c ∧ compileCode (ann 10) c = c10 := ⟨_, rfl, by kernel_rfl⟩


/-- rollbacknet/token.Valid -/
def c11 : CC := .seq (.region [
    ⟨.yes, (some 2), .assign (.const (.bool false)), false, false⟩] [0]) <|
  .seq (.region [
    ⟨.yes, (some 3), .move (.tmp 0), false, false⟩,
    ⟨.yes, (some 4), .binOp .neq 9 (.tmp 3) (.const (.string ⟨#[]⟩)) 9, false, false⟩,
    ⟨.yes, (some 5), .move (.tmp 4), true, false⟩,
    ⟨(.on 5 true), (some 6), .move (.tmp 0), false, false⟩,
    ⟨(.on 5 true), (some 7), .call ⟨.builtin .len, #[(.tmp 6)], #[9]⟩, false, false⟩,
    ⟨(.on 5 true), (some 8), .binOp .leq 3 (.tmp 7) (.const (.int .i64 (16))) 3, false, false⟩,
    ⟨.yes, (some 9), .pick (.tmp 5) (.tmp 8) (.const (.bool false)), false, false⟩,
    ⟨.yes, (some 10), .move (.tmp 9), true, false⟩,
    ⟨(.on 10 true), (some 11), .move (.tmp 0), false, false⟩,
    ⟨(.on 10 true), (some 12), .index 9 (.tmp 11) (.const (.int .i64 (0))), false, false⟩,
    ⟨(.on 10 true), (some 13), .call ⟨.value (.func 19), #[(.tmp 12)], #[5]⟩, false, false⟩,
    ⟨.yes, (some 14), .pick (.tmp 10) (.tmp 13) (.const (.bool false)), false, false⟩,
    ⟨.yes, (some 15), .move (.tmp 14), true, false⟩,
    ⟨(.on 15 true), (some 16), .move (.tmp 0), false, false⟩,
    ⟨(.on 15 true), (some 17), .call ⟨.value (.func 20), #[(.tmp 16)], #[9]⟩, false, false⟩,
    ⟨(.on 15 true), (some 18), .move (.tmp 0), false, false⟩,
    ⟨(.on 15 true), (some 19), .call ⟨.builtin .len, #[(.tmp 18)], #[9]⟩, false, false⟩,
    ⟨(.on 15 true), (some 20), .binOp .eql 3 (.tmp 17) (.tmp 19) 3, false, false⟩,
    ⟨.yes, (some 21), .pick (.tmp 15) (.tmp 20) (.const (.bool false)), false, false⟩,
    ⟨.yes, (some 22), .move (.tmp 21), true, false⟩,
    ⟨(.on 22 true), (some 23), .move (.tmp 0), true, false⟩,
    ⟨(.on 22 true), (some 24), .call ⟨.value (.func 13), #[(.tmp 23)], #[9]⟩, false, false⟩,
    ⟨(.on 22 true), (some 25), .unOp .not 4 (.tmp 24), false, false⟩,
    ⟨.yes, (some 26), .pick (.tmp 22) (.tmp 25) (.const (.bool false)), false, false⟩,
    ⟨.yes, (some 2), .assign (.tmp 26), true, false⟩] [2]) <|
  .ret

theorem c11_eq : ∃ c, Try.f11.body = some c ∧ compileCode (ann 11) c = c11 := ⟨_, rfl, by kernel_rfl⟩

def l12_0 : CC := .seq (.seq (.region [
    ⟨.yes, (some 22), .move (.tmp 3), false, false⟩,
    ⟨.yes, (some 23), .move (.tmp 0), false, false⟩,
    ⟨.yes, (some 24), .call ⟨.builtin .len, #[(.tmp 23)], #[9]⟩, false, false⟩,
    ⟨.yes, (some 25), .binOp .lss 3 (.tmp 22) (.tmp 24) 3, false, false⟩] [0, 3, 25]) <|
  .cond (.tmp 25)
    (.skip)
    (.exit 0)) <|
  .seq (.block 1 <| .seq (.region [
      ⟨.yes, (some 28), .move (.tmp 0), false, false⟩,
      ⟨.yes, (some 29), .move (.tmp 3), false, false⟩,
      ⟨.yes, (some 30), .index 9 (.tmp 28) (.tmp 29), false, false⟩,
      ⟨.yes, (some 31), .call ⟨.value (.func 21), #[(.tmp 30)], #[5]⟩, false, false⟩,
      ⟨.yes, (some 32), .unOp .not 4 (.tmp 31), false, false⟩,
      ⟨.yes, (some 33), .move (.tmp 32), true, false⟩,
      ⟨(.on 33 true), (some 34), .move (.tmp 0), false, false⟩,
      ⟨(.on 33 true), (some 35), .move (.tmp 3), false, false⟩,
      ⟨(.on 33 true), (some 36), .index 9 (.tmp 34) (.tmp 35), false, false⟩,
      ⟨(.on 33 true), (some 37), .call ⟨.value (.func 22), #[(.tmp 36)], #[5]⟩, false, false⟩,
      ⟨(.on 33 true), (some 38), .unOp .not 4 (.tmp 37), false, false⟩,
      ⟨.yes, (some 39), .pick (.tmp 33) (.tmp 38) (.const (.bool false)), false, false⟩] [0, 3, 39]) <|
    .cond (.tmp 39)
      (.seq (.region [
        ⟨.yes, (some 2), .assign (.const (.bool false)), false, false⟩] [2]) <|
      .ret)
      (.skip)) <|
  .region [
    ⟨.yes, (some 26), .move (.tmp 3), true, false⟩,
    ⟨.yes, (some 27), .binOp .add 3 (.tmp 26) (.const (.int .i64 (1))) 3, false, false⟩,
    ⟨.yes, (some 3), .assign (.tmp 27), true, false⟩] [0, 3]

/-- rollbacknet/rollbacknetref01.Valid -/
def c12 : CC := .seq (.region [
    ⟨.yes, (some 2), .assign (.const (.bool false)), false, false⟩] [0]) <|
  .seq (.seq (.region [
    ⟨.yes, (some 4), .move (.tmp 0), false, false⟩,
    ⟨.yes, (some 5), .call ⟨.builtin .len, #[(.tmp 4)], #[9]⟩, false, false⟩,
    ⟨.yes, (some 6), .binOp .eql 3 (.tmp 5) (.const (.int .i64 (0))) 3, false, false⟩,
    ⟨.yes, (some 7), .move (.tmp 6), true, false⟩,
    ⟨(.on 7 false), (some 8), .move (.tmp 0), false, false⟩,
    ⟨(.on 7 false), (some 9), .call ⟨.builtin .len, #[(.tmp 8)], #[9]⟩, false, false⟩,
    ⟨(.on 7 false), (some 10), .binOp .gtr 3 (.tmp 9) (.const (.int .i64 (16))) 3, false, false⟩,
    ⟨.yes, (some 11), .pick (.tmp 7) (.const (.bool true)) (.tmp 10), false, false⟩,
    ⟨.yes, (some 12), .move (.tmp 11), true, false⟩,
    ⟨(.on 12 false), (some 13), .move (.tmp 0), false, false⟩,
    ⟨(.on 12 false), (some 14), .index 9 (.tmp 13) (.const (.int .i64 (0))), false, false⟩,
    ⟨(.on 12 false), (some 15), .call ⟨.value (.func 21), #[(.tmp 14)], #[5]⟩, false, false⟩,
    ⟨(.on 12 false), (some 16), .unOp .not 4 (.tmp 15), false, false⟩,
    ⟨.yes, (some 17), .pick (.tmp 12) (.const (.bool true)) (.tmp 16), false, false⟩,
    ⟨.yes, (some 18), .move (.tmp 17), true, false⟩,
    ⟨(.on 18 false), (some 19), .move (.tmp 0), false, false⟩,
    ⟨(.on 18 false), (some 20), .call ⟨.value (.func 14), #[(.tmp 19)], #[9]⟩, false, false⟩,
    ⟨.yes, (some 21), .pick (.tmp 18) (.const (.bool true)) (.tmp 20), false, false⟩] [0, 21]) <|
  .cond (.tmp 21)
    (.seq (.region [
      ⟨.yes, (some 2), .assign (.const (.bool false)), false, false⟩] [2]) <|
    .ret)
    (.skip)) <|
  .seq (.seq (.region [
    ⟨.yes, (some 3), .assign (.const (.int .i64 (0))), false, false⟩] [0, 3]) <|
  .block 0 <| .loop l12_0) <|
  .seq (.region [
    ⟨.yes, (some 2), .assign (.const (.bool true)), false, false⟩] [2]) <|
  .ret

theorem c12_eq : ∃ c, Try.f12.body = some c ∧ compileCode (ann 12) c = c12 := ⟨_, rfl, by kernel_rfl⟩


/-- rollbacknet/token.Reserved -/
def c13 : CC := .seq (.region [
    ⟨.yes, (some 2), .assign (.const (.bool false)), false, false⟩] [0]) <|
  .seq (.seq (.region [
    ⟨.yes, (some 3), .move (.tmp 0), true, false⟩] [3]) <|
  .block 0 <| .seq (.seq (.region [
      ⟨.yes, (some 5), .binOp .eql 9 (.tmp 3) (.const (.string ⟨#[118, 97, 114]⟩)) 9, false, false⟩,
      ⟨.yes, (some 4), .assign (.tmp 5), true, false⟩] [3, 4]) <|
    .cond (.tmp 4)
      (.skip)
      (.seq (.region [
        ⟨.yes, (some 6), .binOp .eql 9 (.tmp 3) (.const (.string ⟨#[97, 114, 114, 97, 121]⟩)) 9, false, false⟩,
        ⟨.yes, (some 4), .assign (.tmp 6), true, false⟩] [3, 4]) <|
      .cond (.tmp 4)
        (.skip)
        (.seq (.region [
          ⟨.yes, (some 7), .binOp .eql 9 (.tmp 3) (.const (.string ⟨#[111, 110]⟩)) 9, false, false⟩,
          ⟨.yes, (some 4), .assign (.tmp 7), true, false⟩] [3, 4]) <|
        .cond (.tmp 4)
          (.skip)
          (.seq (.region [
            ⟨.yes, (some 8), .binOp .eql 9 (.tmp 3) (.const (.string ⟨#[115, 116, 97, 114, 116]⟩)) 9, false, false⟩,
            ⟨.yes, (some 4), .assign (.tmp 8), true, false⟩] [3, 4]) <|
          .cond (.tmp 4)
            (.skip)
            (.seq (.region [
              ⟨.yes, (some 9), .binOp .eql 9 (.tmp 3) (.const (.string ⟨#[109, 101, 115, 115, 97, 103, 101]⟩)) 9, false, false⟩,
              ⟨.yes, (some 4), .assign (.tmp 9), true, false⟩] [3, 4]) <|
            .cond (.tmp 4)
              (.skip)
              (.seq (.region [
                ⟨.yes, (some 10), .binOp .eql 9 (.tmp 3) (.const (.string ⟨#[116, 105, 99, 107]⟩)) 9, false, false⟩,
                ⟨.yes, (some 4), .assign (.tmp 10), true, false⟩] [3, 4]) <|
              .cond (.tmp 4)
                (.skip)
                (.seq (.region [
                  ⟨.yes, (some 11), .binOp .eql 9 (.tmp 3) (.const (.string ⟨#[105, 110, 112, 117, 116]⟩)) 9, false, false⟩,
                  ⟨.yes, (some 4), .assign (.tmp 11), true, false⟩] [3, 4]) <|
                .cond (.tmp 4)
                  (.skip)
                  (.seq (.region [
                    ⟨.yes, (some 12), .binOp .eql 9 (.tmp 3) (.const (.string ⟨#[105, 102]⟩)) 9, false, false⟩,
                    ⟨.yes, (some 4), .assign (.tmp 12), true, false⟩] [3, 4]) <|
                  .cond (.tmp 4)
                    (.skip)
                    (.seq (.region [
                      ⟨.yes, (some 13), .binOp .eql 9 (.tmp 3) (.const (.string ⟨#[101, 108, 115, 101]⟩)) 9, false, false⟩,
                      ⟨.yes, (some 4), .assign (.tmp 13), true, false⟩] [3, 4]) <|
                    .cond (.tmp 4)
                      (.skip)
                      (.seq (.region [
                        ⟨.yes, (some 14), .binOp .eql 9 (.tmp 3) (.const (.string ⟨#[119, 104, 105, 108, 101]⟩)) 9, false, false⟩,
                        ⟨.yes, (some 4), .assign (.tmp 14), true, false⟩] [3, 4]) <|
                      .cond (.tmp 4)
                        (.skip)
                        (.seq (.region [
                          ⟨.yes, (some 15), .binOp .eql 9 (.tmp 3) (.const (.string ⟨#[115, 101, 110, 100]⟩)) 9, false, false⟩,
                          ⟨.yes, (some 4), .assign (.tmp 15), true, false⟩] [3, 4]) <|
                        .cond (.tmp 4)
                          (.skip)
                          (.seq (.region [
                            ⟨.yes, (some 16), .binOp .eql 9 (.tmp 3) (.const (.string ⟨#[111, 117, 116, 112, 117, 116]⟩)) 9, false, false⟩,
                            ⟨.yes, (some 4), .assign (.tmp 16), true, false⟩] [3, 4]) <|
                          .cond (.tmp 4)
                            (.skip)
                            (.seq (.region [
                              ⟨.yes, (some 17), .binOp .eql 9 (.tmp 3) (.const (.string ⟨#[115, 101, 108, 102]⟩)) 9, false, false⟩,
                              ⟨.yes, (some 4), .assign (.tmp 17), true, false⟩] [3, 4]) <|
                            .cond (.tmp 4)
                              (.skip)
                              (.seq (.region [
                                ⟨.yes, (some 18), .binOp .eql 9 (.tmp 3) (.const (.string ⟨#[112, 114, 111, 99, 115]⟩)) 9, false, false⟩,
                                ⟨.yes, (some 4), .assign (.tmp 18), true, false⟩] [3, 4]) <|
                              .cond (.tmp 4)
                                (.skip)
                                (.seq (.region [
                                  ⟨.yes, (some 19), .binOp .eql 9 (.tmp 3) (.const (.string ⟨#[102, 114, 111, 109]⟩)) 9, false, false⟩,
                                  ⟨.yes, (some 4), .assign (.tmp 19), true, false⟩] [3, 4]) <|
                                .cond (.tmp 4)
                                  (.skip)
                                  (.region [
                                    ⟨.yes, (some 20), .binOp .eql 9 (.tmp 3) (.const (.string ⟨#[118, 97, 108, 117, 101]⟩)) 9, false, false⟩,
                                    ⟨.yes, (some 4), .assign (.tmp 20), true, false⟩] [4])))))))))))))))) <|
    .cond (.tmp 4)
      (.seq (.region [
        ⟨.yes, (some 2), .assign (.const (.bool true)), false, false⟩] [2]) <|
      .ret)
      (.skip)) <|
  .seq (.region [
    ⟨.yes, (some 2), .assign (.const (.bool false)), false, false⟩] [2]) <|
  .ret

theorem c13_eq : ∃ c, Try.f13.body = some c ∧ compileCode (ann 13) c = c13 := ⟨_, rfl, by kernel_rfl⟩

def l14_0 : CC := .seq (.seq (.region [
    ⟨.yes, (some 9), .move (.tmp 3), false, false⟩,
    ⟨.yes, (some 10), .move (.tmp 0), false, false⟩,
    ⟨.yes, (some 11), .call ⟨.builtin .len, #[(.tmp 10)], #[9]⟩, false, false⟩,
    ⟨.yes, (some 12), .binOp .lss 3 (.tmp 9) (.tmp 11) 3, false, false⟩] [0, 3, 12]) <|
  .cond (.tmp 12)
    (.skip)
    (.exit 0)) <|
  .seq (.block 1 <| .seq (.region [
      ⟨.yes, (some 15), .move (.tmp 0), false, false⟩,
      ⟨.yes, (some 16), .move (.tmp 3), false, false⟩,
      ⟨.yes, (some 17), .index 9 (.tmp 15) (.tmp 16), false, false⟩,
      ⟨.yes, (some 18), .binOp .eql 5 (.tmp 17) (.const (.int .u8 (32))) 5, false, false⟩] [0, 3, 18]) <|
    .cond (.tmp 18)
      (.seq (.region [
        ⟨.yes, (some 2), .assign (.const (.bool false)), false, false⟩] [2]) <|
      .ret)
      (.skip)) <|
  .region [
    ⟨.yes, (some 13), .move (.tmp 3), true, false⟩,
    ⟨.yes, (some 14), .binOp .add 3 (.tmp 13) (.const (.int .i64 (1))) 3, false, false⟩,
    ⟨.yes, (some 3), .assign (.tmp 14), true, false⟩] [0, 3]

def l14_1 : CC := .seq (.seq (.region [
    ⟨.yes, (some 22), .move (.tmp 5), false, false⟩,
    ⟨.yes, (some 23), .move (.tmp 4), false, false⟩,
    ⟨.yes, (some 24), .call ⟨.builtin .len, #[(.tmp 23)], #[9]⟩, false, false⟩,
    ⟨.yes, (some 25), .binOp .add 3 (.tmp 22) (.tmp 24) 3, false, false⟩,
    ⟨.yes, (some 26), .binOp .leq 3 (.tmp 25) (.const (.int .i64 (87))) 3, false, false⟩] [4, 5, 26]) <|
  .cond (.tmp 26)
    (.skip)
    (.exit 2)) <|
  .seq (.block 3 <| .seq (.region [
      ⟨.yes, (some 29), .move (.tmp 5), false, false⟩,
      ⟨.yes, (some 30), .move (.tmp 5), false, false⟩,
      ⟨.yes, (some 31), .move (.tmp 4), false, false⟩,
      ⟨.yes, (some 32), .call ⟨.builtin .len, #[(.tmp 31)], #[9]⟩, false, false⟩,
      ⟨.yes, (some 33), .binOp .add 3 (.tmp 30) (.tmp 32) 3, false, false⟩,
      ⟨.yes, (some 34), .slice 9 (.const (.string ⟨#[32, 118, 97, 114, 32, 97, 114, 114, 97, 121, 32, 111, 110, 32, 115, 116, 97, 114, 116, 32, 109, 101, 115, 115, 97, 103, 101, 32, 116, 105, 99, 107, 32, 105, 110, 112, 117, 116, 32, 105, 102, 32, 101, 108, 115, 101, 32, 119, 104, 105, 108, 101, 32, 115, 101, 110, 100, 32, 111, 117, 116, 112, 117, 116, 32, 115, 101, 108, 102, 32, 112, 114, 111, 99, 115, 32, 102, 114, 111, 109, 32, 118, 97, 108, 117, 101, 32]⟩)) (some (.tmp 29)) (some (.tmp 33)) none, false, false⟩,
      ⟨.yes, (some 35), .move (.tmp 4), false, false⟩,
      ⟨.yes, (some 36), .binOp .eql 9 (.tmp 34) (.tmp 35) 9, false, false⟩] [4, 5, 36]) <|
    .cond (.tmp 36)
      (.seq (.region [
        ⟨.yes, (some 2), .assign (.const (.bool true)), false, false⟩] [2]) <|
      .ret)
      (.skip)) <|
  .region [
    ⟨.yes, (some 27), .move (.tmp 5), true, false⟩,
    ⟨.yes, (some 28), .binOp .add 3 (.tmp 27) (.const (.int .i64 (1))) 3, false, false⟩,
    ⟨.yes, (some 5), .assign (.tmp 28), true, false⟩] [4, 5]

/-- rollbacknet/rollbacknetref01.Reserved -/
def c14 : CC := .seq (.region [
    ⟨.yes, (some 2), .assign (.const (.bool false)), false, false⟩] [0]) <|
  .seq (.seq (.region [
    ⟨.yes, (some 6), .move (.tmp 0), false, false⟩,
    ⟨.yes, (some 7), .call ⟨.builtin .len, #[(.tmp 6)], #[9]⟩, false, false⟩,
    ⟨.yes, (some 8), .binOp .eql 3 (.tmp 7) (.const (.int .i64 (0))) 3, false, false⟩] [0, 8]) <|
  .cond (.tmp 8)
    (.seq (.region [
      ⟨.yes, (some 2), .assign (.const (.bool false)), false, false⟩] [2]) <|
    .ret)
    (.skip)) <|
  .seq (.seq (.region [
    ⟨.yes, (some 3), .assign (.const (.int .i64 (0))), false, false⟩] [0, 3]) <|
  .block 0 <| .loop l14_0) <|
  .seq (.region [
    ⟨.yes, (some 19), .move (.tmp 0), true, false⟩,
    ⟨.yes, (some 20), .binOp .add 9 (.const (.string ⟨#[32]⟩)) (.tmp 19) 9, false, false⟩,
    ⟨.yes, (some 21), .binOp .add 9 (.tmp 20) (.const (.string ⟨#[32]⟩)) 9, false, false⟩,
    ⟨.yes, (some 4), .assign (.tmp 21), true, false⟩] [4]) <|
  .seq (.seq (.region [
    ⟨.yes, (some 5), .assign (.const (.int .i64 (0))), false, false⟩] [4, 5]) <|
  .block 2 <| .loop l14_1) <|
  .seq (.region [
    ⟨.yes, (some 2), .assign (.const (.bool false)), false, false⟩] [2]) <|
  .ret

theorem c14_eq : ∃ c, Try.f14.body = some c ∧ compileCode (ann 14) c = c14 := ⟨_, rfl, by kernel_rfl⟩


/-- rollbacknet/token.one -/
def c15 : CC := .seq (.region [
    ⟨.yes, (some 2), .alloc 31, false, false⟩,
    ⟨.yes, (some 3), .assign (.const (.int .i64 (0))), false, false⟩,
    ⟨.yes, (some 4), .assign (.const (.int .i64 (0))), false, false⟩] [0, 2]) <|
  .seq (.block 0 <| .seq (.region [
      ⟨.yes, (some 8), .move (.tmp 0), false, false⟩,
      ⟨.yes, (some 9), .index 9 (.tmp 8) (.const (.int .i64 (0))), false, false⟩,
      ⟨.yes, (some 10), .call ⟨.value (.func 19), #[(.tmp 9)], #[5]⟩, false, false⟩,
      ⟨.yes, (some 7), .assign (.tmp 10), true, false⟩] [0, 2, 7]) <|
    .cond (.tmp 7)
      (.seq (.region [
        ⟨.yes, (some 11), .move (.tmp 0), false, false⟩,
        ⟨.yes, (some 12), .call ⟨.value (.func 20), #[(.tmp 11)], #[9]⟩, false, false⟩,
        ⟨.yes, (some 5), .assign (.tmp 12), true, false⟩] [0, 2, 5]) <|
      .seq (.seq (.region [
        ⟨.yes, (some 13), .move (.tmp 5), false, false⟩,
        ⟨.yes, (some 14), .binOp .gtr 3 (.tmp 13) (.const (.int .i64 (16))) 3, false, false⟩] [0, 2, 5, 14]) <|
      .cond (.tmp 14)
        (.seq (.region [
          ⟨.yes, (some 15), .build 31 #[], false, false⟩,
          ⟨.yes, none, .store 31 (.tmp 2) (.tmp 15), true, false⟩,
          ⟨.yes, (some 3), .assign (.const (.int .i64 (0))), false, false⟩,
          ⟨.yes, (some 4), .assign (.const (.int .i64 (5))), false, false⟩] [2, 3, 4]) <|
        .ret)
        (.skip)) <|
      .seq (.region [
        ⟨.yes, (some 16), .move (.tmp 0), true, false⟩,
        ⟨.yes, (some 17), .move (.tmp 5), false, false⟩,
        ⟨.yes, (some 18), .slice 9 (.tmp 16) none (some (.tmp 17)) none, false, false⟩,
        ⟨.yes, (some 19), .build 31 #[(0, (.const (.int .i64 (1)))), (1, (.tmp 18))], true, false⟩,
        ⟨.yes, (some 20), .move (.tmp 5), true, false⟩,
        ⟨.yes, none, .store 31 (.tmp 2) (.tmp 19), true, false⟩,
        ⟨.yes, (some 3), .assign (.tmp 20), true, false⟩,
        ⟨.yes, (some 4), .assign (.const (.int .i64 (0))), false, false⟩] [2, 3, 4]) <|
      .ret)
      (.seq (.region [
        ⟨.yes, (some 22), .move (.tmp 0), false, false⟩,
        ⟨.yes, (some 23), .index 9 (.tmp 22) (.const (.int .i64 (0))), false, false⟩,
        ⟨.yes, (some 24), .call ⟨.value (.func 23), #[(.tmp 23)], #[5]⟩, false, false⟩,
        ⟨.yes, (some 21), .assign (.tmp 24), true, false⟩] [0, 2, 21]) <|
      .cond (.tmp 21)
        (.seq (.region [
          ⟨.yes, (some 25), .move (.tmp 0), true, false⟩,
          ⟨.yes, (some 26), .call ⟨.value (.func 24), #[(.tmp 25)], #[9]⟩, false, false⟩,
          ⟨.yes, (some 27), .extract (.tmp 26) 0, false, false⟩,
          ⟨.yes, (some 28), .extract (.tmp 26) 1, false, false⟩,
          ⟨.yes, (some 29), .extract (.tmp 26) 2, false, false⟩,
          ⟨.yes, none, .store 31 (.tmp 2) (.tmp 27), true, false⟩,
          ⟨.yes, (some 3), .assign (.tmp 28), true, false⟩,
          ⟨.yes, (some 4), .assign (.tmp 29), true, false⟩] [2, 3, 4]) <|
        .ret)
        (.skip))) <|
  .seq (.region [
    ⟨.yes, (some 30), .move (.tmp 0), false, false⟩,
    ⟨.yes, (some 31), .call ⟨.value (.func 25), #[(.tmp 30)], #[9]⟩, false, false⟩,
    ⟨.yes, (some 6), .assign (.tmp 31), true, false⟩] [0, 2, 6]) <|
  .seq (.seq (.region [
    ⟨.yes, (some 32), .move (.tmp 6), false, false⟩,
    ⟨.yes, (some 33), .binOp .eql 3 (.tmp 32) (.const (.int .i64 (0))) 3, false, false⟩] [0, 2, 6, 33]) <|
  .cond (.tmp 33)
    (.seq (.region [
      ⟨.yes, (some 34), .build 31 #[], false, false⟩,
      ⟨.yes, none, .store 31 (.tmp 2) (.tmp 34), true, false⟩,
      ⟨.yes, (some 3), .assign (.const (.int .i64 (0))), false, false⟩,
      ⟨.yes, (some 4), .assign (.const (.int .i64 (1))), false, false⟩] [2, 3, 4]) <|
    .ret)
    (.skip)) <|
  .seq (.region [
    ⟨.yes, (some 35), .move (.tmp 0), true, false⟩,
    ⟨.yes, (some 36), .move (.tmp 6), false, false⟩,
    ⟨.yes, (some 37), .slice 9 (.tmp 35) none (some (.tmp 36)) none, false, false⟩,
    ⟨.yes, (some 38), .build 31 #[(0, (.const (.int .i64 (3)))), (1, (.tmp 37))], true, false⟩,
    ⟨.yes, (some 39), .move (.tmp 6), true, false⟩,
    ⟨.yes, none, .store 31 (.tmp 2) (.tmp 38), true, false⟩,
    ⟨.yes, (some 3), .assign (.tmp 39), true, false⟩,
    ⟨.yes, (some 4), .assign (.const (.int .i64 (0))), false, false⟩] [2, 3, 4]) <|
  .ret

theorem c15_eq : ∃ c, Try.f15.body = some c ∧ compileCode (ann 15) c = c15 := ⟨_, rfl, by kernel_rfl⟩


/-- rollbacknet/rollbacknetref01.blank -/
def c16 : CC := .seq (.region [
    ⟨.yes, (some 2), .assign (.const (.bool false)), false, false⟩] [0]) <|
  .seq (.region [
    ⟨.yes, (some 3), .move (.tmp 0), false, false⟩,
    ⟨.yes, (some 4), .binOp .eql 5 (.tmp 3) (.const (.int .u8 (32))) 5, false, false⟩,
    ⟨.yes, (some 5), .move (.tmp 4), true, false⟩,
    ⟨(.on 5 false), (some 6), .move (.tmp 0), false, false⟩,
    ⟨(.on 5 false), (some 7), .binOp .eql 5 (.tmp 6) (.const (.int .u8 (9))) 5, false, false⟩,
    ⟨.yes, (some 8), .pick (.tmp 5) (.const (.bool true)) (.tmp 7), false, false⟩,
    ⟨.yes, (some 9), .move (.tmp 8), true, false⟩,
    ⟨(.on 9 false), (some 10), .move (.tmp 0), false, false⟩,
    ⟨(.on 9 false), (some 11), .binOp .eql 5 (.tmp 10) (.const (.int .u8 (10))) 5, false, false⟩,
    ⟨.yes, (some 12), .pick (.tmp 9) (.const (.bool true)) (.tmp 11), false, false⟩,
    ⟨.yes, (some 13), .move (.tmp 12), true, false⟩,
    ⟨(.on 13 false), (some 14), .move (.tmp 0), true, false⟩,
    ⟨(.on 13 false), (some 15), .binOp .eql 5 (.tmp 14) (.const (.int .u8 (13))) 5, false, false⟩,
    ⟨.yes, (some 16), .pick (.tmp 13) (.const (.bool true)) (.tmp 15), false, false⟩,
    ⟨.yes, (some 2), .assign (.tmp 16), true, false⟩] [2]) <|
  .ret

theorem c16_eq : ∃ c, Try.f16.body = some c ∧ compileCode (ann 16) c = c16 := ⟨_, rfl, by kernel_rfl⟩

def l17_0 : CC := .seq (.seq (.region [
    ⟨.yes, (some 19), .move (.tmp 8), false, false⟩,
    ⟨.yes, (some 20), .move (.tmp 0), false, false⟩,
    ⟨.yes, (some 21), .call ⟨.builtin .len, #[(.tmp 20)], #[9]⟩, false, false⟩,
    ⟨.yes, (some 22), .binOp .lss 3 (.tmp 19) (.tmp 21) 3, false, false⟩,
    ⟨.yes, (some 23), .move (.tmp 22), true, false⟩,
    ⟨(.on 23 true), (some 24), .move (.tmp 0), false, false⟩,
    ⟨(.on 23 true), (some 25), .move (.tmp 8), false, false⟩,
    ⟨(.on 23 true), (some 26), .index 9 (.tmp 24) (.tmp 25), false, false⟩,
    ⟨(.on 23 true), (some 27), .call ⟨.value (.func 21), #[(.tmp 26)], #[5]⟩, false, false⟩,
    ⟨(.on 23 true), (some 28), .move (.tmp 27), true, false⟩,
    ⟨(.on 28 false), (some 29), .move (.tmp 0), false, false⟩,
    ⟨(.on 28 false), (some 30), .move (.tmp 8), false, false⟩,
    ⟨(.on 28 false), (some 31), .index 9 (.tmp 29) (.tmp 30), false, false⟩,
    ⟨(.on 28 false), (some 32), .call ⟨.value (.func 22), #[(.tmp 31)], #[5]⟩, false, false⟩,
    ⟨(.on 23 true), (some 33), .pick (.tmp 28) (.const (.bool true)) (.tmp 32), false, false⟩,
    ⟨.yes, (some 34), .pick (.tmp 23) (.tmp 33) (.const (.bool false)), false, false⟩] [0, 1, 4, 8, 34]) <|
  .cond (.tmp 34)
    (.skip)
    (.exit 1)) <|
  .block 2 <| .region [
      ⟨.yes, (some 35), .move (.tmp 8), true, false⟩,
      ⟨.yes, (some 36), .binOp .add 3 (.tmp 35) (.const (.int .i64 (1))) 3, false, false⟩,
      ⟨.yes, (some 8), .assign (.tmp 36), true, false⟩] [0, 1, 4, 8]

def l17_1 : CC := .seq (.seq (.region [
    ⟨.yes, (some 54), .move (.tmp 8), false, false⟩,
    ⟨.yes, (some 55), .move (.tmp 0), false, false⟩,
    ⟨.yes, (some 56), .call ⟨.builtin .len, #[(.tmp 55)], #[9]⟩, false, false⟩,
    ⟨.yes, (some 57), .binOp .lss 3 (.tmp 54) (.tmp 56) 3, false, false⟩,
    ⟨.yes, (some 58), .move (.tmp 57), true, false⟩,
    ⟨(.on 58 true), (some 59), .move (.tmp 0), false, false⟩,
    ⟨(.on 58 true), (some 60), .move (.tmp 8), false, false⟩,
    ⟨(.on 58 true), (some 61), .index 9 (.tmp 59) (.tmp 60), false, false⟩,
    ⟨(.on 58 true), (some 62), .call ⟨.value (.func 22), #[(.tmp 61)], #[5]⟩, false, false⟩,
    ⟨.yes, (some 63), .pick (.tmp 58) (.tmp 62) (.const (.bool false)), false, false⟩] [0, 1, 4, 8, 63]) <|
  .cond (.tmp 63)
    (.skip)
    (.exit 3)) <|
  .block 4 <| .region [
      ⟨.yes, (some 64), .move (.tmp 8), true, false⟩,
      ⟨.yes, (some 65), .binOp .add 3 (.tmp 64) (.const (.int .i64 (1))) 3, false, false⟩,
      ⟨.yes, (some 8), .assign (.tmp 65), true, false⟩] [0, 1, 4, 8]

/-- rollbacknet/rollbacknetref01.one -/
def c17 : CC := .seq (.region [
    ⟨.yes, (some 4), .alloc 31, false, false⟩,
    ⟨.yes, (some 5), .assign (.const (.int .i64 (0))), false, false⟩,
    ⟨.yes, (some 6), .assign (.const (.int .i64 (0))), false, false⟩] [0, 1, 4]) <|
  .seq (.region [
    ⟨.yes, (some 11), .move (.tmp 0), false, false⟩,
    ⟨.yes, (some 12), .move (.tmp 1), false, false⟩,
    ⟨.yes, (some 13), .index 9 (.tmp 11) (.tmp 12), false, false⟩,
    ⟨.yes, (some 7), .assign (.tmp 13), true, false⟩] [0, 1, 4, 7]) <|
  .seq (.region [
    ⟨.yes, (some 14), .move (.tmp 1), false, false⟩,
    ⟨.yes, (some 15), .binOp .add 3 (.tmp 14) (.const (.int .i64 (1))) 3, false, false⟩,
    ⟨.yes, (some 8), .assign (.tmp 15), true, false⟩] [0, 1, 4, 7, 8]) <|
  .seq (.block 0 <| .seq (.region [
      ⟨.yes, (some 17), .move (.tmp 7), false, false⟩,
      ⟨.yes, (some 18), .call ⟨.value (.func 21), #[(.tmp 17)], #[5]⟩, false, false⟩,
      ⟨.yes, (some 16), .assign (.tmp 18), true, false⟩] [0, 1, 4, 7, 8, 16]) <|
    .cond (.tmp 16)
      (.seq (.block 1 <| .loop l17_0) <|
      .seq (.seq (.region [
        ⟨.yes, (some 37), .move (.tmp 8), false, false⟩,
        ⟨.yes, (some 38), .move (.tmp 1), false, false⟩,
        ⟨.yes, (some 39), .binOp .sub 3 (.tmp 37) (.tmp 38) 3, false, false⟩,
        ⟨.yes, (some 40), .binOp .gtr 3 (.tmp 39) (.const (.int .i64 (16))) 3, false, false⟩] [0, 1, 4, 8, 40]) <|
      .cond (.tmp 40)
        (.seq (.region [
          ⟨.yes, (some 41), .build 31 #[], false, false⟩,
          ⟨.yes, none, .store 31 (.tmp 4) (.tmp 41), true, false⟩,
          ⟨.yes, (some 5), .assign (.const (.int .i64 (0))), false, false⟩,
          ⟨.yes, (some 6), .assign (.const (.int .i64 (5))), false, false⟩] [4, 5, 6]) <|
        .ret)
        (.skip)) <|
      .seq (.region [
        ⟨.yes, (some 42), .move (.tmp 0), true, false⟩,
        ⟨.yes, (some 43), .move (.tmp 1), false, false⟩,
        ⟨.yes, (some 44), .move (.tmp 8), false, false⟩,
        ⟨.yes, (some 45), .slice 9 (.tmp 42) (some (.tmp 43)) (some (.tmp 44)) none, false, false⟩,
        ⟨.yes, (some 46), .move (.tmp 1), true, false⟩,
        ⟨.yes, (some 47), .build 31 #[(0, (.const (.int .i64 (1)))), (1, (.tmp 45)), (3, (.tmp 46))], true, false⟩,
        ⟨.yes, (some 48), .move (.tmp 8), true, false⟩,
        ⟨.yes, none, .store 31 (.tmp 4) (.tmp 47), true, false⟩,
        ⟨.yes, (some 5), .assign (.tmp 48), true, false⟩,
        ⟨.yes, (some 6), .assign (.const (.int .i64 (0))), false, false⟩] [4, 5, 6]) <|
      .ret)
      (.seq (.region [
        ⟨.yes, (some 50), .move (.tmp 7), false, false⟩,
        ⟨.yes, (some 51), .call ⟨.value (.func 22), #[(.tmp 50)], #[5]⟩, false, false⟩,
        ⟨.yes, (some 49), .assign (.tmp 51), true, false⟩] [0, 1, 4, 7, 8, 49]) <|
      .cond (.tmp 49)
        (.seq (.seq (.region [
          ⟨.yes, (some 52), .move (.tmp 7), true, false⟩,
          ⟨.yes, (some 53), .binOp .neq 5 (.tmp 52) (.const (.int .u8 (48))) 5, false, false⟩] [0, 1, 4, 8, 53]) <|
        .cond (.tmp 53)
          (.block 3 <| .loop l17_1)
          (.skip)) <|
        .seq (.seq (.region [
          ⟨.yes, (some 66), .move (.tmp 8), false, false⟩,
          ⟨.yes, (some 67), .move (.tmp 0), false, false⟩,
          ⟨.yes, (some 68), .call ⟨.builtin .len, #[(.tmp 67)], #[9]⟩, false, false⟩,
          ⟨.yes, (some 69), .binOp .lss 3 (.tmp 66) (.tmp 68) 3, false, false⟩,
          ⟨.yes, (some 70), .move (.tmp 69), true, false⟩,
          ⟨(.on 70 true), (some 71), .move (.tmp 0), false, false⟩,
          ⟨(.on 70 true), (some 72), .move (.tmp 8), false, false⟩,
          ⟨(.on 70 true), (some 73), .index 9 (.tmp 71) (.tmp 72), false, false⟩,
          ⟨(.on 70 true), (some 74), .call ⟨.value (.func 21), #[(.tmp 73)], #[5]⟩, false, false⟩,
          ⟨(.on 70 true), (some 75), .move (.tmp 74), true, false⟩,
          ⟨(.on 75 false), (some 76), .move (.tmp 0), false, false⟩,
          ⟨(.on 75 false), (some 77), .move (.tmp 8), false, false⟩,
          ⟨(.on 75 false), (some 78), .index 9 (.tmp 76) (.tmp 77), false, false⟩,
          ⟨(.on 75 false), (some 79), .call ⟨.value (.func 22), #[(.tmp 78)], #[5]⟩, false, false⟩,
          ⟨(.on 70 true), (some 80), .pick (.tmp 75) (.const (.bool true)) (.tmp 79), false, false⟩,
          ⟨.yes, (some 81), .pick (.tmp 70) (.tmp 80) (.const (.bool false)), false, false⟩] [0, 1, 4, 8, 81]) <|
        .cond (.tmp 81)
          (.seq (.region [
            ⟨.yes, (some 82), .build 31 #[], false, false⟩,
            ⟨.yes, none, .store 31 (.tmp 4) (.tmp 82), true, false⟩,
            ⟨.yes, (some 5), .assign (.const (.int .i64 (0))), false, false⟩,
            ⟨.yes, (some 6), .assign (.const (.int .i64 (1))), false, false⟩] [4, 5, 6]) <|
          .ret)
          (.skip)) <|
        .seq (.region [
          ⟨.yes, (some 84), .move (.tmp 0), true, false⟩,
          ⟨.yes, (some 85), .move (.tmp 1), false, false⟩,
          ⟨.yes, (some 86), .move (.tmp 8), false, false⟩,
          ⟨.yes, (some 87), .slice 9 (.tmp 84) (some (.tmp 85)) (some (.tmp 86)) none, false, false⟩,
          ⟨.yes, (some 88), .call ⟨.value (.func 26), #[(.tmp 87)], #[9]⟩, false, false⟩,
          ⟨.yes, (some 83), .move (.tmp 88), true, false⟩,
          ⟨.yes, (some 89), .extract (.tmp 83) 0, false, false⟩,
          ⟨.yes, (some 90), .extract (.tmp 83) 1, false, false⟩,
          ⟨.yes, (some 9), .assign (.tmp 89), true, false⟩,
          ⟨.yes, (some 10), .assign (.tmp 90), true, false⟩] [1, 4, 8, 9, 10]) <|
        .seq (.seq (.region [
          ⟨.yes, (some 91), .move (.tmp 10), true, false⟩,
          ⟨.yes, (some 92), .unOp .not 4 (.tmp 91), false, false⟩] [1, 4, 8, 9, 92]) <|
        .cond (.tmp 92)
          (.seq (.region [
            ⟨.yes, (some 93), .build 31 #[], false, false⟩,
            ⟨.yes, none, .store 31 (.tmp 4) (.tmp 93), true, false⟩,
            ⟨.yes, (some 5), .assign (.const (.int .i64 (0))), false, false⟩,
            ⟨.yes, (some 6), .assign (.const (.int .i64 (3))), false, false⟩] [4, 5, 6]) <|
          .ret)
          (.skip)) <|
        .seq (.region [
          ⟨.yes, (some 94), .move (.tmp 9), true, false⟩,
          ⟨.yes, (some 95), .move (.tmp 1), true, false⟩,
          ⟨.yes, (some 96), .build 31 #[(0, (.const (.int .i64 (2)))), (2, (.tmp 94)), (3, (.tmp 95))], true, false⟩,
          ⟨.yes, (some 97), .move (.tmp 8), true, false⟩,
          ⟨.yes, none, .store 31 (.tmp 4) (.tmp 96), true, false⟩,
          ⟨.yes, (some 5), .assign (.tmp 97), true, false⟩,
          ⟨.yes, (some 6), .assign (.const (.int .i64 (0))), false, false⟩] [4, 5, 6]) <|
        .ret)
        (.seq (.region [
          ⟨.yes, (some 99), .move (.tmp 8), false, false⟩,
          ⟨.yes, (some 100), .move (.tmp 0), false, false⟩,
          ⟨.yes, (some 101), .call ⟨.builtin .len, #[(.tmp 100)], #[9]⟩, false, false⟩,
          ⟨.yes, (some 102), .binOp .lss 3 (.tmp 99) (.tmp 101) 3, false, false⟩,
          ⟨.yes, (some 103), .move (.tmp 102), true, false⟩,
          ⟨(.on 103 true), (some 104), .move (.tmp 7), false, false⟩,
          ⟨(.on 103 true), (some 105), .move (.tmp 0), false, false⟩,
          ⟨(.on 103 true), (some 106), .move (.tmp 8), false, false⟩,
          ⟨(.on 103 true), (some 107), .index 9 (.tmp 105) (.tmp 106), false, false⟩,
          ⟨(.on 103 true), (some 108), .call ⟨.value (.func 27), #[(.tmp 104), (.tmp 107)], #[5, 5]⟩, false, false⟩,
          ⟨.yes, (some 109), .pick (.tmp 103) (.tmp 108) (.const (.bool false)), false, false⟩,
          ⟨.yes, (some 98), .assign (.tmp 109), true, false⟩] [0, 1, 4, 7, 8, 98]) <|
        .cond (.tmp 98)
          (.seq (.region [
            ⟨.yes, (some 110), .move (.tmp 0), true, false⟩,
            ⟨.yes, (some 111), .move (.tmp 1), false, false⟩,
            ⟨.yes, (some 112), .move (.tmp 8), false, false⟩,
            ⟨.yes, (some 113), .binOp .add 3 (.tmp 112) (.const (.int .i64 (1))) 3, false, false⟩,
            ⟨.yes, (some 114), .slice 9 (.tmp 110) (some (.tmp 111)) (some (.tmp 113)) none, false, false⟩,
            ⟨.yes, (some 115), .move (.tmp 1), true, false⟩,
            ⟨.yes, (some 116), .build 31 #[(0, (.const (.int .i64 (3)))), (1, (.tmp 114)), (3, (.tmp 115))], true, false⟩,
            ⟨.yes, (some 117), .move (.tmp 8), true, false⟩,
            ⟨.yes, (some 118), .binOp .add 3 (.tmp 117) (.const (.int .i64 (1))) 3, false, false⟩,
            ⟨.yes, none, .store 31 (.tmp 4) (.tmp 116), true, false⟩,
            ⟨.yes, (some 5), .assign (.tmp 118), true, false⟩,
            ⟨.yes, (some 6), .assign (.const (.int .i64 (0))), false, false⟩] [4, 5, 6]) <|
          .ret)
          (.seq (.region [
            ⟨.yes, (some 120), .move (.tmp 7), true, false⟩,
            ⟨.yes, (some 121), .call ⟨.value (.func 28), #[(.tmp 120)], #[5]⟩, false, false⟩,
            ⟨.yes, (some 119), .assign (.tmp 121), true, false⟩] [0, 1, 4, 8, 119]) <|
          .cond (.tmp 119)
            (.seq (.region [
              ⟨.yes, (some 122), .move (.tmp 0), true, false⟩,
              ⟨.yes, (some 123), .move (.tmp 1), false, false⟩,
              ⟨.yes, (some 124), .move (.tmp 8), false, false⟩,
              ⟨.yes, (some 125), .slice 9 (.tmp 122) (some (.tmp 123)) (some (.tmp 124)) none, false, false⟩,
              ⟨.yes, (some 126), .move (.tmp 1), true, false⟩,
              ⟨.yes, (some 127), .build 31 #[(0, (.const (.int .i64 (3)))), (1, (.tmp 125)), (3, (.tmp 126))], true, false⟩,
              ⟨.yes, (some 128), .move (.tmp 8), true, false⟩,
              ⟨.yes, none, .store 31 (.tmp 4) (.tmp 127), true, false⟩,
              ⟨.yes, (some 5), .assign (.tmp 128), true, false⟩,
              ⟨.yes, (some 6), .assign (.const (.int .i64 (0))), false, false⟩] [4, 5, 6]) <|
            .ret)
            (.skip))))) <|
  .seq (.region [
    ⟨.yes, (some 129), .build 31 #[], false, false⟩,
    ⟨.yes, none, .store 31 (.tmp 4) (.tmp 129), true, false⟩,
    ⟨.yes, (some 5), .assign (.const (.int .i64 (0))), false, false⟩,
    ⟨.yes, (some 6), .assign (.const (.int .i64 (1))), false, false⟩] [4, 5, 6]) <|
  .ret

theorem c17_eq : ∃ c, Try.f17.body = some c ∧ compileCode (ann 17) c = c17 := ⟨_, rfl, by kernel_rfl⟩

def l18_0 : CC := .seq (.seq (.region [
    ⟨.yes, (some 11), .move (.tmp 5), false, false⟩,
    ⟨.yes, (some 12), .move (.tmp 0), false, false⟩,
    ⟨.yes, (some 13), .call ⟨.builtin .len, #[(.tmp 12)], #[23]⟩, false, false⟩,
    ⟨.yes, (some 14), .binOp .lss 3 (.tmp 11) (.tmp 13) 3, false, false⟩] [0, 1, 5, 14]) <|
  .cond (.tmp 14)
    (.skip)
    (.exit 0)) <|
  .seq (.block 1 <| .seq (.drawn ⟨[11, 24], [], [0, 1, 5, 53]⟩ [
      ⟨(some 17), .move (.tmp 0), 23, "ref.go:176", #[], none⟩,
      ⟨(some 18), .move (.tmp 5), 3, "ref.go:176", #[], none⟩,
      ⟨(some 19), .indexAddr 23 (.tmp 17) (.tmp 18), 0, "ref.go:176", #[⟨0, .data⟩, ⟨1, .data⟩], none⟩,
      ⟨(some 20), .fieldAddr 31 (.tmp 19) 0, 0, "ref.go:176", #[⟨2, .data⟩], none⟩,
      ⟨(some 21), .load 3 (.tmp 20), 3, "ref.go:176", #[⟨3, .data⟩], none⟩,
      ⟨(some 22), .move (.tmp 1), 23, "ref.go:176", #[], none⟩,
      ⟨(some 23), .move (.tmp 5), 3, "ref.go:176", #[], none⟩,
      ⟨(some 24), .indexAddr 23 (.tmp 22) (.tmp 23), 0, "ref.go:176", #[⟨5, .data⟩, ⟨6, .data⟩], none⟩,
      ⟨(some 25), .fieldAddr 31 (.tmp 24) 0, 0, "ref.go:176", #[⟨7, .data⟩], none⟩,
      ⟨(some 26), .load 3 (.tmp 25), 3, "ref.go:176", #[⟨8, .data⟩], none⟩,
      ⟨(some 27), .binOp .neq 3 (.tmp 21) (.tmp 26) 3, 4, "ref.go:176", #[⟨4, .data⟩, ⟨9, .data⟩], none⟩,
      ⟨(some 28), .move (.tmp 27), 4, "ref.go:176", #[⟨10, .data⟩], none⟩,
      ⟨(some 29), .move (.tmp 0), 23, "ref.go:176", #[⟨11, .guard⟩], (some (11, false))⟩,
      ⟨(some 30), .move (.tmp 5), 3, "ref.go:176", #[⟨11, .guard⟩], (some (11, false))⟩,
      ⟨(some 31), .indexAddr 23 (.tmp 29) (.tmp 30), 0, "ref.go:176", #[⟨12, .data⟩, ⟨13, .data⟩, ⟨11, .guard⟩], (some (11, false))⟩,
      ⟨(some 32), .fieldAddr 31 (.tmp 31) 1, 0, "ref.go:176", #[⟨14, .data⟩, ⟨11, .guard⟩], (some (11, false))⟩,
      ⟨(some 33), .load 9 (.tmp 32), 9, "ref.go:176", #[⟨15, .data⟩, ⟨11, .guard⟩], (some (11, false))⟩,
      ⟨(some 34), .move (.tmp 1), 23, "ref.go:176", #[⟨11, .guard⟩], (some (11, false))⟩,
      ⟨(some 35), .move (.tmp 5), 3, "ref.go:176", #[⟨11, .guard⟩], (some (11, false))⟩,
      ⟨(some 36), .indexAddr 23 (.tmp 34) (.tmp 35), 0, "ref.go:176", #[⟨17, .data⟩, ⟨18, .data⟩, ⟨11, .guard⟩], (some (11, false))⟩,
      ⟨(some 37), .fieldAddr 31 (.tmp 36) 1, 0, "ref.go:176", #[⟨19, .data⟩, ⟨11, .guard⟩], (some (11, false))⟩,
      ⟨(some 38), .load 9 (.tmp 37), 9, "ref.go:176", #[⟨20, .data⟩, ⟨11, .guard⟩], (some (11, false))⟩,
      ⟨(some 39), .binOp .neq 9 (.tmp 33) (.tmp 38) 9, 4, "ref.go:176", #[⟨16, .data⟩, ⟨21, .data⟩, ⟨11, .guard⟩], (some (11, false))⟩,
      ⟨(some 40), .pick (.tmp 28) (.const (.bool true)) (.tmp 39), 4, "ref.go:176", #[⟨11, .data⟩, ⟨22, .data⟩], none⟩,
      ⟨(some 41), .move (.tmp 40), 4, "ref.go:176", #[⟨23, .data⟩, ⟨11, .chain⟩], none⟩,
      ⟨(some 42), .move (.tmp 0), 23, "ref.go:176", #[⟨24, .guard⟩], (some (24, false))⟩,
      ⟨(some 43), .move (.tmp 5), 3, "ref.go:176", #[⟨24, .guard⟩], (some (24, false))⟩,
      ⟨(some 44), .indexAddr 23 (.tmp 42) (.tmp 43), 0, "ref.go:176", #[⟨25, .data⟩, ⟨26, .data⟩, ⟨24, .guard⟩], (some (24, false))⟩,
      ⟨(some 45), .fieldAddr 31 (.tmp 44) 2, 0, "ref.go:176", #[⟨27, .data⟩, ⟨24, .guard⟩], (some (24, false))⟩,
      ⟨(some 46), .load 3 (.tmp 45), 3, "ref.go:176", #[⟨28, .data⟩, ⟨24, .guard⟩], (some (24, false))⟩,
      ⟨(some 47), .move (.tmp 1), 23, "ref.go:176", #[⟨24, .guard⟩], (some (24, false))⟩,
      ⟨(some 48), .move (.tmp 5), 3, "ref.go:176", #[⟨24, .guard⟩], (some (24, false))⟩,
      ⟨(some 49), .indexAddr 23 (.tmp 47) (.tmp 48), 0, "ref.go:176", #[⟨30, .data⟩, ⟨31, .data⟩, ⟨24, .guard⟩], (some (24, false))⟩,
      ⟨(some 50), .fieldAddr 31 (.tmp 49) 2, 0, "ref.go:176", #[⟨32, .data⟩, ⟨24, .guard⟩], (some (24, false))⟩,
      ⟨(some 51), .load 3 (.tmp 50), 3, "ref.go:176", #[⟨33, .data⟩, ⟨24, .guard⟩], (some (24, false))⟩,
      ⟨(some 52), .binOp .neq 3 (.tmp 46) (.tmp 51) 3, 4, "ref.go:176", #[⟨29, .data⟩, ⟨34, .data⟩, ⟨24, .guard⟩], (some (24, false))⟩,
      ⟨(some 53), .pick (.tmp 41) (.const (.bool true)) (.tmp 52), 4, "ref.go:176", #[⟨24, .data⟩, ⟨35, .data⟩], none⟩]) <|
    .cond (.tmp 53)
      (.seq (.region [
        ⟨.yes, (some 4), .assign (.const (.bool false)), false, false⟩] [4]) <|
      .ret)
      (.skip)) <|
  .region [
    ⟨.yes, (some 15), .move (.tmp 5), true, false⟩,
    ⟨.yes, (some 16), .binOp .add 3 (.tmp 15) (.const (.int .i64 (1))) 3, false, false⟩,
    ⟨.yes, (some 5), .assign (.tmp 16), true, false⟩] [0, 1, 5]

/-- rollbacknet/rollbacknetref01.Same -/
def c18 : CC := .seq (.region [
    ⟨.yes, (some 4), .assign (.const (.bool false)), false, false⟩] [0, 1]) <|
  .seq (.seq (.region [
    ⟨.yes, (some 6), .move (.tmp 0), false, false⟩,
    ⟨.yes, (some 7), .call ⟨.builtin .len, #[(.tmp 6)], #[23]⟩, false, false⟩,
    ⟨.yes, (some 8), .move (.tmp 1), false, false⟩,
    ⟨.yes, (some 9), .call ⟨.builtin .len, #[(.tmp 8)], #[23]⟩, false, false⟩,
    ⟨.yes, (some 10), .binOp .neq 3 (.tmp 7) (.tmp 9) 3, false, false⟩] [0, 1, 10]) <|
  .cond (.tmp 10)
    (.seq (.region [
      ⟨.yes, (some 4), .assign (.const (.bool false)), false, false⟩] [4]) <|
    .ret)
    (.skip)) <|
  .seq (.seq (.region [
    ⟨.yes, (some 5), .assign (.const (.int .i64 (0))), false, false⟩] [0, 1, 5]) <|
  .block 0 <| .loop l18_0) <|
  .seq (.region [
    ⟨.yes, (some 4), .assign (.const (.bool true)), false, false⟩] [4]) <|
  .ret

theorem c18_eq : ∃ c, Try.f18.body = some c ∧ compileCode (ann 18) c = c18 := ⟨_, rfl, by kernel_rfl⟩


/-- rollbacknet/token.letter -/
def c19 : CC := .seq (.region [
    ⟨.yes, (some 2), .assign (.const (.bool false)), false, false⟩] [0]) <|
  .seq (.region [
    ⟨.yes, (some 3), .move (.tmp 0), false, false⟩,
    ⟨.yes, (some 4), .binOp .leq 5 (.const (.int .u8 (97))) (.tmp 3) 5, false, false⟩,
    ⟨.yes, (some 5), .move (.tmp 4), true, false⟩,
    ⟨(.on 5 true), (some 6), .move (.tmp 0), false, false⟩,
    ⟨(.on 5 true), (some 7), .binOp .leq 5 (.tmp 6) (.const (.int .u8 (122))) 5, false, false⟩,
    ⟨.yes, (some 8), .pick (.tmp 5) (.tmp 7) (.const (.bool false)), false, false⟩,
    ⟨.yes, (some 9), .move (.tmp 8), true, false⟩,
    ⟨(.on 9 false), (some 10), .move (.tmp 0), false, false⟩,
    ⟨(.on 9 false), (some 11), .binOp .leq 5 (.const (.int .u8 (65))) (.tmp 10) 5, false, false⟩,
    ⟨(.on 9 false), (some 12), .move (.tmp 11), true, false⟩,
    ⟨(.on 12 true), (some 13), .move (.tmp 0), false, false⟩,
    ⟨(.on 12 true), (some 14), .binOp .leq 5 (.tmp 13) (.const (.int .u8 (90))) 5, false, false⟩,
    ⟨(.on 9 false), (some 15), .pick (.tmp 12) (.tmp 14) (.const (.bool false)), false, false⟩,
    ⟨.yes, (some 16), .pick (.tmp 9) (.const (.bool true)) (.tmp 15), false, false⟩,
    ⟨.yes, (some 17), .move (.tmp 16), true, false⟩,
    ⟨(.on 17 false), (some 18), .move (.tmp 0), true, false⟩,
    ⟨(.on 17 false), (some 19), .binOp .eql 5 (.tmp 18) (.const (.int .u8 (95))) 5, false, false⟩,
    ⟨.yes, (some 20), .pick (.tmp 17) (.const (.bool true)) (.tmp 19), false, false⟩,
    ⟨.yes, (some 2), .assign (.tmp 20), true, false⟩] [2]) <|
  .ret

theorem c19_eq : ∃ c, Try.f19.body = some c ∧ compileCode (ann 19) c = c19 := ⟨_, rfl, by kernel_rfl⟩

def l20_0 : CC := .seq (.seq (.region [
    ⟨.yes, (some 4), .move (.tmp 3), false, false⟩,
    ⟨.yes, (some 5), .move (.tmp 0), false, false⟩,
    ⟨.yes, (some 6), .call ⟨.builtin .len, #[(.tmp 5)], #[9]⟩, false, false⟩,
    ⟨.yes, (some 7), .binOp .lss 3 (.tmp 4) (.tmp 6) 3, false, false⟩,
    ⟨.yes, (some 8), .move (.tmp 7), true, false⟩,
    ⟨(.on 8 true), (some 9), .move (.tmp 0), false, false⟩,
    ⟨(.on 8 true), (some 10), .move (.tmp 3), false, false⟩,
    ⟨(.on 8 true), (some 11), .index 9 (.tmp 9) (.tmp 10), false, false⟩,
    ⟨(.on 8 true), (some 12), .call ⟨.value (.func 19), #[(.tmp 11)], #[5]⟩, false, false⟩,
    ⟨(.on 8 true), (some 13), .move (.tmp 12), true, false⟩,
    ⟨(.on 13 false), (some 14), .move (.tmp 0), false, false⟩,
    ⟨(.on 13 false), (some 15), .move (.tmp 3), false, false⟩,
    ⟨(.on 13 false), (some 16), .index 9 (.tmp 14) (.tmp 15), false, false⟩,
    ⟨(.on 13 false), (some 17), .call ⟨.value (.func 23), #[(.tmp 16)], #[5]⟩, false, false⟩,
    ⟨(.on 8 true), (some 18), .pick (.tmp 13) (.const (.bool true)) (.tmp 17), false, false⟩,
    ⟨.yes, (some 19), .pick (.tmp 8) (.tmp 18) (.const (.bool false)), false, false⟩] [0, 3, 19]) <|
  .cond (.tmp 19)
    (.skip)
    (.exit 0)) <|
  .block 1 <| .region [
      ⟨.yes, (some 20), .move (.tmp 3), true, false⟩,
      ⟨.yes, (some 21), .binOp .add 3 (.tmp 20) (.const (.int .i64 (1))) 3, false, false⟩,
      ⟨.yes, (some 3), .assign (.tmp 21), true, false⟩] [0, 3]

/-- rollbacknet/token.run -/
def c20 : CC := .seq (.region [
    ⟨.yes, (some 2), .assign (.const (.int .i64 (0))), false, false⟩] [0]) <|
  .seq (.region [
    ⟨.yes, (some 3), .assign (.const (.int .i64 (0))), false, false⟩] [0, 3]) <|
  .seq (.block 0 <| .loop l20_0) <|
  .seq (.region [
    ⟨.yes, (some 22), .move (.tmp 3), true, false⟩,
    ⟨.yes, (some 2), .assign (.tmp 22), true, false⟩] [2]) <|
  .ret

theorem c20_eq : ∃ c, Try.f20.body = some c ∧ compileCode (ann 20) c = c20 := ⟨_, rfl, by kernel_rfl⟩


/-- rollbacknet/rollbacknetref01.letter -/
def c21 : CC := .seq (.region [
    ⟨.yes, (some 2), .assign (.const (.bool false)), false, false⟩] [0]) <|
  .seq (.region [
    ⟨.yes, (some 3), .move (.tmp 0), false, false⟩,
    ⟨.yes, (some 4), .binOp .geq 5 (.tmp 3) (.const (.int .u8 (97))) 5, false, false⟩,
    ⟨.yes, (some 5), .move (.tmp 4), true, false⟩,
    ⟨(.on 5 true), (some 6), .move (.tmp 0), false, false⟩,
    ⟨(.on 5 true), (some 7), .binOp .leq 5 (.tmp 6) (.const (.int .u8 (122))) 5, false, false⟩,
    ⟨.yes, (some 8), .pick (.tmp 5) (.tmp 7) (.const (.bool false)), false, false⟩,
    ⟨.yes, (some 9), .move (.tmp 8), true, false⟩,
    ⟨(.on 9 false), (some 10), .move (.tmp 0), false, false⟩,
    ⟨(.on 9 false), (some 11), .binOp .geq 5 (.tmp 10) (.const (.int .u8 (65))) 5, false, false⟩,
    ⟨(.on 9 false), (some 12), .move (.tmp 11), true, false⟩,
    ⟨(.on 12 true), (some 13), .move (.tmp 0), false, false⟩,
    ⟨(.on 12 true), (some 14), .binOp .leq 5 (.tmp 13) (.const (.int .u8 (90))) 5, false, false⟩,
    ⟨(.on 9 false), (some 15), .pick (.tmp 12) (.tmp 14) (.const (.bool false)), false, false⟩,
    ⟨.yes, (some 16), .pick (.tmp 9) (.const (.bool true)) (.tmp 15), false, false⟩,
    ⟨.yes, (some 17), .move (.tmp 16), true, false⟩,
    ⟨(.on 17 false), (some 18), .move (.tmp 0), true, false⟩,
    ⟨(.on 17 false), (some 19), .binOp .eql 5 (.tmp 18) (.const (.int .u8 (95))) 5, false, false⟩,
    ⟨.yes, (some 20), .pick (.tmp 17) (.const (.bool true)) (.tmp 19), false, false⟩,
    ⟨.yes, (some 2), .assign (.tmp 20), true, false⟩] [2]) <|
  .ret

theorem c21_eq : ∃ c, Try.f21.body = some c ∧ compileCode (ann 21) c = c21 := ⟨_, rfl, by kernel_rfl⟩


/-- rollbacknet/rollbacknetref01.digit -/
def c22 : CC := .seq (.region [
    ⟨.yes, (some 2), .assign (.const (.bool false)), false, false⟩] [0]) <|
  .seq (.region [
    ⟨.yes, (some 3), .move (.tmp 0), false, false⟩,
    ⟨.yes, (some 4), .binOp .geq 5 (.tmp 3) (.const (.int .u8 (48))) 5, false, false⟩,
    ⟨.yes, (some 5), .move (.tmp 4), true, false⟩,
    ⟨(.on 5 true), (some 6), .move (.tmp 0), true, false⟩,
    ⟨(.on 5 true), (some 7), .binOp .leq 5 (.tmp 6) (.const (.int .u8 (57))) 5, false, false⟩,
    ⟨.yes, (some 8), .pick (.tmp 5) (.tmp 7) (.const (.bool false)), false, false⟩,
    ⟨.yes, (some 2), .assign (.tmp 8), true, false⟩] [2]) <|
  .ret

theorem c22_eq : ∃ c, Try.f22.body = some c ∧ compileCode (ann 22) c = c22 := ⟨_, rfl, by kernel_rfl⟩


/-- rollbacknet/token.digit -/
def c23 : CC := .seq (.region [
    ⟨.yes, (some 2), .assign (.const (.bool false)), false, false⟩] [0]) <|
  .seq (.region [
    ⟨.yes, (some 3), .move (.tmp 0), false, false⟩,
    ⟨.yes, (some 4), .binOp .leq 5 (.const (.int .u8 (48))) (.tmp 3) 5, false, false⟩,
    ⟨.yes, (some 5), .move (.tmp 4), true, false⟩,
    ⟨(.on 5 true), (some 6), .move (.tmp 0), true, false⟩,
    ⟨(.on 5 true), (some 7), .binOp .leq 5 (.tmp 6) (.const (.int .u8 (57))) 5, false, false⟩,
    ⟨.yes, (some 8), .pick (.tmp 5) (.tmp 7) (.const (.bool false)), false, false⟩,
    ⟨.yes, (some 2), .assign (.tmp 8), true, false⟩] [2]) <|
  .ret

theorem c23_eq : ∃ c, Try.f23.body = some c ∧ compileCode (ann 23) c = c23 := ⟨_, rfl, by kernel_rfl⟩

def l24_0 : CC := .seq (.seq (.region [
    ⟨.yes, (some 10), .move (.tmp 0), false, false⟩,
    ⟨.yes, (some 11), .index 9 (.tmp 10) (.const (.int .i64 (0))), false, false⟩,
    ⟨.yes, (some 12), .binOp .neq 5 (.tmp 11) (.const (.int .u8 (48))) 5, false, false⟩,
    ⟨.yes, (some 13), .move (.tmp 12), true, false⟩,
    ⟨(.on 13 true), (some 14), .move (.tmp 5), false, false⟩,
    ⟨(.on 13 true), (some 15), .move (.tmp 0), false, false⟩,
    ⟨(.on 13 true), (some 16), .call ⟨.builtin .len, #[(.tmp 15)], #[9]⟩, false, false⟩,
    ⟨(.on 13 true), (some 17), .binOp .lss 3 (.tmp 14) (.tmp 16) 3, false, false⟩,
    ⟨.yes, (some 18), .pick (.tmp 13) (.tmp 17) (.const (.bool false)), false, false⟩,
    ⟨.yes, (some 19), .move (.tmp 18), true, false⟩,
    ⟨(.on 19 true), (some 20), .move (.tmp 0), false, false⟩,
    ⟨(.on 19 true), (some 21), .move (.tmp 5), false, false⟩,
    ⟨(.on 19 true), (some 22), .index 9 (.tmp 20) (.tmp 21), false, false⟩,
    ⟨(.on 19 true), (some 23), .call ⟨.value (.func 23), #[(.tmp 22)], #[5]⟩, false, false⟩,
    ⟨.yes, (some 24), .pick (.tmp 19) (.tmp 23) (.const (.bool false)), false, false⟩] [0, 2, 5, 24]) <|
  .cond (.tmp 24)
    (.skip)
    (.exit 0)) <|
  .block 1 <| .region [
      ⟨.yes, (some 25), .move (.tmp 5), true, false⟩,
      ⟨.yes, (some 26), .binOp .add 3 (.tmp 25) (.const (.int .i64 (1))) 3, false, false⟩,
      ⟨.yes, (some 5), .assign (.tmp 26), true, false⟩] [0, 2, 5]

def l24_1 : CC := .seq (.region [
    ⟨.yes, (some 50), .binOp .lss 3 (.tmp 49) (.tmp 48) 3, false, false⟩] [2, 5, 6, 47, 48, 49, 50]) <|
  .seq (.cond (.tmp 50)
    (.skip)
    (.exit 2)) <|
  .seq (.block 3 <| .seq (.region [
      ⟨.yes, (some 51), .indexAddr 38 (.tmp 47) (.tmp 49), false, false⟩,
      ⟨.yes, (some 52), .load 5 (.tmp 51), false, false⟩,
      ⟨.yes, (some 8), .assign (.tmp 52), true, false⟩] [2, 5, 6, 8, 47, 48, 49]) <|
    .seq (.region [
      ⟨.yes, (some 53), .move (.tmp 8), true, false⟩,
      ⟨.yes, (some 54), .binOp .sub 5 (.tmp 53) (.const (.int .u8 (48))) 5, false, false⟩,
      ⟨.yes, (some 55), .convert 5 3 (.tmp 54), false, false⟩,
      ⟨.yes, (some 9), .assign (.tmp 55), true, false⟩] [2, 5, 6, 9, 47, 48, 49]) <|
    .seq (.seq (.region [
      ⟨.yes, (some 56), .move (.tmp 6), false, false⟩,
      ⟨.yes, (some 57), .move (.tmp 9), false, false⟩,
      ⟨.yes, (some 58), .binOp .sub 3 (.const (.int .i64 (9223372036854775807))) (.tmp 57) 3, false, false⟩,
      ⟨.yes, (some 59), .binOp .quo 3 (.tmp 58) (.const (.int .i64 (10))) 3, false, false⟩,
      ⟨.yes, (some 60), .binOp .gtr 3 (.tmp 56) (.tmp 59) 3, false, false⟩] [2, 5, 6, 9, 47, 48, 49, 60]) <|
    .cond (.tmp 60)
      (.seq (.region [
        ⟨.yes, (some 61), .build 31 #[], false, false⟩,
        ⟨.yes, none, .store 31 (.tmp 2) (.tmp 61), true, false⟩,
        ⟨.yes, (some 3), .assign (.const (.int .i64 (0))), false, false⟩,
        ⟨.yes, (some 4), .assign (.const (.int .i64 (3))), false, false⟩] [2, 3, 4]) <|
      .ret)
      (.skip)) <|
    .region [
      ⟨.yes, (some 62), .move (.tmp 6), true, false⟩,
      ⟨.yes, (some 63), .binOp .mul 3 (.tmp 62) (.const (.int .i64 (10))) 3, false, false⟩,
      ⟨.yes, (some 64), .move (.tmp 9), true, false⟩,
      ⟨.yes, (some 65), .binOp .add 3 (.tmp 63) (.tmp 64) 3, false, false⟩,
      ⟨.yes, (some 6), .assign (.tmp 65), true, false⟩] [2, 5, 6, 47, 48, 49]) <|
  .region [
    ⟨.yes, (some 66), .binOp .add 3 (.tmp 49) (.const (.int .i64 (1))) 3, false, false⟩,
    ⟨.yes, (some 49), .move (.tmp 66), true, false⟩] [2, 5, 6, 47, 48, 49]

/-- rollbacknet/token.number -/
def c24 : CC := .seq (.region [
    ⟨.yes, (some 2), .alloc 31, false, false⟩,
    ⟨.yes, (some 3), .assign (.const (.int .i64 (0))), false, false⟩,
    ⟨.yes, (some 4), .assign (.const (.int .i64 (0))), false, false⟩] [0, 2]) <|
  .seq (.region [
    ⟨.yes, (some 5), .assign (.const (.int .i64 (1))), false, false⟩] [0, 2, 5]) <|
  .seq (.block 0 <| .loop l24_0) <|
  .seq (.seq (.region [
    ⟨.yes, (some 27), .move (.tmp 5), false, false⟩,
    ⟨.yes, (some 28), .move (.tmp 0), false, false⟩,
    ⟨.yes, (some 29), .call ⟨.builtin .len, #[(.tmp 28)], #[9]⟩, false, false⟩,
    ⟨.yes, (some 30), .binOp .lss 3 (.tmp 27) (.tmp 29) 3, false, false⟩,
    ⟨.yes, (some 31), .move (.tmp 30), true, false⟩,
    ⟨(.on 31 true), (some 32), .move (.tmp 0), false, false⟩,
    ⟨(.on 31 true), (some 33), .move (.tmp 5), false, false⟩,
    ⟨(.on 31 true), (some 34), .index 9 (.tmp 32) (.tmp 33), false, false⟩,
    ⟨(.on 31 true), (some 35), .call ⟨.value (.func 19), #[(.tmp 34)], #[5]⟩, false, false⟩,
    ⟨(.on 31 true), (some 36), .move (.tmp 35), true, false⟩,
    ⟨(.on 36 false), (some 37), .move (.tmp 0), false, false⟩,
    ⟨(.on 36 false), (some 38), .move (.tmp 5), false, false⟩,
    ⟨(.on 36 false), (some 39), .index 9 (.tmp 37) (.tmp 38), false, false⟩,
    ⟨(.on 36 false), (some 40), .call ⟨.value (.func 23), #[(.tmp 39)], #[5]⟩, false, false⟩,
    ⟨(.on 31 true), (some 41), .pick (.tmp 36) (.const (.bool true)) (.tmp 40), false, false⟩,
    ⟨.yes, (some 42), .pick (.tmp 31) (.tmp 41) (.const (.bool false)), false, false⟩] [0, 2, 5, 42]) <|
  .cond (.tmp 42)
    (.seq (.region [
      ⟨.yes, (some 43), .build 31 #[], false, false⟩,
      ⟨.yes, none, .store 31 (.tmp 2) (.tmp 43), true, false⟩,
      ⟨.yes, (some 3), .assign (.const (.int .i64 (0))), false, false⟩,
      ⟨.yes, (some 4), .assign (.const (.int .i64 (1))), false, false⟩] [2, 3, 4]) <|
    .ret)
    (.skip)) <|
  .seq (.region [
    ⟨.yes, (some 6), .assign (.const (.int .i64 (0))), false, false⟩] [0, 2, 5, 6]) <|
  .seq (.seq (.region [
    ⟨.yes, (some 44), .move (.tmp 0), true, false⟩,
    ⟨.yes, (some 45), .move (.tmp 5), false, false⟩,
    ⟨.yes, (some 46), .slice 9 (.tmp 44) none (some (.tmp 45)) none, false, false⟩,
    ⟨.yes, (some 47), .convert 9 38 (.tmp 46), false, false⟩,
    ⟨.yes, (some 48), .call ⟨.builtin .len, #[(.tmp 47)], #[38]⟩, false, false⟩,
    ⟨.yes, (some 49), .move (.const (.int .i64 (0))), false, false⟩] [2, 5, 6, 47, 48, 49]) <|
  .block 2 <| .loop l24_1) <|
  .seq (.region [
    ⟨.yes, (some 67), .move (.tmp 6), true, false⟩,
    ⟨.yes, (some 68), .build 31 #[(0, (.const (.int .i64 (2)))), (2, (.tmp 67))], true, false⟩,
    ⟨.yes, (some 69), .move (.tmp 5), true, false⟩,
    ⟨.yes, none, .store 31 (.tmp 2) (.tmp 68), true, false⟩,
    ⟨.yes, (some 3), .assign (.tmp 69), true, false⟩,
    ⟨.yes, (some 4), .assign (.const (.int .i64 (0))), false, false⟩] [2, 3, 4]) <|
  .ret

theorem c24_eq : ∃ c, Try.f24.body = some c ∧ compileCode (ann 24) c = c24 := ⟨_, rfl, by kernel_rfl⟩


/-- rollbacknet/token.sign -/
def c25 : CC := .seq (.region [
    ⟨.yes, (some 2), .assign (.const (.int .i64 (0))), false, false⟩] [0]) <|
  .seq (.region [
    ⟨.yes, (some 3), .assign (.const (.int .u8 (0))), false, false⟩] [0, 3]) <|
  .seq (.seq (.region [
    ⟨.yes, (some 4), .move (.tmp 0), false, false⟩,
    ⟨.yes, (some 5), .call ⟨.builtin .len, #[(.tmp 4)], #[9]⟩, false, false⟩,
    ⟨.yes, (some 6), .binOp .gtr 3 (.tmp 5) (.const (.int .i64 (1))) 3, false, false⟩] [0, 3, 6]) <|
  .cond (.tmp 6)
    (.region [
      ⟨.yes, (some 7), .move (.tmp 0), false, false⟩,
      ⟨.yes, (some 8), .index 9 (.tmp 7) (.const (.int .i64 (1))), false, false⟩,
      ⟨.yes, (some 3), .assign (.tmp 8), true, false⟩] [0, 3])
    (.skip)) <|
  .seq (.seq (.region [
    ⟨.yes, (some 9), .move (.tmp 0), false, false⟩,
    ⟨.yes, (some 10), .index 9 (.tmp 9) (.const (.int .i64 (0))), false, false⟩] [0, 3, 10]) <|
  .block 0 <| .seq (.block 3 <| .seq (.block 2 <| .seq (.block 1 <| .seq (.seq (.seq (.seq (.region [
            ⟨.yes, (some 12), .binOp .eql 5 (.tmp 10) (.const (.int .u8 (38))) 5, false, false⟩,
            ⟨.yes, (some 11), .assign (.tmp 12), true, false⟩] [0, 3, 10, 11]) <|
          .cond (.tmp 11)
            (.skip)
            (.region [
              ⟨.yes, (some 13), .binOp .eql 5 (.tmp 10) (.const (.int .u8 (124))) 5, false, false⟩,
              ⟨.yes, (some 11), .assign (.tmp 13), true, false⟩] [0, 3, 10, 11])) <|
          .cond (.tmp 11)
            (.exit 1)
            (.skip)) <|
          .seq (.seq (.seq (.region [
            ⟨.yes, (some 15), .binOp .eql 5 (.tmp 10) (.const (.int .u8 (61))) 5, false, false⟩,
            ⟨.yes, (some 14), .assign (.tmp 15), true, false⟩] [3, 10, 14]) <|
          .cond (.tmp 14)
            (.skip)
            (.seq (.region [
              ⟨.yes, (some 16), .binOp .eql 5 (.tmp 10) (.const (.int .u8 (33))) 5, false, false⟩,
              ⟨.yes, (some 14), .assign (.tmp 16), true, false⟩] [3, 10, 14]) <|
            .cond (.tmp 14)
              (.skip)
              (.seq (.region [
                ⟨.yes, (some 17), .binOp .eql 5 (.tmp 10) (.const (.int .u8 (60))) 5, false, false⟩,
                ⟨.yes, (some 14), .assign (.tmp 17), true, false⟩] [3, 10, 14]) <|
              .cond (.tmp 14)
                (.skip)
                (.region [
                  ⟨.yes, (some 18), .binOp .eql 5 (.tmp 10) (.const (.int .u8 (62))) 5, false, false⟩,
                  ⟨.yes, (some 14), .assign (.tmp 18), true, false⟩] [3, 10, 14])))) <|
          .cond (.tmp 14)
            (.exit 2)
            (.skip)) <|
          .seq (.seq (.region [
            ⟨.yes, (some 20), .binOp .eql 5 (.tmp 10) (.const (.int .u8 (40))) 5, false, false⟩,
            ⟨.yes, (some 19), .assign (.tmp 20), true, false⟩] [10, 19]) <|
          .cond (.tmp 19)
            (.skip)
            (.seq (.region [
              ⟨.yes, (some 21), .binOp .eql 5 (.tmp 10) (.const (.int .u8 (41))) 5, false, false⟩,
              ⟨.yes, (some 19), .assign (.tmp 21), true, false⟩] [10, 19]) <|
            .cond (.tmp 19)
              (.skip)
              (.seq (.region [
                ⟨.yes, (some 22), .binOp .eql 5 (.tmp 10) (.const (.int .u8 (123))) 5, false, false⟩,
                ⟨.yes, (some 19), .assign (.tmp 22), true, false⟩] [10, 19]) <|
              .cond (.tmp 19)
                (.skip)
                (.seq (.region [
                  ⟨.yes, (some 23), .binOp .eql 5 (.tmp 10) (.const (.int .u8 (125))) 5, false, false⟩,
                  ⟨.yes, (some 19), .assign (.tmp 23), true, false⟩] [10, 19]) <|
                .cond (.tmp 19)
                  (.skip)
                  (.seq (.region [
                    ⟨.yes, (some 24), .binOp .eql 5 (.tmp 10) (.const (.int .u8 (91))) 5, false, false⟩,
                    ⟨.yes, (some 19), .assign (.tmp 24), true, false⟩] [10, 19]) <|
                  .cond (.tmp 19)
                    (.skip)
                    (.seq (.region [
                      ⟨.yes, (some 25), .binOp .eql 5 (.tmp 10) (.const (.int .u8 (93))) 5, false, false⟩,
                      ⟨.yes, (some 19), .assign (.tmp 25), true, false⟩] [10, 19]) <|
                    .cond (.tmp 19)
                      (.skip)
                      (.seq (.region [
                        ⟨.yes, (some 26), .binOp .eql 5 (.tmp 10) (.const (.int .u8 (44))) 5, false, false⟩,
                        ⟨.yes, (some 19), .assign (.tmp 26), true, false⟩] [10, 19]) <|
                      .cond (.tmp 19)
                        (.skip)
                        (.seq (.region [
                          ⟨.yes, (some 27), .binOp .eql 5 (.tmp 10) (.const (.int .u8 (59))) 5, false, false⟩,
                          ⟨.yes, (some 19), .assign (.tmp 27), true, false⟩] [10, 19]) <|
                        .cond (.tmp 19)
                          (.skip)
                          (.seq (.region [
                            ⟨.yes, (some 28), .binOp .eql 5 (.tmp 10) (.const (.int .u8 (43))) 5, false, false⟩,
                            ⟨.yes, (some 19), .assign (.tmp 28), true, false⟩] [10, 19]) <|
                          .cond (.tmp 19)
                            (.skip)
                            (.seq (.region [
                              ⟨.yes, (some 29), .binOp .eql 5 (.tmp 10) (.const (.int .u8 (45))) 5, false, false⟩,
                              ⟨.yes, (some 19), .assign (.tmp 29), true, false⟩] [10, 19]) <|
                            .cond (.tmp 19)
                              (.skip)
                              (.seq (.region [
                                ⟨.yes, (some 30), .binOp .eql 5 (.tmp 10) (.const (.int .u8 (42))) 5, false, false⟩,
                                ⟨.yes, (some 19), .assign (.tmp 30), true, false⟩] [10, 19]) <|
                              .cond (.tmp 19)
                                (.skip)
                                (.seq (.region [
                                  ⟨.yes, (some 31), .binOp .eql 5 (.tmp 10) (.const (.int .u8 (47))) 5, false, false⟩,
                                  ⟨.yes, (some 19), .assign (.tmp 31), true, false⟩] [10, 19]) <|
                                .cond (.tmp 19)
                                  (.skip)
                                  (.region [
                                    ⟨.yes, (some 32), .binOp .eql 5 (.tmp 10) (.const (.int .u8 (37))) 5, false, false⟩,
                                    ⟨.yes, (some 19), .assign (.tmp 32), true, false⟩] [19]))))))))))))) <|
          .cond (.tmp 19)
            (.exit 3)
            (.skip)) <|
          .exit 0) <|
        .seq (.seq (.seq (.region [
          ⟨.yes, (some 33), .move (.tmp 3), true, false⟩,
          ⟨.yes, (some 34), .move (.tmp 0), true, false⟩,
          ⟨.yes, (some 35), .index 9 (.tmp 34) (.const (.int .i64 (0))), false, false⟩,
          ⟨.yes, (some 36), .binOp .eql 5 (.tmp 33) (.tmp 35) 5, false, false⟩] [36]) <|
        .cond (.tmp 36)
          (.seq (.region [
            ⟨.yes, (some 2), .assign (.const (.int .i64 (2))), false, false⟩] [2]) <|
          .ret)
          (.skip)) <|
        .seq (.region [
          ⟨.yes, (some 2), .assign (.const (.int .i64 (0))), false, false⟩] [2]) <|
        .ret) <|
        .exit 0) <|
      .seq (.region [
        ⟨.yes, (some 37), .move (.tmp 3), true, false⟩,
        ⟨.yes, (some 38), .binOp .eql 5 (.tmp 37) (.const (.int .u8 (61))) 5, false, false⟩] [38]) <|
      .cond (.tmp 38)
        (.seq (.region [
          ⟨.yes, (some 2), .assign (.const (.int .i64 (2))), false, false⟩] [2]) <|
        .ret)
        (.skip)) <|
    .seq (.seq (.region [
      ⟨.yes, (some 2), .assign (.const (.int .i64 (1))), false, false⟩] [2]) <|
    .ret) <|
    .exit 0) <|
  .seq (.region [
    ⟨.yes, (some 2), .assign (.const (.int .i64 (0))), false, false⟩] [2]) <|
  .ret

theorem c25_eq : ∃ c, Try.f25.body = some c ∧ compileCode (ann 25) c = c25 := ⟨_, rfl, by kernel_rfl⟩

def l26_0 : CC := .seq (.seq (.region [
    ⟨.yes, (some 7), .move (.tmp 5), false, false⟩,
    ⟨.yes, (some 8), .move (.tmp 0), false, false⟩,
    ⟨.yes, (some 9), .call ⟨.builtin .len, #[(.tmp 8)], #[9]⟩, false, false⟩,
    ⟨.yes, (some 10), .binOp .lss 3 (.tmp 7) (.tmp 9) 3, false, false⟩] [0, 4, 5, 10]) <|
  .cond (.tmp 10)
    (.skip)
    (.exit 0)) <|
  .seq (.block 1 <| .seq (.region [
      ⟨.yes, (some 13), .move (.tmp 0), false, false⟩,
      ⟨.yes, (some 14), .move (.tmp 5), false, false⟩,
      ⟨.yes, (some 15), .index 9 (.tmp 13) (.tmp 14), false, false⟩,
      ⟨.yes, (some 16), .binOp .sub 5 (.tmp 15) (.const (.int .u8 (48))) 5, false, false⟩,
      ⟨.yes, (some 17), .convert 5 3 (.tmp 16), false, false⟩,
      ⟨.yes, (some 6), .assign (.tmp 17), true, false⟩] [0, 4, 5, 6]) <|
    .seq (.seq (.region [
      ⟨.yes, (some 18), .move (.tmp 4), false, false⟩,
      ⟨.yes, (some 19), .move (.tmp 6), false, false⟩,
      ⟨.yes, (some 20), .binOp .sub 3 (.const (.int .i64 (9223372036854775807))) (.tmp 19) 3, false, false⟩,
      ⟨.yes, (some 21), .binOp .quo 3 (.tmp 20) (.const (.int .i64 (10))) 3, false, false⟩,
      ⟨.yes, (some 22), .binOp .gtr 3 (.tmp 18) (.tmp 21) 3, false, false⟩] [0, 4, 5, 6, 22]) <|
    .cond (.tmp 22)
      (.seq (.region [
        ⟨.yes, (some 2), .assign (.const (.int .i64 (0))), false, false⟩,
        ⟨.yes, (some 3), .assign (.const (.bool false)), false, false⟩] [2, 3]) <|
      .ret)
      (.skip)) <|
    .region [
      ⟨.yes, (some 23), .move (.tmp 4), true, false⟩,
      ⟨.yes, (some 24), .binOp .mul 3 (.const (.int .i64 (10))) (.tmp 23) 3, false, false⟩,
      ⟨.yes, (some 25), .move (.tmp 6), true, false⟩,
      ⟨.yes, (some 26), .binOp .add 3 (.tmp 24) (.tmp 25) 3, false, false⟩,
      ⟨.yes, (some 4), .assign (.tmp 26), true, false⟩] [0, 4, 5]) <|
  .region [
    ⟨.yes, (some 11), .move (.tmp 5), true, false⟩,
    ⟨.yes, (some 12), .binOp .add 3 (.tmp 11) (.const (.int .i64 (1))) 3, false, false⟩,
    ⟨.yes, (some 5), .assign (.tmp 12), true, false⟩] [0, 4, 5]

/-- rollbacknet/rollbacknetref01.number -/
def c26 : CC := .seq (.region [
    ⟨.yes, (some 2), .assign (.const (.int .i64 (0))), false, false⟩,
    ⟨.yes, (some 3), .assign (.const (.bool false)), false, false⟩] [0]) <|
  .seq (.region [
    ⟨.yes, (some 4), .assign (.const (.int .i64 (0))), false, false⟩] [0, 4]) <|
  .seq (.seq (.region [
    ⟨.yes, (some 5), .assign (.const (.int .i64 (0))), false, false⟩] [0, 4, 5]) <|
  .block 0 <| .loop l26_0) <|
  .seq (.region [
    ⟨.yes, (some 27), .move (.tmp 4), true, false⟩,
    ⟨.yes, (some 2), .assign (.tmp 27), true, false⟩,
    ⟨.yes, (some 3), .assign (.const (.bool true)), false, false⟩] [2, 3]) <|
  .ret

theorem c26_eq : ∃ c, Try.f26.body = some c ∧ compileCode (ann 26) c = c26 := ⟨_, rfl, by kernel_rfl⟩


/-- rollbacknet/rollbacknetref01.double -/
def c27 : CC := .seq (.region [
    ⟨.yes, (some 4), .assign (.const (.bool false)), false, false⟩] [0, 1]) <|
  .seq (.region [
    ⟨.yes, (some 5), .move (.tmp 1), false, false⟩,
    ⟨.yes, (some 6), .binOp .eql 5 (.tmp 5) (.const (.int .u8 (61))) 5, false, false⟩,
    ⟨.yes, (some 7), .move (.tmp 6), true, false⟩,
    ⟨(.on 7 true), (some 8), .move (.tmp 0), false, false⟩,
    ⟨(.on 7 true), (some 9), .binOp .eql 5 (.tmp 8) (.const (.int .u8 (61))) 5, false, false⟩,
    ⟨(.on 7 true), (some 10), .move (.tmp 9), true, false⟩,
    ⟨(.on 10 false), (some 11), .move (.tmp 0), false, false⟩,
    ⟨(.on 10 false), (some 12), .binOp .eql 5 (.tmp 11) (.const (.int .u8 (33))) 5, false, false⟩,
    ⟨(.on 7 true), (some 13), .pick (.tmp 10) (.const (.bool true)) (.tmp 12), false, false⟩,
    ⟨(.on 7 true), (some 14), .move (.tmp 13), true, false⟩,
    ⟨(.on 14 false), (some 15), .move (.tmp 0), false, false⟩,
    ⟨(.on 14 false), (some 16), .binOp .eql 5 (.tmp 15) (.const (.int .u8 (60))) 5, false, false⟩,
    ⟨(.on 7 true), (some 17), .pick (.tmp 14) (.const (.bool true)) (.tmp 16), false, false⟩,
    ⟨(.on 7 true), (some 18), .move (.tmp 17), true, false⟩,
    ⟨(.on 18 false), (some 19), .move (.tmp 0), false, false⟩,
    ⟨(.on 18 false), (some 20), .binOp .eql 5 (.tmp 19) (.const (.int .u8 (62))) 5, false, false⟩,
    ⟨(.on 7 true), (some 21), .pick (.tmp 18) (.const (.bool true)) (.tmp 20), false, false⟩,
    ⟨.yes, (some 22), .pick (.tmp 7) (.tmp 21) (.const (.bool false)), false, false⟩,
    ⟨.yes, (some 23), .move (.tmp 22), true, false⟩,
    ⟨(.on 23 false), (some 24), .move (.tmp 0), false, false⟩,
    ⟨(.on 23 false), (some 25), .binOp .eql 5 (.tmp 24) (.const (.int .u8 (38))) 5, false, false⟩,
    ⟨(.on 23 false), (some 26), .move (.tmp 25), true, false⟩,
    ⟨(.on 26 true), (some 27), .move (.tmp 1), false, false⟩,
    ⟨(.on 26 true), (some 28), .binOp .eql 5 (.tmp 27) (.const (.int .u8 (38))) 5, false, false⟩,
    ⟨(.on 23 false), (some 29), .pick (.tmp 26) (.tmp 28) (.const (.bool false)), false, false⟩,
    ⟨.yes, (some 30), .pick (.tmp 23) (.const (.bool true)) (.tmp 29), false, false⟩,
    ⟨.yes, (some 31), .move (.tmp 30), true, false⟩,
    ⟨(.on 31 false), (some 32), .move (.tmp 0), true, false⟩,
    ⟨(.on 31 false), (some 33), .binOp .eql 5 (.tmp 32) (.const (.int .u8 (124))) 5, false, false⟩,
    ⟨(.on 31 false), (some 34), .move (.tmp 33), true, false⟩,
    ⟨(.on 34 true), (some 35), .move (.tmp 1), true, false⟩,
    ⟨(.on 34 true), (some 36), .binOp .eql 5 (.tmp 35) (.const (.int .u8 (124))) 5, false, false⟩,
    ⟨(.on 31 false), (some 37), .pick (.tmp 34) (.tmp 36) (.const (.bool false)), false, false⟩,
    ⟨.yes, (some 38), .pick (.tmp 31) (.const (.bool true)) (.tmp 37), false, false⟩,
    ⟨.yes, (some 4), .assign (.tmp 38), true, false⟩] [4]) <|
  .ret

theorem c27_eq : ∃ c, Try.f27.body = some c ∧ compileCode (ann 27) c = c27 := ⟨_, rfl, by kernel_rfl⟩

def l28_0 : CC := .seq (.seq (.region [
    ⟨.yes, (some 4), .move (.tmp 3), false, false⟩,
    ⟨.yes, (some 5), .binOp .lss 3 (.tmp 4) (.const (.int .i64 (17))) 3, false, false⟩] [0, 3, 5]) <|
  .cond (.tmp 5)
    (.skip)
    (.exit 0)) <|
  .seq (.block 1 <| .seq (.region [
      ⟨.yes, (some 8), .move (.tmp 3), false, false⟩,
      ⟨.yes, (some 9), .index 9 (.const (.string ⟨#[40, 41, 123, 125, 91, 93, 44, 59, 61, 60, 62, 43, 45, 42, 47, 37, 33]⟩)) (.tmp 8), false, false⟩,
      ⟨.yes, (some 10), .move (.tmp 0), false, false⟩,
      ⟨.yes, (some 11), .binOp .eql 5 (.tmp 9) (.tmp 10) 5, false, false⟩] [0, 3, 11]) <|
    .cond (.tmp 11)
      (.seq (.region [
        ⟨.yes, (some 2), .assign (.const (.bool true)), false, false⟩] [2]) <|
      .ret)
      (.skip)) <|
  .region [
    ⟨.yes, (some 6), .move (.tmp 3), true, false⟩,
    ⟨.yes, (some 7), .binOp .add 3 (.tmp 6) (.const (.int .i64 (1))) 3, false, false⟩,
    ⟨.yes, (some 3), .assign (.tmp 7), true, false⟩] [0, 3]

/-- rollbacknet/rollbacknetref01.single -/
def c28 : CC := .seq (.region [
    ⟨.yes, (some 2), .assign (.const (.bool false)), false, false⟩] [0]) <|
  .seq (.seq (.region [
    ⟨.yes, (some 3), .assign (.const (.int .i64 (0))), false, false⟩] [0, 3]) <|
  .block 0 <| .loop l28_0) <|
  .seq (.region [
    ⟨.yes, (some 2), .assign (.const (.bool false)), false, false⟩] [2]) <|
  .ret

theorem c28_eq : ∃ c, Try.f28.body = some c ∧ compileCode (ann 28) c = c28 := ⟨_, rfl, by kernel_rfl⟩

end Go.AI.T3
