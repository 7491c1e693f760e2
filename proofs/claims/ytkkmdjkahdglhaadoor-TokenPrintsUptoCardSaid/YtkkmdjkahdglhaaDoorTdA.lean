/- The code of the token functions, and their small ones in sum. -/
import Derived.Test.YtkkmdjkahdglhaaDoorProg
import Derived.Test.YtkkmdjkahdglhaaDoorAxPoke
import Derived.Lib.LaidTab
import Derived.Shelf.Strconv.Itoa1
import Derived.KernelRfl
namespace Go.AI.TD
open Go Go.Proofs
set_option maxRecDepth 10000
set_option linter.unusedVariables false
set_option linter.unusedSimpArgs false

/-- The laid variable: the powers of ten. -/
def gl : Nat → Option DV
  | 0 => some (.agg (Lib.pow10Tab.map fun n => .int .u64 n))
  | _ => none

structure Tok where
  kind : Int
  text : List UInt8
  value : Int
  pos : Int
  deriving DecidableEq
def encTok (t : Tok) : DV := .agg [.int .i64 t.kind, .str t.text, .int .i64 t.value, .int .i64 t.pos]
def unTok : DV → Option Tok
  | .agg [.int .i64 k, .str t, .int .i64 v, .int .i64 a] => some ⟨k, t, v, a⟩
  | _ => none
theorem unTok_enc (t : Tok) : unTok (encTok t) = some t := rfl
theorem unTok_ok : ∀ x y, unTok x = some y → x = encTok y := by
  intro x y h
  unfold unTok at h
  split at h
  · obtain rfl := Option.some.inj h; rfl
  · simp at h
def tokView : View := ⟨Tok, unTok, encTok, unTok_ok⟩
theorem enc_cells (t : Tok) : (encTok t).cells.length = 4 := rfl

def tab : List (Nat × List (Nat × RA)) := [
  (11, [(0, ⟨[], [], [0]⟩), (1, ⟨[], [], [0, 13]⟩), (2, ⟨[], [], [2, 3, 4]⟩), (3, ⟨[], [], [0, 5]⟩), (4, ⟨[], [], [0, 5, 6]⟩), (5, ⟨[], [], [0, 5, 6, 17]⟩), (6, ⟨[3], [], [0, 5, 6, 7]⟩), (7, ⟨[2, 6, 10, 14], [], [0, 5, 6, 7, 21]⟩), (8, ⟨[0, 2], [], [0, 5, 6]⟩), (9, ⟨[0, 2], [], [0, 5, 6, 38]⟩), (10, ⟨[4], [], [0, 5, 6, 50]⟩), (11, ⟨[0, 2], [], [0, 5, 6]⟩), (12, ⟨[4, 9, 10, 11], [], [0, 5, 6, 8, 9, 10]⟩), (13, ⟨[], [], [0, 5, 6, 8, 9, 10, 62]⟩), (14, ⟨[0, 1, 3, 4], [], [2, 3, 4]⟩), (15, ⟨[2], [], [0, 5, 6, 8, 9]⟩), (16, ⟨[0, 3, 4], [], [0, 5, 6, 9]⟩), (17, ⟨[0, 1, 3], [], [0, 5, 6]⟩), (18, ⟨[0, 1], [], [2, 3, 4]⟩)]),
  (22, [(0, ⟨[], [], [0, 2]⟩), (1, ⟨[3], [], [0, 2, 7]⟩), (2, ⟨[2], [], [0, 2, 5]⟩), (3, ⟨[], [], [0, 2, 5, 14]⟩), (4, ⟨[1], [], [2, 3, 4]⟩), (5, ⟨[0, 3, 4, 5, 6], [], [2, 3, 4]⟩), (6, ⟨[3], [], [0, 2, 21]⟩), (7, ⟨[0, 5, 6, 7], [], [2, 3, 4]⟩), (8, ⟨[2], [], [0, 2, 6]⟩), (9, ⟨[], [], [0, 2, 6, 33]⟩), (10, ⟨[1], [], [2, 3, 4]⟩), (11, ⟨[0, 3, 4, 5, 6], [], [2, 3, 4]⟩)]),
  (26, [(0, ⟨[], [], [0]⟩), (1, ⟨[2, 6, 9, 14, 15, 18], [], [2]⟩)]),
  (27, [(0, ⟨[], [], [0]⟩), (1, ⟨[], [], [0, 3]⟩), (2, ⟨[4, 9], [], [0, 3, 19]⟩), (3, ⟨[0, 2], [], [0, 3]⟩), (4, ⟨[0, 1], [], [2]⟩)]),
  (28, [(0, ⟨[], [], [0]⟩), (1, ⟨[2, 3, 6], [], [2]⟩)]),
  (29, [(0, ⟨[], [], [0, 2]⟩), (1, ⟨[], [], [0, 2, 5]⟩), (2, ⟨[3, 9], [], [0, 2, 5, 24]⟩), (3, ⟨[0, 2], [], [0, 2, 5]⟩), (4, ⟨[4, 9], [], [0, 2, 5, 42]⟩), (5, ⟨[1], [], [2, 3, 4]⟩), (6, ⟨[], [], [0, 2, 5, 6]⟩), (7, ⟨[0], [], [2, 5, 6, 47, 48, 49]⟩), (8, ⟨[], [], [2, 5, 6, 47, 48, 49, 50]⟩), (9, ⟨[2], [], [2, 5, 6, 8, 47, 48, 49]⟩), (10, ⟨[0, 3], [], [2, 5, 6, 9, 47, 48, 49]⟩), (11, ⟨[], [], [2, 5, 6, 9, 47, 48, 49, 60]⟩), (12, ⟨[1], [], [2, 3, 4]⟩), (13, ⟨[0, 2, 4], [], [2, 5, 6, 47, 48, 49]⟩), (14, ⟨[1], [], [2, 5, 6, 47, 48, 49]⟩), (15, ⟨[0, 1, 2, 3, 4], [], [2, 3, 4]⟩)]),
  (30, [(0, ⟨[], [], [0]⟩), (1, ⟨[], [], [0, 3]⟩), (2, ⟨[], [], [0, 3, 6]⟩), (3, ⟨[2], [], [0, 3]⟩), (4, ⟨[], [], [0, 3, 10]⟩), (5, ⟨[1], [], [0, 3, 10, 11]⟩), (6, ⟨[1], [], [0, 3, 10, 11]⟩), (7, ⟨[1], [], [3, 10, 14]⟩), (8, ⟨[1], [], [3, 10, 14]⟩), (9, ⟨[1], [], [3, 10, 14]⟩), (10, ⟨[1], [], [3, 10, 14]⟩), (11, ⟨[1], [], [10, 19]⟩), (12, ⟨[1], [], [10, 19]⟩), (13, ⟨[1], [], [10, 19]⟩), (14, ⟨[1], [], [10, 19]⟩), (15, ⟨[1], [], [10, 19]⟩), (16, ⟨[1], [], [10, 19]⟩), (17, ⟨[1], [], [10, 19]⟩), (18, ⟨[1], [], [10, 19]⟩), (19, ⟨[1], [], [10, 19]⟩), (20, ⟨[1], [], [10, 19]⟩), (21, ⟨[1], [], [10, 19]⟩), (22, ⟨[1], [], [10, 19]⟩), (23, ⟨[1], [], [19]⟩), (24, ⟨[0, 1], [], [36]⟩), (25, ⟨[], [], [2]⟩), (26, ⟨[], [], [2]⟩), (27, ⟨[0], [], [38]⟩), (28, ⟨[], [], [2]⟩), (29, ⟨[], [], [2]⟩), (30, ⟨[], [], [2]⟩)]),
  (9, [(0, ⟨[], [], [0]⟩), (1, ⟨[], [0], [0, 3]⟩), (2, ⟨[0], [], [3, 6, 7, 8]⟩), (3, ⟨[], [], [3, 6, 7, 8, 9]⟩), (4, ⟨[4, 5], [], [3, 4, 5, 6, 7, 8]⟩), (5, ⟨[0], [], [3, 5, 6, 7, 8, 14]⟩), (6, ⟨[], [], [3, 5, 6, 7, 8]⟩), (7, ⟨[], [], [3, 5, 6, 7, 8, 17]⟩), (8, ⟨[1], [], [3, 5, 6, 7, 8, 17, 18]⟩), (9, ⟨[1], [], [3, 5, 6, 7, 8, 17, 18]⟩), (10, ⟨[], [], [3, 6, 7, 8]⟩), (11, ⟨[1], [], [3, 5, 6, 7, 8, 24]⟩), (12, ⟨[], [], [3, 6, 7, 8]⟩), (13, ⟨[1], [], [3, 6, 7, 8]⟩), (14, ⟨[1], [], [2]⟩)]),
  (16, [(0, ⟨[], [], [0, 1]⟩), (1, ⟨[], [], [0, 1, 9]⟩), (2, ⟨[], [], [4]⟩), (3, ⟨[], [], [0, 1, 5]⟩), (4, ⟨[], [], [0, 1, 5, 13]⟩), (5, ⟨[0, 2], [], [0, 1, 5]⟩), (6, ⟨[], [], [0, 1, 5, 26]⟩), (7, ⟨[], [], [4]⟩), (8, ⟨[], [], [4]⟩)]),
  (21, [(0, ⟨[], [], [0]⟩), (1, ⟨[], [], [0, 5]⟩), (2, ⟨[], [], [2]⟩), (3, ⟨[], [], [0, 3]⟩), (4, ⟨[], [], [0, 3, 7]⟩), (5, ⟨[6, 8], [], [0, 3]⟩), (6, ⟨[0, 2], [], [0, 3]⟩), (7, ⟨[0, 1], [], [2]⟩)]),
  (12, [(0, ⟨[], [], [0, 1]⟩), (1, ⟨[], [], [0, 1, 10]⟩), (2, ⟨[], [], [4]⟩), (3, ⟨[], [], [0, 1, 5]⟩), (4, ⟨[], [], [0, 1, 5, 14]⟩), (5, ⟨[0, 2], [], [0, 1, 5]⟩), (6, ⟨[11, 24], [], [0, 1, 5, 53]⟩), (7, ⟨[], [], [4]⟩), (8, ⟨[], [], [4]⟩)]),
  (10, [(0, ⟨[], [], [0]⟩), (1, ⟨[], [], [0, 3]⟩), (2, ⟨[], [], [0, 3, 4]⟩), (3, ⟨[], [], [0, 3, 4, 8]⟩), (4, ⟨[0, 2], [], [0, 3, 4]⟩), (5, ⟨[], [], [0, 3, 4, 12]⟩), (6, ⟨[0, 2], [], [0, 3, 4]⟩), (7, ⟨[], [], [0, 3, 4, 19]⟩), (8, ⟨[1], [], [0, 3, 4, 19, 20]⟩), (9, ⟨[1], [], [0, 3, 4, 19, 20]⟩), (10, ⟨[0, 7], [], [0, 3, 4]⟩), (11, ⟨[1], [], [0, 3, 4, 30]⟩), (12, ⟨[0, 8], [], [0, 3, 4]⟩), (13, ⟨[0, 1], [], [2]⟩)]),
  (3, [(0, ⟨[], [], [0]⟩), (1, ⟨[], [], [0, 4]⟩), (2, ⟨[], [], [2]⟩), (3, ⟨[], [], [0, 7]⟩), (4, ⟨[], [], [2]⟩), (5, ⟨[2, 5], [], [2]⟩)]),
  (4, [(0, ⟨[], [], [0]⟩), (1, ⟨[], [], [0, 10]⟩), (2, ⟨[], [], [2]⟩), (3, ⟨[0, 2, 6, 7, 8], [], [3, 5]⟩), (4, ⟨[2], [], [3, 5, 24]⟩), (5, ⟨[0, 3, 4, 7], [], [2]⟩), (6, ⟨[3, 7, 8, 9], [], [3, 6, 8]⟩), (7, ⟨[0, 2, 3, 4, 7], [], [2]⟩)]),
  (5, [(0, ⟨[], [], [0, 1]⟩), (1, ⟨[], [], [0, 1, 16]⟩), (2, ⟨[], [], [4]⟩), (3, ⟨[2, 6, 7, 8], [], [0, 1, 5, 7]⟩), (4, ⟨[0, 2, 3], [], [1, 5, 29]⟩), (5, ⟨[], [], [4]⟩), (6, ⟨[0, 2], [], [5, 8]⟩), (7, ⟨[1], [], [5, 8, 9]⟩), (8, ⟨[5], [], [5, 8, 9, 10]⟩), (9, ⟨[], [], [5, 8, 9, 10, 39, 40]⟩), (10, ⟨[], [], [5, 8, 9, 10, 39, 40, 41]⟩), (11, ⟨[1], [], [5, 8, 9, 10, 11, 39, 40]⟩), (12, ⟨[0, 3, 14], [], [5, 8, 9, 10, 39, 40]⟩), (13, ⟨[1], [], [5, 8, 9, 10, 39, 40]⟩), (14, ⟨[0, 2, 6, 7, 8], [], [5, 12, 14]⟩), (15, ⟨[0, 2, 3, 4, 7], [], [4]⟩)]),
  (6, [(0, ⟨[], [], [0]⟩), (1, ⟨[], [], [0, 10]⟩), (2, ⟨[], [], [2]⟩), (3, ⟨[2, 6, 7, 8], [], [0, 3, 4, 5]⟩), (4, ⟨[0], [], [0, 3, 4, 18]⟩), (5, ⟨[0, 3, 7, 8, 9, 13], [], [2]⟩), (6, ⟨[], [], [0, 3, 6]⟩), (7, ⟨[], [], [0, 3, 6, 33, 34]⟩), (8, ⟨[], [], [0, 3, 6, 33, 34, 35]⟩), (9, ⟨[1], [], [0, 3, 6, 7, 33, 34]⟩), (10, ⟨[6], [], [0, 3, 6, 7, 8, 33, 34]⟩), (11, ⟨[5, 7, 20, 25], [], [0, 3, 7, 8, 33, 34, 86]⟩), (12, ⟨[], [], [2]⟩), (13, ⟨[1, 5, 8], [], [0, 3, 6, 33, 34]⟩), (14, ⟨[1], [], [0, 3, 6, 33, 34]⟩), (15, ⟨[], [], [2]⟩)]),
  (7, [(0, ⟨[], [], [0, 1]⟩), (1, ⟨[], [], [0, 1, 17]⟩), (2, ⟨[], [], [4]⟩), (3, ⟨[2, 6, 7, 8], [], [0, 1, 5, 7]⟩), (4, ⟨[0, 2], [], [0, 1, 5, 30]⟩), (5, ⟨[], [], [4]⟩), (6, ⟨[0, 4], [], [0, 5, 8]⟩), (7, ⟨[6], [], [0, 5, 8, 50]⟩), (8, ⟨[], [], [4]⟩), (9, ⟨[8, 12, 13, 14], [], [0, 5, 8, 9, 11]⟩), (10, ⟨[13], [], [0, 5, 8, 9, 11, 12]⟩), (11, ⟨[1, 2, 7, 11, 12, 13], [], [5, 8, 9, 11, 13, 15]⟩), (12, ⟨[0, 2, 3, 6, 7, 13, 14, 15, 16, 21], [], [4]⟩)]),
  (8, [(0, ⟨[], [], []⟩), (1, ⟨[1, 5, 6, 7], [], [1, 3]⟩), (2, ⟨[0, 2, 7, 14, 15, 21], [], [0]⟩)]),
  (13, [(0, ⟨[], [], [0, 1]⟩), (1, ⟨[], [], [0, 1, 8]⟩), (2, ⟨[0, 1, 3], [], [0]⟩), (3, ⟨[0, 1, 2], [2], [4, 14]⟩)]),
  (15, [(0, ⟨[], [], [0, 1]⟩), (1, ⟨[0, 3], [], [0, 1]⟩), (2, ⟨[], [], [0, 1, 9]⟩), (3, ⟨[0, 1, 3], [], [0]⟩), (4, ⟨[0, 1], [], [4]⟩)]),
  (14, [(0, ⟨[], [], [0, 1]⟩), (1, ⟨[], [], [0, 1, 7]⟩), (2, ⟨[], [], [4]⟩), (3, ⟨[7], [], [0, 1]⟩), (4, ⟨[12, 14], [], [4]⟩)]),
  (23, [(0, ⟨[], [], [0]⟩), (1, ⟨[10], [], [2]⟩)]),
  (19, [(0, ⟨[], [], [0]⟩), (1, ⟨[0, 2], [], [2]⟩)])]

def ann : FuncId → Ann := annOf tab

def iso (f : Nat) : Bool := [11, 22, 26, 27, 28, 29, 30, 9, 16, 21, 12, 10, 3, 4, 5, 6, 7, 8, 15, 19].contains f

def vwl : List (Nat × View) := [(2, (View.int .i64)), (3, (View.int .i64)), (4, View.bool), (5, (View.int .u8)), (6, (View.int .u8)), (9, View.str), (10, View.str), (11, View.str), (12, (View.int .u64)), (21, (View.int .i32)), (22, (View.sl 4)), (26, (View.int .i64)), (31, (View.sl 1)), (34, (View.sl 1)), (38, tokView), (62, (View.int .u64)), (69, (View.int .u32)), (72, (View.int .u64)), (83, (View.int .u8)), (84, (View.int .u8)), (86, (View.int .i32)), (87, (View.int .i32))]

def vw (t : Nat) : View := lookA View.any vwl t


theorem base : Base Tryd.prog tab := ⟨progOK_of (by kernel_rfl), by kernel_rfl, by kernel_rfl⟩

def isLetter (c : Int) : Bool := decide (97 ≤ c ∧ c ≤ 122) || decide (65 ≤ c ∧ c ≤ 90) || decide (c = 95)
def isDigit (c : Int) : Bool := decide (48 ≤ c ∧ c ≤ 57)

def letterT : FT
  | [.d (.int .u8 c)], [] => .leaf (.d (.bool (isLetter c)), [])
  | _, _ => .fail

def digitT : FT
  | [.d (.int .u8 c)], [] => .leaf (.d (.bool (isDigit c)), [])
  | _, _ => .fail

noncomputable abbrev X0 : TX := ⟨Tryd.prog, tbl [], iso, gl, vw⟩

theorem xok_X0 (f : Nat) : XOK X0 (ann f) gl := XOK.of base (l := []) trivial f

/-- rollbacknet/token.letter -/
def c_letter : CC := .seq (.region [
    ⟨.yes, (some 2), .assign (.const (.bool false)), false, false, []⟩] [0]) <|
  .seq (.region [
    ⟨.yes, (some 3), .move (.tmp 0), false, false, []⟩,
    ⟨.yes, (some 4), .binOp .leq 5 (.const (.int .u8 (97))) (.tmp 3) 5, false, false, []⟩,
    ⟨.yes, (some 5), .move (.tmp 4), true, false, []⟩,
    ⟨(.on 5 true), (some 6), .move (.tmp 0), false, false, []⟩,
    ⟨(.on 5 true), (some 7), .binOp .leq 5 (.tmp 6) (.const (.int .u8 (122))) 5, false, false, []⟩,
    ⟨.yes, (some 8), .pick (.tmp 5) (.tmp 7) (.const (.bool false)), false, false, []⟩,
    ⟨.yes, (some 9), .move (.tmp 8), true, false, []⟩,
    ⟨(.on 9 false), (some 10), .move (.tmp 0), false, false, []⟩,
    ⟨(.on 9 false), (some 11), .binOp .leq 5 (.const (.int .u8 (65))) (.tmp 10) 5, false, false, []⟩,
    ⟨(.on 9 false), (some 12), .move (.tmp 11), true, false, []⟩,
    ⟨(.on 12 true), (some 13), .move (.tmp 0), false, false, []⟩,
    ⟨(.on 12 true), (some 14), .binOp .leq 5 (.tmp 13) (.const (.int .u8 (90))) 5, false, false, []⟩,
    ⟨(.on 9 false), (some 15), .pick (.tmp 12) (.tmp 14) (.const (.bool false)), false, false, []⟩,
    ⟨.yes, (some 16), .pick (.tmp 9) (.const (.bool true)) (.tmp 15), false, false, []⟩,
    ⟨.yes, (some 17), .move (.tmp 16), true, false, []⟩,
    ⟨(.on 17 false), (some 18), .move (.tmp 0), true, false, []⟩,
    ⟨(.on 17 false), (some 19), .binOp .eql 5 (.tmp 18) (.const (.int .u8 (95))) 5, false, false, []⟩,
    ⟨.yes, (some 20), .pick (.tmp 17) (.const (.bool true)) (.tmp 19), false, false, []⟩,
    ⟨.yes, (some 2), .assign (.tmp 20), true, false, []⟩] [2]) <|
  .ret

theorem c_letter_eq : ∃ c, Tryd.f26.body = some c ∧ codeOK Tryd.f26.ntmps c = true ∧ comp Tryd.prog (ann 26) c = erase c_letter := ⟨_, rfl, by kernel_rfl, by kernel_rfl⟩

theorem tree_letter (c : Int) : fnT X0 c_letter Tryd.f26.results.toList [.d (.int .u8 c)] [] = (
    .br (decide ((97 : Int) ≤ c))
 (.br (decide (c ≤ 122))
 (.leaf (.d (.bool true), []))
 (.br (decide ((65 : Int) ≤ c))
 (.br (decide (c ≤ 90))
 (.leaf (.d (.bool true), []))
 (.leaf (.d (.bool (decide (c = 95))), [])))
 (.leaf (.d (.bool (decide (c = 95))), []))))
 (.br (decide ((65 : Int) ≤ c))
 (.br (decide (c ≤ 90))
 (.leaf (.d (.bool true), []))
 (.leaf (.d (.bool (decide (c = 95))), [])))
 (.leaf (.d (.bool (decide (c = 95))), []))) : Tr (AV × Hp)) := by kernel_rfl

theorem ok_letter : FnOK Tryd.prog gl 26 letterT := by
  refine fn_of (X := X0) (xok_X0 26) Tryd.func26 c_letter_eq (by kernel_rfl) (by simp only [Sums, c_letter, and_true]) ?_
  intro xs H o h
  unfold letterT at h
  split at h
  · rw [tree_letter]
    obtain rfl := Tr.leaf_some h
    simp only [Tr.run_br, Tr.run_leaf, decide_eq_true_eq, isLetter, isDigit]
    repeat' split
    all_goals (simp; try omega)
  · exact Tr.fail_some h

/-- rollbacknet/token.digit -/
def c_digit : CC := .seq (.region [
    ⟨.yes, (some 2), .assign (.const (.bool false)), false, false, []⟩] [0]) <|
  .seq (.region [
    ⟨.yes, (some 3), .move (.tmp 0), false, false, []⟩,
    ⟨.yes, (some 4), .binOp .leq 5 (.const (.int .u8 (48))) (.tmp 3) 5, false, false, []⟩,
    ⟨.yes, (some 5), .move (.tmp 4), true, false, []⟩,
    ⟨(.on 5 true), (some 6), .move (.tmp 0), true, false, []⟩,
    ⟨(.on 5 true), (some 7), .binOp .leq 5 (.tmp 6) (.const (.int .u8 (57))) 5, false, false, []⟩,
    ⟨.yes, (some 8), .pick (.tmp 5) (.tmp 7) (.const (.bool false)), false, false, []⟩,
    ⟨.yes, (some 2), .assign (.tmp 8), true, false, []⟩] [2]) <|
  .ret

theorem c_digit_eq : ∃ c, Tryd.f28.body = some c ∧ codeOK Tryd.f28.ntmps c = true ∧ comp Tryd.prog (ann 28) c = erase c_digit := ⟨_, rfl, by kernel_rfl, by kernel_rfl⟩

theorem tree_digit (c : Int) : fnT X0 c_digit Tryd.f28.results.toList [.d (.int .u8 c)] [] = (
    .br (decide ((48 : Int) ≤ c))
 (.leaf (.d (.bool (decide (c ≤ 57))), []))
 (.leaf (.d (.bool false), [])) : Tr (AV × Hp)) := by kernel_rfl

theorem ok_digit : FnOK Tryd.prog gl 28 digitT := by
  refine fn_of (X := X0) (xok_X0 28) Tryd.func28 c_digit_eq (by kernel_rfl) (by simp only [Sums, c_digit, and_true]) ?_
  intro xs H o h
  unfold digitT at h
  split at h
  · rw [tree_digit]
    obtain rfl := Tr.leaf_some h
    simp only [Tr.run_br, Tr.run_leaf, decide_eq_true_eq, isLetter, isDigit]
    repeat' split
    all_goals (simp; try omega)
  · exact Tr.fail_some h

end Go.AI.TD

/- token.run, token.number, token.sign, token.one, in sum. -/
namespace Go.AI.TD
open Go Go.Proofs
set_option maxRecDepth 10000
set_option linter.unusedVariables false
set_option linter.unusedSimpArgs false


def big : Int := 140737488351232

def isDig (b : UInt8) : Bool := isDigit (b.toNat : Int)
def isLet (b : UInt8) : Bool := isLetter (b.toNat : Int)
def isWord (b : UInt8) : Bool := isLet b || isDig b

/-- How many signs at the head of a text meet p. -/
def pre (p : UInt8 → Bool) (s : List UInt8) : Nat := (s.takeWhile p).length

theorem pre_le (p : UInt8 → Bool) (s : List UInt8) : pre p s ≤ s.length := (List.takeWhile_sublist _).length_le
theorem pre_nil (p : UInt8 → Bool) : pre p [] = 0 := rfl
theorem pre_yes {p : UInt8 → Bool} {c : UInt8} {s : List UInt8} (h : p c = true) : pre p (c :: s) = pre p s + 1 := by simp [pre, List.takeWhile_cons, h]
theorem pre_no {p : UInt8 → Bool} {c : UInt8} {s : List UInt8} (h : p c = false) : pre p (c :: s) = 0 := by simp [pre, List.takeWhile_cons, h]

theorem drop_at {s : List UInt8} {n : Nat} {b : UInt8} (h : s[n]? = some b) : s.drop n = b :: s.drop (n + 1) := by
  have hl := (List.getElem?_eq_some_iff.1 h).1
  rw [List.drop_eq_getElem_cons hl]; congr 1; exact (List.getElem?_eq_some_iff.1 h).2
theorem at_len {α : Type} {s : List α} {n : Nat} {b : α} (h : s[n]? = some b) : n < s.length := (List.getElem?_eq_some_iff.1 h).1

theorem pre_at_yes {p : UInt8 → Bool} {s : List UInt8} {n : Nat} {b : UInt8} (h : s[n]? = some b) (hp : p b = true) : pre p (s.drop n) = pre p (s.drop (n + 1)) + 1 := by rw [drop_at h, pre_yes hp]
theorem pre_at_no {p : UInt8 → Bool} {s : List UInt8} {n : Nat} {b : UInt8} (h : s[n]? = some b) (hp : p b = false) : pre p (s.drop n) = 0 := by rw [drop_at h, pre_no hp]

/-- Addition that stays in the machine's range. -/
theorem wrap_in {n : Int} (h0 : -9223372036854775808 ≤ n) (h1 : n ≤ 9223372036854775807) : IntKind.i64.wrap n = n := by
  simp [IntKind.wrap, IntKind.bits, IntKind.signed, IntKind.max]
  omega
def L_run_0 : ST → Tr (Ex × ST)
  | ⟨[(0, .d (.str s)), (3, .d (.int .i64 n))], []⟩ => .br (decide (0 ≤ n ∧ n ≤ s.length ∧ (s.length : Int) ≤ big)) (.leaf ((.ext 0), ⟨[(3, .d (.int .i64 (n + (pre isWord (s.drop n.toNat) : Int))))], []⟩)) .fail
  | _ => .fail

def runT : FT
  | [.d (.str s)], [] => .br (decide ((s.length : Int) ≤ big)) (.leaf (.d (.int .i64 (pre isWord s : Int)), [])) .fail
  | _, _ => .fail

noncomputable abbrev Xrun : TX := ⟨Tryd.prog, tbl [(26, letterT), (28, digitT)], iso, gl, vw⟩

theorem xok_Xrun (f : Nat) : XOK Xrun (ann f) gl := XOK.of base (l := [(26, letterT), (28, digitT)]) ⟨ok_letter, ok_digit, trivial⟩ f

def l_run_0 : CC := .seq (.seq (.region [
    ⟨.yes, (some 4), .move (.tmp 3), false, false, []⟩,
    ⟨.yes, (some 5), .move (.tmp 0), false, false, []⟩,
    ⟨.yes, (some 6), .call ⟨.builtin .len, #[(.tmp 5)], #[9]⟩, false, false, []⟩,
    ⟨.yes, (some 7), .binOp .lss 3 (.tmp 4) (.tmp 6) 3, false, false, []⟩,
    ⟨.yes, (some 8), .move (.tmp 7), true, false, []⟩,
    ⟨(.on 8 true), (some 9), .move (.tmp 0), false, false, []⟩,
    ⟨(.on 8 true), (some 10), .move (.tmp 3), false, false, []⟩,
    ⟨(.on 8 true), (some 11), .index 9 (.tmp 9) (.tmp 10), false, false, []⟩,
    ⟨(.on 8 true), (some 12), .call ⟨.value (.func 26), #[(.tmp 11)], #[5]⟩, false, false, []⟩,
    ⟨(.on 8 true), (some 13), .move (.tmp 12), true, false, []⟩,
    ⟨(.on 13 false), (some 14), .move (.tmp 0), false, false, []⟩,
    ⟨(.on 13 false), (some 15), .move (.tmp 3), false, false, []⟩,
    ⟨(.on 13 false), (some 16), .index 9 (.tmp 14) (.tmp 15), false, false, []⟩,
    ⟨(.on 13 false), (some 17), .call ⟨.value (.func 28), #[(.tmp 16)], #[5]⟩, false, false, []⟩,
    ⟨(.on 8 true), (some 18), .pick (.tmp 13) (.const (.bool true)) (.tmp 17), false, false, []⟩,
    ⟨.yes, (some 19), .pick (.tmp 8) (.tmp 18) (.const (.bool false)), false, false, []⟩] [0, 3, 19]) <|
  .cond (.tmp 19)
    (.skip)
    (.exit 0)) <|
  .block 1 <| .region [
    ⟨.yes, (some 20), .move (.tmp 3), true, false, []⟩,
    ⟨.yes, (some 21), .binOp .add 3 (.tmp 20) (.const (.int .i64 (1))) 3, false, false, []⟩,
    ⟨.yes, (some 3), .assign (.tmp 21), true, false, []⟩] [0, 3]

/-- rollbacknet/token.run -/
def c_run : CC := .seq (.region [
    ⟨.yes, (some 2), .assign (.const (.int .i64 (0))), false, false, []⟩] [0]) <|
  .seq (.region [
    ⟨.yes, (some 3), .assign (.const (.int .i64 (0))), false, false, []⟩] [0, 3]) <|
  .seq (.block 0 <| .keep [0, 3] <| .sum L_run_0 (.loop l_run_0)) <|
  .seq (.region [
    ⟨.yes, (some 22), .move (.tmp 3), true, false, []⟩,
    ⟨.yes, (some 2), .assign (.tmp 22), true, false, []⟩] [2]) <|
  .ret

theorem c_run_eq : ∃ c, Tryd.f27.body = some c ∧ codeOK Tryd.f27.ntmps c = true ∧ comp Tryd.prog (ann 27) c = erase c_run := ⟨_, rfl, by kernel_rfl, by kernel_rfl⟩

theorem body_run_0 (s : List UInt8) (n : Int) : bodyT Xrun [0, 3] [2] [(0, [3])] l_run_0 ⟨[(0, .d (.str s)), (3, .d (.int .i64 n))], []⟩ = (
    .br (decide (n < (s.length : Int)))
 (.br (decide ((0 : Int) ≤ n))
 (.opt (s[(Int.toNat n)]?) fun b1 => .br (isLetter (b1.toNat : Int))
 (.leaf (.nrm, ⟨[(0, .d (.str s)), (3, .d (.int .i64 (IntKind.i64.wrap (n + 1))))], []⟩))
 (.br (decide ((0 : Int) ≤ n))
 (.opt (s[(Int.toNat n)]?) fun b2 => .br (isDigit (b2.toNat : Int))
 (.leaf (.nrm, ⟨[(0, .d (.str s)), (3, .d (.int .i64 (IntKind.i64.wrap (n + 1))))], []⟩))
 (.leaf ((.ext 0), ⟨[(3, .d (.int .i64 n))], []⟩)))
 (.fail)))
 (.fail))
 (.leaf ((.ext 0), ⟨[(3, .d (.int .i64 n))], []⟩)) : Tr (Ex × ST)) := by kernel_rfl

theorem tree_run (s : List UInt8) : fnT Xrun c_run Tryd.f27.results.toList [.d (.str s)] [] = (
    .br (decide (0 ≤ (0 : Int) ∧ (0 : Int) ≤ s.length ∧ (s.length : Int) ≤ big))
 (.leaf (.d (.int .i64 ((0 : Int) + (pre isWord (s.drop (0 : Int).toNat) : Int))), []))
 (.fail) : Tr (AV × Hp)) := by kernel_rfl


theorem sum_run_0 : SumOK Tryd.prog gl (ann 27) L_run_0 (.loop l_run_0) := by
  refine SumOK.of_inv (X := Xrun) (xok_Xrun 27) (by simp only [Sums, l_run_0, and_true]) (by kernel_rfl) (lv := [0, 3]) (rt := [2]) (xs := [(0, [3])]) (by decide)
    (fun m st r => ∃ (s : List UInt8) (n : Nat), n ≤ s.length ∧ (s.length : Int) ≤ big ∧ st = ⟨[(0, .d (.str s)), (3, .d (.int .i64 (n : Int)))], []⟩ ∧ r = (.ext 0, ⟨[(3, .d (.int .i64 ((n : Int) + (pre isWord (s.drop n) : Int))))], []⟩) ∧ m = s.length - n) ?_ ?_
  · intro st r h
    unfold L_run_0 at h
    split at h
    · rename_i s n
      rcases Tr.br_some h with ⟨h1, h2⟩ | ⟨_, h2⟩
      · obtain ⟨h3, h4, h5⟩ := of_decide_eq_true h1
        obtain rfl := Tr.leaf_some h2
        obtain ⟨k, rfl⟩ := Int.eq_ofNat_of_zero_le h3
        exact ⟨_, s, k, by omega, h5, rfl, by simp, rfl⟩
      · exact Tr.fail_some h2
    · exact Tr.fail_some h
  · rintro m st r ⟨s, n, h1, h2, rfl, rfl, rfl⟩
    rw [body_run_0]
    have hw : n < s.length → IntKind.i64.wrap ((n : Int) + 1) = ((n + 1 : Nat) : Int) := fun h => by unfold big at h2; rw [wrap_in] <;> omega
    cases hb : s[n]? with
    | none =>
      have hl : s.length ≤ n := by simpa using hb
      have he : s.drop n = [] := List.drop_eq_nil_of_le hl
      refine ⟨.ext 0, _, ?_, .inl ⟨by simp, rfl⟩⟩
      have h3 : ¬ ((n : Int) < s.length) := by omega
      simp [Tr.run_br, Tr.run_leaf, h3, he, pre_nil]
    | some b =>
      have hl := at_len hb
      have h3 : ((n : Int) < s.length) := by omega
      cases hp : isWord b with
      | true =>
        refine ⟨.nrm, ⟨[(0, .d (.str s)), (3, .d (.int .i64 ((n + 1 : Nat) : Int)))], []⟩, ?_, .inr ⟨rfl, _, ?_, s, n + 1, by omega, h2, rfl, ?_, rfl⟩⟩
        · cases h4 : isLetter (b.toNat : Int) with
          | true => simp [Tr.run_br, Tr.run_leaf, Tr.run_opt_, h3, hb, h4, hw hl]
          | false =>
            have h5 : isDigit (b.toNat : Int) = true := by simpa [isWord, isLet, isDig, h4] using hp
            simp [Tr.run_br, Tr.run_leaf, Tr.run_opt_, h3, hb, h4, h5, hw hl]
        · omega
        · rw [pre_at_yes hb hp]; simp; omega
      | false =>
        refine ⟨.ext 0, _, ?_, .inl ⟨by simp, rfl⟩⟩
        simp only [isWord, Bool.or_eq_false_iff] at hp
        have h4 : isLetter (b.toNat : Int) = false := hp.1
        have h5 : isDigit (b.toNat : Int) = false := hp.2
        rw [pre_at_no hb (by simp [isWord, hp])]
        simp [Tr.run_br, Tr.run_leaf, Tr.run_opt_, h3, hb, h4, h5]

theorem ok_run : FnOK Tryd.prog gl 27 runT := by
  refine fn_of (X := Xrun) (xok_Xrun 27) Tryd.func27 c_run_eq (by kernel_rfl) (by simp only [Sums, c_run, and_true, true_and]; exact sum_run_0) ?_
  intro xs H o h
  unfold runT at h
  split at h
  · rw [tree_run]
    rcases Tr.br_some h with ⟨h1, h2⟩ | ⟨_, h2⟩
    · obtain rfl := Tr.leaf_some h2
      have h3 := of_decide_eq_true h1
      simp [Tr.run_br, Tr.run_leaf, h3]
    · exact Tr.fail_some h2
  · exact Tr.fail_some h

end Go.AI.TD

/- token.number, in sum. -/
namespace Go.AI.TD
open Go Go.Proofs
set_option maxRecDepth 10000
set_option linter.unusedVariables false
set_option linter.unusedSimpArgs false

structure TR where
  kd : Int
  tx : List UInt8
  vl : Int
  ln : Int
  er : Int

/-- How many digits come, if the first one is no zero. -/
def lead (s r : List UInt8) : Nat := if s.head? = some 48 then 0 else pre isDig r
def numLen (s : List UInt8) : Nat := 1 + lead s (s.drop 1)
def wordAt (s : List UInt8) (n : Nat) : Bool := match s[n]? with | some b => isWord b | none => false

def accum : Int → List UInt8 → Option Int
  | v, [] => some v
  | v, b :: r => if (9223372036854775807 - ((b.toNat : Int) - 48)) / 10 < v then none else accum (v * 10 + ((b.toNat : Int) - 48)) r

def numRes (s : List UInt8) : TR :=
  if wordAt s (numLen s) = true then ⟨0, [], 0, 0, 1⟩ else
  match accum 0 (s.take (numLen s)) with
  | none => ⟨0, [], 0, 0, 3⟩
  | some v => ⟨2, [], v, numLen s, 0⟩

def numPre (s : List UInt8) : Bool := decide ((s.length : Int) ≤ big) && (match s with | c :: _ => isDig c | [] => false)
def accPre (p : List UInt8) (m i v : Int) : Prop := m = p.length ∧ 0 ≤ i ∧ i ≤ m ∧ (p.length : Int) ≤ big ∧ 0 ≤ v ∧ v ≤ 9223372036854775807 ∧ p.all isDig = true
instance (p : List UInt8) (m i v : Int) : Decidable (accPre p m i v) := by unfold accPre; infer_instance

/-- The bytes of a list of bytes. -/
def unB : List DV → Option (List UInt8)
  | [] => some []
  | .int .u8 n :: r => if 0 ≤ n ∧ n < 256 then (unB r).map (UInt8.ofNat n.toNat :: ·) else none
  | _ => none
theorem unB_of (p : List UInt8) : unB (ofBytes p) = some p := by
  induction p with
  | nil => rfl
  | cons b p ih =>
    have : unB (ofBytes (b :: p)) = if 0 ≤ (b.toNat : Int) ∧ (b.toNat : Int) < 256 then (unB (ofBytes p)).map (UInt8.ofNat ((b.toNat : Int)).toNat :: ·) else none := rfl
    have hb := b.toNat_lt
    rw [this, ih, if_pos (by omega)]
    simp
theorem unB_inv : ∀ {xs : List DV} {p : List UInt8}, unB xs = some p → xs = ofBytes p := by
  intro xs
  induction xs with
  | nil => intro p h; simp [unB] at h; subst h; rfl
  | cons x xs ih =>
    intro p h
    unfold unB at h
    split at h
    · rename_i heq; cases heq
    · rename_i n r heq
      injection heq with h1 h2
      subst h2; subst h1
      split at h
      · rename_i hn
        cases hb : unB xs with
        | none => rw [hb] at h; simp at h
        | some q =>
          rw [hb] at h; simp at h; subst h
          rw [ih hb]
          have : ((UInt8.ofNat n.toNat).toNat : Int) = n := by
            rw [UInt8.toNat_ofNat']; omega
          show _ = DV.int .u8 _ :: ofBytes q
          rw [this]
      · simp at h
    · simp at h
theorem bytesOf_ofBytes (p : List UInt8) : bytesOf (ofBytes p) = some p := by
  induction p with
  | nil => rfl
  | cons b p ih =>
    have : bytesOf (ofBytes (b :: p)) = (bytesOf (ofBytes p)).map (UInt8.ofNat ((b.toNat : Int)).toNat :: ·) := rfl
    rw [this, ih]
    simp
theorem ofBytes_len (p : List UInt8) : (ofBytes p).length = p.length := by simp [ofBytes]
theorem ofBytes_at (p : List UInt8) (i : Nat) : ((ofBytes p)[i]?).bind (unInt .u8) = (p[i]?).map fun b => (b.toNat : Int) := by
  simp only [ofBytes, List.getElem?_map]
  cases p[i]? <;> rfl
def L_number_0 : ST → Tr (Ex × ST)
  | ⟨[(0, .d (.str s)), (2, (.box [(.d (.int .i64 0)), (.d (.str [])), (.d (.int .i64 0)), (.d (.int .i64 0))])), (5, .d (.int .i64 n))], []⟩ => .br (decide (1 ≤ n ∧ n ≤ s.length ∧ (s.length : Int) ≤ big)) (.leaf ((.ext 0), ⟨[(0, .d (.str s)), (2, (.box [(.d (.int .i64 0)), (.d (.str [])), (.d (.int .i64 0)), (.d (.int .i64 0))])), (5, .d (.int .i64 (n + (lead s (s.drop n.toNat) : Int))))], []⟩)) .fail
  | _ => .fail

def L_number_1 : ST → Tr (Ex × ST)
  | ⟨[(2, (.box [(.d (.int .i64 0)), (.d (.str [])), (.d (.int .i64 0)), (.d (.int .i64 0))])), (5, .d (.int .i64 n)), (6, .d (.int .i64 v)), (47, .d (.sl 1 xs)), (48, .d (.int .i64 m)), (49, .d (.int .i64 i))], []⟩ => .opt (unB xs) fun p => .br (decide (accPre p m i v)) (.br ((accum v (p.drop i.toNat)).isNone) (.leaf (.ret, ⟨[(2, (.box [(.d (.int .i64 0)), (.d (.str [])), (.d (.int .i64 0)), (.d (.int .i64 0))])), (3, .d (.int .i64 0)), (4, .d (.int .i64 3))], []⟩)) (.opt (accum v (p.drop i.toNat)) fun u => (.leaf ((.ext 2), ⟨[(2, (.box [(.d (.int .i64 0)), (.d (.str [])), (.d (.int .i64 0)), (.d (.int .i64 0))])), (5, .d (.int .i64 n)), (6, .d (.int .i64 u))], []⟩)))) .fail
  | _ => .fail

def numberT : FT
  | [.d (.str s)], [] => .br (numPre s) (.leaf ((.tup [.agg [.d (.int .i64 (numRes s).kd), .d (.str (numRes s).tx), .d (.int .i64 (numRes s).vl), .d (.int .i64 0)], .d (.int .i64 (numRes s).ln), .d (.int .i64 (numRes s).er)]), [])) .fail
  | _, _ => .fail

noncomputable abbrev Xnumber : TX := ⟨Tryd.prog, tbl [(26, letterT), (28, digitT)], iso, gl, vw⟩

theorem xok_Xnumber (f : Nat) : XOK Xnumber (ann f) gl := XOK.of base (l := [(26, letterT), (28, digitT)]) ⟨ok_letter, ok_digit, trivial⟩ f

def l_number_0 : CC := .seq (.seq (.region [
    ⟨.yes, (some 10), .move (.tmp 0), false, false, []⟩,
    ⟨.yes, (some 11), .index 9 (.tmp 10) (.const (.int .i64 (0))), false, false, []⟩,
    ⟨.yes, (some 12), .binOp .neq 5 (.tmp 11) (.const (.int .u8 (48))) 5, false, false, []⟩,
    ⟨.yes, (some 13), .move (.tmp 12), true, false, []⟩,
    ⟨(.on 13 true), (some 14), .move (.tmp 5), false, false, []⟩,
    ⟨(.on 13 true), (some 15), .move (.tmp 0), false, false, []⟩,
    ⟨(.on 13 true), (some 16), .call ⟨.builtin .len, #[(.tmp 15)], #[9]⟩, false, false, []⟩,
    ⟨(.on 13 true), (some 17), .binOp .lss 3 (.tmp 14) (.tmp 16) 3, false, false, []⟩,
    ⟨.yes, (some 18), .pick (.tmp 13) (.tmp 17) (.const (.bool false)), false, false, []⟩,
    ⟨.yes, (some 19), .move (.tmp 18), true, false, []⟩,
    ⟨(.on 19 true), (some 20), .move (.tmp 0), false, false, []⟩,
    ⟨(.on 19 true), (some 21), .move (.tmp 5), false, false, []⟩,
    ⟨(.on 19 true), (some 22), .index 9 (.tmp 20) (.tmp 21), false, false, []⟩,
    ⟨(.on 19 true), (some 23), .call ⟨.value (.func 28), #[(.tmp 22)], #[5]⟩, false, false, []⟩,
    ⟨.yes, (some 24), .pick (.tmp 19) (.tmp 23) (.const (.bool false)), false, false, []⟩] [0, 2, 5, 24]) <|
  .cond (.tmp 24)
    (.skip)
    (.exit 0)) <|
  .block 1 <| .region [
    ⟨.yes, (some 25), .move (.tmp 5), true, false, []⟩,
    ⟨.yes, (some 26), .binOp .add 3 (.tmp 25) (.const (.int .i64 (1))) 3, false, false, []⟩,
    ⟨.yes, (some 5), .assign (.tmp 26), true, false, []⟩] [0, 2, 5]

def l_number_1 : CC := .seq (.region [
    ⟨.yes, (some 50), .binOp .lss 3 (.tmp 49) (.tmp 48) 3, false, false, []⟩] [2, 5, 6, 47, 48, 49, 50]) <|
  .seq (.cond (.tmp 50)
    (.skip)
    (.exit 2)) <|
  .seq (.block 3 <| .seq (.region [
    ⟨.yes, (some 51), .indexAddr 31 (.tmp 47) (.tmp 49), false, false, []⟩,
    ⟨.yes, (some 52), .load 5 (.tmp 51), false, false, []⟩,
    ⟨.yes, (some 8), .assign (.tmp 52), true, false, []⟩] [2, 5, 6, 8, 47, 48, 49]) <|
  .seq (.region [
    ⟨.yes, (some 53), .move (.tmp 8), true, false, []⟩,
    ⟨.yes, (some 54), .binOp .sub 5 (.tmp 53) (.const (.int .u8 (48))) 5, false, false, []⟩,
    ⟨.yes, (some 55), .convert 5 3 (.tmp 54), false, false, []⟩,
    ⟨.yes, (some 9), .assign (.tmp 55), true, false, []⟩] [2, 5, 6, 9, 47, 48, 49]) <|
  .seq (.seq (.region [
    ⟨.yes, (some 56), .move (.tmp 6), false, false, []⟩,
    ⟨.yes, (some 57), .move (.tmp 9), false, false, []⟩,
    ⟨.yes, (some 58), .binOp .sub 3 (.const (.int .i64 (9223372036854775807))) (.tmp 57) 3, false, false, []⟩,
    ⟨.yes, (some 59), .binOp .quo 3 (.tmp 58) (.const (.int .i64 (10))) 3, false, false, []⟩,
    ⟨.yes, (some 60), .binOp .gtr 3 (.tmp 56) (.tmp 59) 3, false, false, []⟩] [2, 5, 6, 9, 47, 48, 49, 60]) <|
  .cond (.tmp 60)
    (.seq (.region [
      ⟨.yes, (some 61), .build 38 #[], false, false, []⟩,
      ⟨.yes, none, .store 38 (.tmp 2) (.tmp 61), true, false, []⟩,
      ⟨.yes, (some 3), .assign (.const (.int .i64 (0))), false, false, []⟩,
      ⟨.yes, (some 4), .assign (.const (.int .i64 (3))), false, false, []⟩] [2, 3, 4]) <|
    .ret)
    (.skip)) <|
  .region [
    ⟨.yes, (some 62), .move (.tmp 6), true, false, []⟩,
    ⟨.yes, (some 63), .binOp .mul 3 (.tmp 62) (.const (.int .i64 (10))) 3, false, false, []⟩,
    ⟨.yes, (some 64), .move (.tmp 9), true, false, []⟩,
    ⟨.yes, (some 65), .binOp .add 3 (.tmp 63) (.tmp 64) 3, false, false, []⟩,
    ⟨.yes, (some 6), .assign (.tmp 65), true, false, []⟩] [2, 5, 6, 47, 48, 49]) <|
  .region [
    ⟨.yes, (some 66), .binOp .add 3 (.tmp 49) (.const (.int .i64 (1))) 3, false, false, []⟩,
    ⟨.yes, (some 49), .move (.tmp 66), true, false, []⟩] [2, 5, 6, 47, 48, 49]

/-- rollbacknet/token.number -/
def c_number : CC := .seq (.region [
    ⟨.yes, (some 2), .alloc 38, false, false, []⟩,
    ⟨.yes, (some 3), .assign (.const (.int .i64 (0))), false, false, []⟩,
    ⟨.yes, (some 4), .assign (.const (.int .i64 (0))), false, false, []⟩] [0, 2]) <|
  .seq (.region [
    ⟨.yes, (some 5), .assign (.const (.int .i64 (1))), false, false, []⟩] [0, 2, 5]) <|
  .seq (.block 0 <| .keep [0, 2, 5] <| .sum L_number_0 (.loop l_number_0)) <|
  .seq (.seq (.region [
    ⟨.yes, (some 27), .move (.tmp 5), false, false, []⟩,
    ⟨.yes, (some 28), .move (.tmp 0), false, false, []⟩,
    ⟨.yes, (some 29), .call ⟨.builtin .len, #[(.tmp 28)], #[9]⟩, false, false, []⟩,
    ⟨.yes, (some 30), .binOp .lss 3 (.tmp 27) (.tmp 29) 3, false, false, []⟩,
    ⟨.yes, (some 31), .move (.tmp 30), true, false, []⟩,
    ⟨(.on 31 true), (some 32), .move (.tmp 0), false, false, []⟩,
    ⟨(.on 31 true), (some 33), .move (.tmp 5), false, false, []⟩,
    ⟨(.on 31 true), (some 34), .index 9 (.tmp 32) (.tmp 33), false, false, []⟩,
    ⟨(.on 31 true), (some 35), .call ⟨.value (.func 26), #[(.tmp 34)], #[5]⟩, false, false, []⟩,
    ⟨(.on 31 true), (some 36), .move (.tmp 35), true, false, []⟩,
    ⟨(.on 36 false), (some 37), .move (.tmp 0), false, false, []⟩,
    ⟨(.on 36 false), (some 38), .move (.tmp 5), false, false, []⟩,
    ⟨(.on 36 false), (some 39), .index 9 (.tmp 37) (.tmp 38), false, false, []⟩,
    ⟨(.on 36 false), (some 40), .call ⟨.value (.func 28), #[(.tmp 39)], #[5]⟩, false, false, []⟩,
    ⟨(.on 31 true), (some 41), .pick (.tmp 36) (.const (.bool true)) (.tmp 40), false, false, []⟩,
    ⟨.yes, (some 42), .pick (.tmp 31) (.tmp 41) (.const (.bool false)), false, false, []⟩] [0, 2, 5, 42]) <|
  .cond (.tmp 42)
    (.seq (.region [
      ⟨.yes, (some 43), .build 38 #[], false, false, []⟩,
      ⟨.yes, none, .store 38 (.tmp 2) (.tmp 43), true, false, []⟩,
      ⟨.yes, (some 3), .assign (.const (.int .i64 (0))), false, false, []⟩,
      ⟨.yes, (some 4), .assign (.const (.int .i64 (1))), false, false, []⟩] [2, 3, 4]) <|
    .ret)
    (.skip)) <|
  .seq (.region [
    ⟨.yes, (some 6), .assign (.const (.int .i64 (0))), false, false, []⟩] [0, 2, 5, 6]) <|
  .seq (.seq (.region [
    ⟨.yes, (some 44), .move (.tmp 0), true, false, []⟩,
    ⟨.yes, (some 45), .move (.tmp 5), false, false, []⟩,
    ⟨.yes, (some 46), .slice 9 (.tmp 44) none (some (.tmp 45)) none, false, false, []⟩,
    ⟨.yes, (some 47), .convert 9 31 (.tmp 46), false, false, [(some 1)]⟩,
    ⟨.yes, (some 48), .call ⟨.builtin .len, #[(.tmp 47)], #[31]⟩, false, false, []⟩,
    ⟨.yes, (some 49), .move (.const (.int .i64 (0))), false, false, []⟩] [2, 5, 6, 47, 48, 49]) <|
  .block 2 <| .keep [2, 5, 6, 47, 48, 49] <| .sum L_number_1 (.loop l_number_1)) <|
  .seq (.region [
    ⟨.yes, (some 67), .move (.tmp 6), true, false, []⟩,
    ⟨.yes, (some 68), .build 38 #[(0, (.const (.int .i64 (2)))), (2, (.tmp 67))], true, false, []⟩,
    ⟨.yes, (some 69), .move (.tmp 5), true, false, []⟩,
    ⟨.yes, none, .store 38 (.tmp 2) (.tmp 68), true, false, []⟩,
    ⟨.yes, (some 3), .assign (.tmp 69), true, false, []⟩,
    ⟨.yes, (some 4), .assign (.const (.int .i64 (0))), false, false, []⟩] [2, 3, 4]) <|
  .ret

theorem c_number_eq : ∃ c, Tryd.f29.body = some c ∧ codeOK Tryd.f29.ntmps c = true ∧ comp Tryd.prog (ann 29) c = erase c_number := ⟨_, rfl, by kernel_rfl, by kernel_rfl⟩

theorem body_number_0 (s : List UInt8) (n : Int) : bodyT Xnumber [0, 2, 5] [2, 3, 4] [(0, [0, 2, 5])] l_number_0 ⟨[(0, .d (.str s)), (2, (.box [(.d (.int .i64 0)), (.d (.str [])), (.d (.int .i64 0)), (.d (.int .i64 0))])), (5, .d (.int .i64 n))], []⟩ = (
    .br (decide ((0 : Int) ≤ 0))
 (.opt (s[0]?) fun b1 => .br (!decide ((b1.toNat : Int) = 48))
 (.br (decide (n < (s.length : Int)))
 (.br (decide ((0 : Int) ≤ n))
 (.opt (s[(Int.toNat n)]?) fun b2 => .br (isDigit (b2.toNat : Int))
 (.leaf (.nrm, ⟨[(0, .d (.str s)), (2, .box [.d (.int .i64 0), .d (.str []), .d (.int .i64 0), .d (.int .i64 0)]), (5, .d (.int .i64 (IntKind.i64.wrap (n + 1))))], []⟩))
 (.leaf ((.ext 0), ⟨[(0, .d (.str s)), (2, .box [.d (.int .i64 0), .d (.str []), .d (.int .i64 0), .d (.int .i64 0)]), (5, .d (.int .i64 n))], []⟩)))
 (.fail))
 (.leaf ((.ext 0), ⟨[(0, .d (.str s)), (2, .box [.d (.int .i64 0), .d (.str []), .d (.int .i64 0), .d (.int .i64 0)]), (5, .d (.int .i64 n))], []⟩)))
 (.leaf ((.ext 0), ⟨[(0, .d (.str s)), (2, .box [.d (.int .i64 0), .d (.str []), .d (.int .i64 0), .d (.int .i64 0)]), (5, .d (.int .i64 n))], []⟩)))
 (.fail) : Tr (Ex × ST)) := by kernel_rfl

theorem body_number_1 (p : List UInt8) (n v m i : Int) : bodyT Xnumber [2, 5, 6, 47, 48, 49] [2, 3, 4] [(2, [2, 5, 6])] l_number_1 ⟨[(2, (.box [(.d (.int .i64 0)), (.d (.str [])), (.d (.int .i64 0)), (.d (.int .i64 0))])), (5, .d (.int .i64 n)), (6, .d (.int .i64 v)), (47, .d (.sl 1 (ofBytes p))), (48, .d (.int .i64 m)), (49, .d (.int .i64 i))], []⟩ = (
    .br (decide (i < m))
 (.br (decide ((0 : Int) ≤ i))
 (.opt (((ofBytes p)[(Int.toNat i)]?).bind (unInt .u8)) fun y1 => .br (decide ((10 : Int) = 0))
 (.fail)
 (.br (decide ((IntKind.i64.wrap (Int.tdiv (IntKind.i64.wrap (9223372036854775807 - (IntKind.i64.wrap (IntKind.u8.wrap (y1 - 48))))) 10)) < v))
 (.leaf (.ret, ⟨[(2, .box [.d (.int .i64 0), .d (.str []), .d (.int .i64 0), .d (.int .i64 0)]), (3, .d (.int .i64 0)), (4, .d (.int .i64 3))], []⟩))
 (.leaf (.nrm, ⟨[(2, .box [.d (.int .i64 0), .d (.str []), .d (.int .i64 0), .d (.int .i64 0)]), (5, .d (.int .i64 n)), (6, .d (.int .i64 (IntKind.i64.wrap ((IntKind.i64.wrap (v * 10)) + (IntKind.i64.wrap (IntKind.u8.wrap (y1 - 48))))))), (47, .d (.sl 1 (ofBytes p))), (48, .d (.int .i64 m)), (49, .d (.int .i64 (IntKind.i64.wrap (i + 1))))], []⟩))))
 (.fail))
 (.leaf ((.ext 2), ⟨[(2, .box [.d (.int .i64 0), .d (.str []), .d (.int .i64 0), .d (.int .i64 0)]), (5, .d (.int .i64 n)), (6, .d (.int .i64 v))], []⟩)) : Tr (Ex × ST)) := by kernel_rfl

theorem tree_number (s : List UInt8) : fnT Xnumber c_number Tryd.f29.results.toList [.d (.str s)] [] = (
    .br (decide (1 ≤ (1 : Int) ∧ (1 : Int) ≤ s.length ∧ (s.length : Int) ≤ big))
 (.br (decide (((1 : Int) + (lead s (s.drop (1 : Int).toNat) : Int)) < (s.length : Int)))
 (.br (decide ((0 : Int) ≤ ((1 : Int) + (lead s (s.drop (1 : Int).toNat) : Int))))
 (.opt (s[(Int.toNat ((1 : Int) + (lead s (s.drop (1 : Int).toNat) : Int)))]?) fun b1 => .br (isLetter (b1.toNat : Int))
 (.leaf (.tup [.agg [.d (.int .i64 0), .d (.str []), .d (.int .i64 0), .d (.int .i64 0)], .d (.int .i64 0), .d (.int .i64 1)], []))
 (.br (decide ((0 : Int) ≤ ((1 : Int) + (lead s (s.drop (1 : Int).toNat) : Int))))
 (.opt (s[(Int.toNat ((1 : Int) + (lead s (s.drop (1 : Int).toNat) : Int)))]?) fun b2 => .br (isDigit (b2.toNat : Int))
 (.leaf (.tup [.agg [.d (.int .i64 0), .d (.str []), .d (.int .i64 0), .d (.int .i64 0)], .d (.int .i64 0), .d (.int .i64 1)], []))
 (.br (decide ((0 : Int) ≤ 0 ∧ (0 : Int) ≤ ((1 : Int) + (lead s (s.drop (1 : Int).toNat) : Int)) ∧ ((1 : Int) + (lead s (s.drop (1 : Int).toNat) : Int)) ≤ (s.length : Int)))
 (.opt (unB (ofBytes (List.drop 0 (List.take (Int.toNat ((1 : Int) + (lead s (s.drop (1 : Int).toNat) : Int))) s)))) fun p3 => .br (decide (accPre p3 ((ofBytes (List.drop 0 (List.take (Int.toNat ((1 : Int) + (lead s (s.drop (1 : Int).toNat) : Int))) s))).length : Int) (0 : Int) (0 : Int)))
 (.br ((accum (0 : Int) (p3.drop (0 : Int).toNat)).isNone)
 (.leaf (.tup [.agg [.d (.int .i64 0), .d (.str []), .d (.int .i64 0), .d (.int .i64 0)], .d (.int .i64 0), .d (.int .i64 3)], []))
 (.opt (accum (0 : Int) (p3.drop (0 : Int).toNat)) fun u4 => .leaf (.tup [.agg [.d (.int .i64 2), .d (.str []), .d (.int .i64 u4), .d (.int .i64 0)], .d (.int .i64 ((1 : Int) + (lead s (s.drop (1 : Int).toNat) : Int))), .d (.int .i64 0)], [])))
 (.fail))
 (.fail)))
 (.fail)))
 (.fail))
 (.br (decide ((0 : Int) ≤ 0 ∧ (0 : Int) ≤ ((1 : Int) + (lead s (s.drop (1 : Int).toNat) : Int)) ∧ ((1 : Int) + (lead s (s.drop (1 : Int).toNat) : Int)) ≤ (s.length : Int)))
 (.opt (unB (ofBytes (List.drop 0 (List.take (Int.toNat ((1 : Int) + (lead s (s.drop (1 : Int).toNat) : Int))) s)))) fun p5 => .br (decide (accPre p5 ((ofBytes (List.drop 0 (List.take (Int.toNat ((1 : Int) + (lead s (s.drop (1 : Int).toNat) : Int))) s))).length : Int) (0 : Int) (0 : Int)))
 (.br ((accum (0 : Int) (p5.drop (0 : Int).toNat)).isNone)
 (.leaf (.tup [.agg [.d (.int .i64 0), .d (.str []), .d (.int .i64 0), .d (.int .i64 0)], .d (.int .i64 0), .d (.int .i64 3)], []))
 (.opt (accum (0 : Int) (p5.drop (0 : Int).toNat)) fun u6 => .leaf (.tup [.agg [.d (.int .i64 2), .d (.str []), .d (.int .i64 u6), .d (.int .i64 0)], .d (.int .i64 ((1 : Int) + (lead s (s.drop (1 : Int).toNat) : Int))), .d (.int .i64 0)], [])))
 (.fail))
 (.fail)))
 (.fail) : Tr (AV × Hp)) := by kernel_rfl


theorem wrap_u8 {n : Int} (h0 : 0 ≤ n) (h1 : n < 256) : IntKind.u8.wrap n = n := by
  simp [IntKind.wrap, IntKind.bits, IntKind.signed, IntKind.max]
  omega
theorem dig_in {b : UInt8} (h : isDig b = true) : 48 ≤ (b.toNat : Int) ∧ (b.toNat : Int) ≤ 57 := by simpa [isDig, isDigit] using h

abbrev ztok : AV := .box [.d (.int .i64 0), .d (.str []), .d (.int .i64 0), .d (.int .i64 0)]

theorem byte_ne {c : UInt8} {n : Nat} (hn : n < 256) (h : c ≠ UInt8.ofNat n) : ¬ ((c.toNat : Int) = n) := fun e => h (by
  apply UInt8.toNat_inj.1
  rw [UInt8.toNat_ofNat']; omega)

theorem sum_number_0 : SumOK Tryd.prog gl (ann 29) L_number_0 (.loop l_number_0) := by
  refine SumOK.of_inv (X := Xnumber) (xok_Xnumber 29) (by simp only [Sums, l_number_0, and_true]) (by kernel_rfl) (lv := [0, 2, 5]) (rt := [2, 3, 4]) (xs := [(0, [0, 2, 5])]) (by decide)
    (fun m st r => ∃ (s : List UInt8) (n : Nat), 1 ≤ n ∧ n ≤ s.length ∧ (s.length : Int) ≤ big ∧ st = ⟨[(0, .d (.str s)), (2, ztok), (5, .d (.int .i64 (n : Int)))], []⟩ ∧ r = (.ext 0, ⟨[(0, .d (.str s)), (2, ztok), (5, .d (.int .i64 ((n : Int) + (lead s (s.drop n) : Int))))], []⟩) ∧ m = s.length - n) ?_ ?_
  · intro st r h
    unfold L_number_0 at h
    split at h
    · rename_i s n
      rcases Tr.br_some h with ⟨h1, h2⟩ | ⟨_, h2⟩
      · obtain ⟨h3, h4, h5⟩ := of_decide_eq_true h1
        obtain rfl := Tr.leaf_some h2
        obtain ⟨k, rfl⟩ := Int.eq_ofNat_of_zero_le (show 0 ≤ n by omega)
        exact ⟨_, s, k, by omega, by omega, h5, rfl, by simp, rfl⟩
      · exact Tr.fail_some h2
    · exact Tr.fail_some h
  · rintro m st r ⟨s, n, h0, h1, h2, rfl, rfl, rfl⟩
    rw [body_number_0]
    have hw : n < s.length → IntKind.i64.wrap ((n : Int) + 1) = ((n + 1 : Nat) : Int) := fun h => by unfold big at h2; rw [wrap_in] <;> omega
    obtain ⟨c, hc⟩ : ∃ c, s[0]? = some c := ⟨s[0], List.getElem?_eq_getElem (by omega)⟩
    have hh : s.head? = some c := by rw [List.head?_eq_getElem?]; exact hc
    by_cases hz : c = 48
    · subst hz
      refine ⟨.ext 0, _, ?_, .inl ⟨by simp, rfl⟩⟩
      simp [Tr.run_br, Tr.run_leaf, Tr.run_opt_, hc, lead, hh]
    · have hz' : ¬ ((c.toNat : Int) = 48) := byte_ne (n := 48) (by decide) hz
      have hld : ∀ r, lead s r = pre isDig r := fun r => by unfold lead; rw [if_neg]; rw [hh]; intro h; exact hz (Option.some.inj h)
      cases hb : s[n]? with
      | none =>
        have hl : s.length ≤ n := by simpa using hb
        have he : s.drop n = [] := List.drop_eq_nil_of_le hl
        have h3 : ¬ ((n : Int) < s.length) := by omega
        refine ⟨.ext 0, _, ?_, .inl ⟨by simp, rfl⟩⟩
        simp [Tr.run_br, Tr.run_leaf, Tr.run_opt_, hc, hz', h3, hld, he, pre_nil]
      | some b =>
        have hl := at_len hb
        have h3 : ((n : Int) < s.length) := by omega
        cases hp : isDig b with
        | true =>
          have h5 : isDigit (b.toNat : Int) = true := hp
          refine ⟨.nrm, ⟨[(0, .d (.str s)), (2, ztok), (5, .d (.int .i64 ((n + 1 : Nat) : Int)))], []⟩, ?_, .inr ⟨rfl, _, ?_, s, n + 1, by omega, by omega, h2, rfl, ?_, rfl⟩⟩
          · simp [Tr.run_br, Tr.run_leaf, Tr.run_opt_, hc, hz', h3, hb, h5, hw hl]
          · omega
          · rw [hld, hld, pre_at_yes hb hp]; simp; omega
        | false =>
          have h5 : isDigit (b.toNat : Int) = false := hp
          refine ⟨.ext 0, _, ?_, .inl ⟨by simp, rfl⟩⟩
          rw [hld, pre_at_no hb hp]
          simp [Tr.run_br, Tr.run_leaf, Tr.run_opt_, hc, hz', h3, hb, h5]

theorem sum_number_1 : SumOK Tryd.prog gl (ann 29) L_number_1 (.loop l_number_1) := by
  refine SumOK.of_inv (X := Xnumber) (xok_Xnumber 29) (by simp only [Sums, l_number_1, and_true]) (by kernel_rfl) (lv := [2, 5, 6, 47, 48, 49]) (rt := [2, 3, 4]) (xs := [(2, [2, 5, 6])]) (by decide)
    (fun m st r => ∃ (p : List UInt8) (n v : Int) (i : Nat), i ≤ p.length ∧ (p.length : Int) ≤ big ∧ 0 ≤ v ∧ v ≤ 9223372036854775807 ∧ p.all isDig = true ∧
      st = ⟨[(2, ztok), (5, .d (.int .i64 n)), (6, .d (.int .i64 v)), (47, .d (.sl 1 (ofBytes p))), (48, .d (.int .i64 (p.length : Int))), (49, .d (.int .i64 (i : Int)))], []⟩ ∧
      r = (match accum v (p.drop i) with
        | none => (.ret, ⟨[(2, ztok), (3, .d (.int .i64 0)), (4, .d (.int .i64 3))], []⟩)
        | some u => (.ext 2, ⟨[(2, ztok), (5, .d (.int .i64 n)), (6, .d (.int .i64 u))], []⟩)) ∧ m = p.length - i) ?_ ?_
  · intro st r h
    unfold L_number_1 at h
    split at h
    · rename_i n v xs m i
      obtain ⟨p, hp, h'⟩ := Tr.opt_some h
      obtain rfl := unB_inv hp
      rcases Tr.br_some h' with ⟨h1, h2⟩ | ⟨_, h2⟩
      · obtain ⟨rfl, h3, h4, h5, h6, h7, h8⟩ := of_decide_eq_true h1
        obtain ⟨k, rfl⟩ := Int.eq_ofNat_of_zero_le h3
        refine ⟨_, p, n, v, k, by omega, h5, h6, h7, h8, rfl, ?_, rfl⟩
        simp only [Int.ofNat_eq_natCast, Int.toNat_natCast] at h2
        cases ha : accum v (p.drop k) with
        | none => rw [ha] at h2; exact (Tr.leaf_some h2).symm
        | some u => rw [ha] at h2; exact (Tr.leaf_some h2).symm
      · exact Tr.fail_some h2
    · exact Tr.fail_some h
  · rintro m st r ⟨p, n, v, i, h1, h2, h3, h4, h5, rfl, rfl, rfl⟩
    rw [body_number_1]
    unfold big at h2
    cases hb : p[i]? with
    | none =>
      have hl : p.length ≤ i := by simpa using hb
      have he : p.drop i = [] := List.drop_eq_nil_of_le hl
      have h6 : ¬ ((i : Int) < p.length) := by omega
      rw [he]
      refine ⟨.ext 2, _, ?_, .inl ⟨by simp, rfl⟩⟩
      simp [Tr.run_br, Tr.run_leaf, h6]
    | some b =>
      have hl := at_len hb
      have h6 : ((i : Int) < p.length) := by omega
      have hd := dig_in ((List.all_eq_true.1 h5) b (List.mem_of_getElem? hb))
      have w1 : IntKind.u8.wrap ((b.toNat : Int) - 48) = (b.toNat : Int) - 48 := wrap_u8 (by omega) (by omega)
      have w2 : IntKind.i64.wrap ((b.toNat : Int) - 48) = (b.toNat : Int) - 48 := wrap_in (by omega) (by omega)
      have w3 : IntKind.i64.wrap (9223372036854775807 - ((b.toNat : Int) - 48)) = 9223372036854775807 - ((b.toNat : Int) - 48) := wrap_in (by omega) (by omega)
      have w4 : Int.tdiv (9223372036854775807 - ((b.toNat : Int) - 48)) 10 = (9223372036854775807 - ((b.toNat : Int) - 48)) / 10 := Int.tdiv_eq_ediv_of_nonneg (by omega)
      have w5 : IntKind.i64.wrap ((9223372036854775807 - ((b.toNat : Int) - 48)) / 10) = (9223372036854775807 - ((b.toNat : Int) - 48)) / 10 := wrap_in (by omega) (by omega)
      have w6 : IntKind.i64.wrap ((i : Int) + 1) = ((i + 1 : Nat) : Int) := by rw [wrap_in] <;> omega
      rw [drop_at hb]
      simp only [Tr.run_br, Tr.run_leaf, Tr.run_opt_, ofBytes_at, Int.toNat_natCast, hb, Option.map_some, w1, w2, w3, w4, w5, w6, decide_eq_true_eq, h6, if_true, if_false, show ¬ ((10 : Int) = 0) by decide, show (0 : Int) ≤ (i : Int) by omega]
      by_cases hv : (9223372036854775807 - ((b.toNat : Int) - 48)) / 10 < v
      · rw [if_pos hv]
        exact ⟨.ret, _, rfl, .inl ⟨by simp, by simp only [accum, if_pos hv]⟩⟩
      · rw [if_neg hv]
        have w7 : IntKind.i64.wrap (v * 10) = v * 10 := wrap_in (by omega) (by omega)
        have w8 : IntKind.i64.wrap (v * 10 + ((b.toNat : Int) - 48)) = v * 10 + ((b.toNat : Int) - 48) := wrap_in (by omega) (by omega)
        refine ⟨.nrm, _, rfl, .inr ⟨rfl, p.length - (i + 1), by omega, p, n, v * 10 + ((b.toNat : Int) - 48), i + 1, by omega, by unfold big; omega, by omega, by omega, h5, ?_, ?_, rfl⟩⟩
        · rw [w7, w8]
        · simp only [accum, if_neg hv]

theorem lead_le {s : List UInt8} (h : 1 ≤ s.length) : numLen s ≤ s.length := by
  unfold numLen lead
  split
  · omega
  · have := pre_le isDig (s.drop 1)
    rw [List.length_drop] at this; omega

theorem take_digs {s : List UInt8} {c : UInt8} {r : List UInt8} (hs : s = c :: r) (hc : isDig c = true) : (s.take (numLen s)).all isDig = true := by
  subst hs
  simp only [numLen, List.drop_one, List.tail_cons, Nat.add_comm 1, List.take_succ_cons, List.all_cons, hc, Bool.true_and]
  unfold lead
  split
  · rfl
  · have : r.take (pre isDig r) = r.takeWhile isDig := by
      have := List.takeWhile_prefix (l := r) isDig
      rw [List.prefix_iff_eq_take] at this
      exact this.symm
    rw [this]
    exact List.all_takeWhile

theorem num_fin (s : List UInt8) (n : Nat) : (Tr.run (.br ((accum 0 (s.take n)).isNone)
      (.leaf ((AV.tup [.agg [.d (.int .i64 0), .d (.str []), .d (.int .i64 0), .d (.int .i64 0)], .d (.int .i64 0), .d (.int .i64 3)]), ([] : Hp)))
      (.opt (accum 0 (s.take n)) fun u4 => .leaf ((AV.tup [.agg [.d (.int .i64 2), .d (.str []), .d (.int .i64 u4), .d (.int .i64 0)], .d (.int .i64 n), .d (.int .i64 0)]), ([] : Hp))))) =
    let r : TR := match accum 0 (s.take n) with | none => ⟨0, [], 0, 0, 3⟩ | some v => ⟨2, [], v, n, 0⟩
    some ((AV.tup [.agg [.d (.int .i64 r.kd), .d (.str r.tx), .d (.int .i64 r.vl), .d (.int .i64 0)], .d (.int .i64 r.ln), .d (.int .i64 r.er)]), ([] : Hp)) := by
  cases accum 0 (s.take n) <;> rfl

theorem ok_number : FnOK Tryd.prog gl 29 numberT := by
  refine fn_of (X := Xnumber) (xok_Xnumber 29) Tryd.func29 c_number_eq (by kernel_rfl) (by simp only [Sums, c_number, and_true, true_and]; exact ⟨sum_number_0, sum_number_1⟩) ?_
  intro xs H o h
  unfold numberT at h
  split at h
  · rw [tree_number]
    rcases Tr.br_some h with ⟨h1, h2⟩ | ⟨_, h2⟩
    · obtain rfl := Tr.leaf_some h2
      rename_i s
      simp only [numPre, Bool.and_eq_true, decide_eq_true_eq] at h1
      obtain ⟨h3, h4⟩ := h1
      cases s with
      | nil => cases h4
      | cons c r =>
        have hl : numLen (c :: r) ≤ (c :: r).length := lead_le (by simp)
        have hd := take_digs (s := c :: r) rfl h4
        have e : ((1 : Int) + (lead (c :: r) ((c :: r).drop (1 : Int).toNat) : Int)) = (numLen (c :: r) : Int) := by simp [numLen]
        rw [e]
        have hp : accPre ((c :: r).take (numLen (c :: r))) ((ofBytes ((c :: r).take (numLen (c :: r)))).length : Int) 0 0 := by
          refine ⟨by rw [ofBytes_len], by omega, by omega, ?_, by omega, by omega, hd⟩
          rw [List.length_take]; unfold big at *; omega
        generalize hs : c :: r = s at *
        generalize hn : numLen s = n at *
        have h1 : (1 : Int) ≤ s.length := by rw [← hs]; simp; omega
        have h0 : (n : Int) ≤ s.length := by omega
        have hres := num_fin s n
        simp only at hres
        cases hb : s[n]? with
        | none =>
          have hge : ¬ ((n : Int) < s.length) := by have : s.length ≤ n := by simpa using hb
                                                    omega
          have hw : wordAt s n = false := by simp [wordAt, hb]
          simp only [Tr.run_br, Tr.run_leaf, Tr.run_opt_, hge, h1, h3, h0, hp, decide_eq_true_eq, if_true, if_false, Int.toNat_natCast, List.drop_zero, unB_of, and_self, Int.le_refl, true_and, show (0 : Int) ≤ (n : Int) by omega, numRes, hn, hw, Bool.false_eq_true, show (0 : Int).toNat = 0 by rfl] at hres ⊢
          exact hres
        | some b =>
          have hlt : ((n : Int) < s.length) := by have := at_len hb; omega
          cases hbl : isLetter (b.toNat : Int) with
          | true =>
            have hw : wordAt s n = true := by simp [wordAt, hb, isWord, isLet, hbl]
            simp only [Tr.run_br, Tr.run_leaf, Tr.run_opt_, hlt, h1, h3, h0, decide_eq_true_eq, if_true, if_false, Int.toNat_natCast, and_self, Int.le_refl, true_and, show (0 : Int) ≤ (n : Int) by omega, numRes, hn, hw, hb, hbl]
          | false =>
            cases hbd : isDigit (b.toNat : Int) with
            | true =>
              have hw : wordAt s n = true := by simp [wordAt, hb, isWord, isDig, hbd]
              simp only [Tr.run_br, Tr.run_leaf, Tr.run_opt_, hlt, h1, h3, h0, decide_eq_true_eq, if_true, if_false, Int.toNat_natCast, and_self, Int.le_refl, true_and, show (0 : Int) ≤ (n : Int) by omega, numRes, hn, hw, hb, hbl, hbd, Bool.false_eq_true]
            | false =>
              have hw : wordAt s n = false := by simp [wordAt, hb, isWord, isLet, isDig, hbl, hbd]
              simp only [Tr.run_br, Tr.run_leaf, Tr.run_opt_, hlt, h1, h3, h0, hp, decide_eq_true_eq, if_true, if_false, Int.toNat_natCast, List.drop_zero, unB_of, and_self, Int.le_refl, true_and, show (0 : Int) ≤ (n : Int) by omega, numRes, hn, hw, hb, hbl, hbd, Bool.false_eq_true, show (0 : Int).toNat = 0 by rfl] at hres ⊢
              exact hres
    · exact Tr.fail_some h2
  · exact Tr.fail_some h

end Go.AI.TD

/- token.sign, token.one, in sum. -/
namespace Go.AI.TD
open Go Go.Proofs
set_option maxRecDepth 10000
set_option linter.unusedVariables false
set_option linter.unusedSimpArgs false

/-- How long the sign is that begins with these two bytes. -/
def signI (c d : Int) : Int :=
  if c = 38 ∨ c = 124 then (if d = c then 2 else 0)
  else if c = 61 ∨ c = 33 ∨ c = 60 ∨ c = 62 then (if d = 61 then 2 else 1)
  else if c = 40 ∨ c = 41 ∨ c = 123 ∨ c = 125 ∨ c = 91 ∨ c = 93 ∨ c = 44 ∨ c = 59 ∨ c = 43 ∨ c = 45 ∨ c = 42 ∨ c = 47 ∨ c = 37 then 1 else 0
def second (r : List UInt8) : Int := match r with | [] => 0 | d :: _ => (d.toNat : Int)
def signLen (s : List UInt8) : Int := match s with | [] => 0 | c :: r => signI (c.toNat : Int) (second r)

def oneRes (s : List UInt8) : TR :=
  match s with
  | [] => ⟨0, [], 0, 0, 1⟩
  | c :: r =>
    if isLet c = true then (if 16 < pre isWord s then ⟨0, [], 0, 0, 5⟩ else ⟨1, s.take (pre isWord s), 0, pre isWord s, 0⟩)
    else if isDig c = true then numRes s
    else if signLen s = 0 then ⟨0, [], 0, 0, 1⟩ else ⟨3, s.take (signLen s).toNat, 0, signLen s, 0⟩

def onePre (s : List UInt8) : Bool := decide ((s.length : Int) ≤ big) && !s.isEmpty

def signT : FT
  | [.d (.str s)], [] => .br (!s.isEmpty) (.leaf (.d (.int .i64 (signLen s)), [])) .fail
  | _, _ => .fail

def oneT : FT
  | [.d (.str s)], [] => .br (onePre s) (.leaf ((.tup [.agg [.d (.int .i64 (oneRes s).kd), .d (.str (oneRes s).tx), .d (.int .i64 (oneRes s).vl), .d (.int .i64 0)], .d (.int .i64 (oneRes s).ln), .d (.int .i64 (oneRes s).er)]), [])) .fail
  | _, _ => .fail

noncomputable abbrev Xsign : TX := ⟨Tryd.prog, tbl [], iso, gl, vw⟩

theorem xok_Xsign (f : Nat) : XOK Xsign (ann f) gl := XOK.of base (l := []) trivial f

/-- rollbacknet/token.sign -/
def c_sign : CC := .seq (.region [
    ⟨.yes, (some 2), .assign (.const (.int .i64 (0))), false, false, []⟩] [0]) <|
  .seq (.region [
    ⟨.yes, (some 3), .assign (.const (.int .u8 (0))), false, false, []⟩] [0, 3]) <|
  .seq (.seq (.region [
    ⟨.yes, (some 4), .move (.tmp 0), false, false, []⟩,
    ⟨.yes, (some 5), .call ⟨.builtin .len, #[(.tmp 4)], #[9]⟩, false, false, []⟩,
    ⟨.yes, (some 6), .binOp .gtr 3 (.tmp 5) (.const (.int .i64 (1))) 3, false, false, []⟩] [0, 3, 6]) <|
  .cond (.tmp 6)
    (.region [
      ⟨.yes, (some 7), .move (.tmp 0), false, false, []⟩,
      ⟨.yes, (some 8), .index 9 (.tmp 7) (.const (.int .i64 (1))), false, false, []⟩,
      ⟨.yes, (some 3), .assign (.tmp 8), true, false, []⟩] [0, 3])
    (.skip)) <|
  .seq (.seq (.region [
    ⟨.yes, (some 9), .move (.tmp 0), false, false, []⟩,
    ⟨.yes, (some 10), .index 9 (.tmp 9) (.const (.int .i64 (0))), false, false, []⟩] [0, 3, 10]) <|
  .block 0 <| .seq (.block 3 <| .seq (.block 2 <| .seq (.block 1 <| .seq (.seq (.seq (.seq (.region [
    ⟨.yes, (some 12), .binOp .eql 5 (.tmp 10) (.const (.int .u8 (38))) 5, false, false, []⟩,
    ⟨.yes, (some 11), .assign (.tmp 12), true, false, []⟩] [0, 3, 10, 11]) <|
  .cond (.tmp 11)
    (.skip)
    (.region [
      ⟨.yes, (some 13), .binOp .eql 5 (.tmp 10) (.const (.int .u8 (124))) 5, false, false, []⟩,
      ⟨.yes, (some 11), .assign (.tmp 13), true, false, []⟩] [0, 3, 10, 11])) <|
  .cond (.tmp 11)
    (.exit 1)
    (.skip)) <|
  .seq (.seq (.seq (.region [
    ⟨.yes, (some 15), .binOp .eql 5 (.tmp 10) (.const (.int .u8 (61))) 5, false, false, []⟩,
    ⟨.yes, (some 14), .assign (.tmp 15), true, false, []⟩] [3, 10, 14]) <|
  .cond (.tmp 14)
    (.skip)
    (.seq (.region [
      ⟨.yes, (some 16), .binOp .eql 5 (.tmp 10) (.const (.int .u8 (33))) 5, false, false, []⟩,
      ⟨.yes, (some 14), .assign (.tmp 16), true, false, []⟩] [3, 10, 14]) <|
    .cond (.tmp 14)
      (.skip)
      (.seq (.region [
        ⟨.yes, (some 17), .binOp .eql 5 (.tmp 10) (.const (.int .u8 (60))) 5, false, false, []⟩,
        ⟨.yes, (some 14), .assign (.tmp 17), true, false, []⟩] [3, 10, 14]) <|
      .cond (.tmp 14)
        (.skip)
        (.region [
          ⟨.yes, (some 18), .binOp .eql 5 (.tmp 10) (.const (.int .u8 (62))) 5, false, false, []⟩,
          ⟨.yes, (some 14), .assign (.tmp 18), true, false, []⟩] [3, 10, 14])))) <|
  .cond (.tmp 14)
    (.exit 2)
    (.skip)) <|
  .seq (.seq (.region [
    ⟨.yes, (some 20), .binOp .eql 5 (.tmp 10) (.const (.int .u8 (40))) 5, false, false, []⟩,
    ⟨.yes, (some 19), .assign (.tmp 20), true, false, []⟩] [10, 19]) <|
  .cond (.tmp 19)
    (.skip)
    (.seq (.region [
      ⟨.yes, (some 21), .binOp .eql 5 (.tmp 10) (.const (.int .u8 (41))) 5, false, false, []⟩,
      ⟨.yes, (some 19), .assign (.tmp 21), true, false, []⟩] [10, 19]) <|
    .cond (.tmp 19)
      (.skip)
      (.seq (.region [
        ⟨.yes, (some 22), .binOp .eql 5 (.tmp 10) (.const (.int .u8 (123))) 5, false, false, []⟩,
        ⟨.yes, (some 19), .assign (.tmp 22), true, false, []⟩] [10, 19]) <|
      .cond (.tmp 19)
        (.skip)
        (.seq (.region [
          ⟨.yes, (some 23), .binOp .eql 5 (.tmp 10) (.const (.int .u8 (125))) 5, false, false, []⟩,
          ⟨.yes, (some 19), .assign (.tmp 23), true, false, []⟩] [10, 19]) <|
        .cond (.tmp 19)
          (.skip)
          (.seq (.region [
            ⟨.yes, (some 24), .binOp .eql 5 (.tmp 10) (.const (.int .u8 (91))) 5, false, false, []⟩,
            ⟨.yes, (some 19), .assign (.tmp 24), true, false, []⟩] [10, 19]) <|
          .cond (.tmp 19)
            (.skip)
            (.seq (.region [
              ⟨.yes, (some 25), .binOp .eql 5 (.tmp 10) (.const (.int .u8 (93))) 5, false, false, []⟩,
              ⟨.yes, (some 19), .assign (.tmp 25), true, false, []⟩] [10, 19]) <|
            .cond (.tmp 19)
              (.skip)
              (.seq (.region [
                ⟨.yes, (some 26), .binOp .eql 5 (.tmp 10) (.const (.int .u8 (44))) 5, false, false, []⟩,
                ⟨.yes, (some 19), .assign (.tmp 26), true, false, []⟩] [10, 19]) <|
              .cond (.tmp 19)
                (.skip)
                (.seq (.region [
                  ⟨.yes, (some 27), .binOp .eql 5 (.tmp 10) (.const (.int .u8 (59))) 5, false, false, []⟩,
                  ⟨.yes, (some 19), .assign (.tmp 27), true, false, []⟩] [10, 19]) <|
                .cond (.tmp 19)
                  (.skip)
                  (.seq (.region [
                    ⟨.yes, (some 28), .binOp .eql 5 (.tmp 10) (.const (.int .u8 (43))) 5, false, false, []⟩,
                    ⟨.yes, (some 19), .assign (.tmp 28), true, false, []⟩] [10, 19]) <|
                  .cond (.tmp 19)
                    (.skip)
                    (.seq (.region [
                      ⟨.yes, (some 29), .binOp .eql 5 (.tmp 10) (.const (.int .u8 (45))) 5, false, false, []⟩,
                      ⟨.yes, (some 19), .assign (.tmp 29), true, false, []⟩] [10, 19]) <|
                    .cond (.tmp 19)
                      (.skip)
                      (.seq (.region [
                        ⟨.yes, (some 30), .binOp .eql 5 (.tmp 10) (.const (.int .u8 (42))) 5, false, false, []⟩,
                        ⟨.yes, (some 19), .assign (.tmp 30), true, false, []⟩] [10, 19]) <|
                      .cond (.tmp 19)
                        (.skip)
                        (.seq (.region [
                          ⟨.yes, (some 31), .binOp .eql 5 (.tmp 10) (.const (.int .u8 (47))) 5, false, false, []⟩,
                          ⟨.yes, (some 19), .assign (.tmp 31), true, false, []⟩] [10, 19]) <|
                        .cond (.tmp 19)
                          (.skip)
                          (.region [
                            ⟨.yes, (some 32), .binOp .eql 5 (.tmp 10) (.const (.int .u8 (37))) 5, false, false, []⟩,
                            ⟨.yes, (some 19), .assign (.tmp 32), true, false, []⟩] [19]))))))))))))) <|
  .cond (.tmp 19)
    (.exit 3)
    (.skip)) <|
  .exit 0) <|
  .seq (.seq (.seq (.region [
    ⟨.yes, (some 33), .move (.tmp 3), true, false, []⟩,
    ⟨.yes, (some 34), .move (.tmp 0), true, false, []⟩,
    ⟨.yes, (some 35), .index 9 (.tmp 34) (.const (.int .i64 (0))), false, false, []⟩,
    ⟨.yes, (some 36), .binOp .eql 5 (.tmp 33) (.tmp 35) 5, false, false, []⟩] [36]) <|
  .cond (.tmp 36)
    (.seq (.region [
      ⟨.yes, (some 2), .assign (.const (.int .i64 (2))), false, false, []⟩] [2]) <|
    .ret)
    (.skip)) <|
  .seq (.region [
    ⟨.yes, (some 2), .assign (.const (.int .i64 (0))), false, false, []⟩] [2]) <|
  .ret) <|
  .exit 0) <|
  .seq (.region [
    ⟨.yes, (some 37), .move (.tmp 3), true, false, []⟩,
    ⟨.yes, (some 38), .binOp .eql 5 (.tmp 37) (.const (.int .u8 (61))) 5, false, false, []⟩] [38]) <|
  .cond (.tmp 38)
    (.seq (.region [
      ⟨.yes, (some 2), .assign (.const (.int .i64 (2))), false, false, []⟩] [2]) <|
    .ret)
    (.skip)) <|
  .seq (.seq (.region [
    ⟨.yes, (some 2), .assign (.const (.int .i64 (1))), false, false, []⟩] [2]) <|
  .ret) <|
  .exit 0) <|
  .seq (.region [
    ⟨.yes, (some 2), .assign (.const (.int .i64 (0))), false, false, []⟩] [2]) <|
  .ret

theorem c_sign_eq : ∃ c, Tryd.f30.body = some c ∧ codeOK Tryd.f30.ntmps c = true ∧ comp Tryd.prog (ann 30) c = erase c_sign := ⟨_, rfl, by kernel_rfl, by kernel_rfl⟩

theorem tree_sign (s : List UInt8) : fnT Xsign c_sign Tryd.f30.results.toList [.d (.str s)] [] = (
    .br (decide ((1 : Int) < (s.length : Int)))
 (.br (decide ((0 : Int) ≤ 1))
 (.opt (s[1]?) fun b1 => .br (decide ((0 : Int) ≤ 0))
 (.opt (s[0]?) fun b2 => .br (decide ((b2.toNat : Int) = 38))
 (.br (decide ((0 : Int) ≤ 0))
 (.opt (s[0]?) fun b3 => .br (decide ((b1.toNat : Int) = (b3.toNat : Int)))
 (.leaf (.d (.int .i64 2), []))
 (.leaf (.d (.int .i64 0), [])))
 (.fail))
 (.br (decide ((b2.toNat : Int) = 124))
 (.br (decide ((0 : Int) ≤ 0))
 (.opt (s[0]?) fun b4 => .br (decide ((b1.toNat : Int) = (b4.toNat : Int)))
 (.leaf (.d (.int .i64 2), []))
 (.leaf (.d (.int .i64 0), [])))
 (.fail))
 (.br (decide ((b2.toNat : Int) = 61))
 (.br (decide ((b1.toNat : Int) = 61))
 (.leaf (.d (.int .i64 2), []))
 (.leaf (.d (.int .i64 1), [])))
 (.br (decide ((b2.toNat : Int) = 33))
 (.br (decide ((b1.toNat : Int) = 61))
 (.leaf (.d (.int .i64 2), []))
 (.leaf (.d (.int .i64 1), [])))
 (.br (decide ((b2.toNat : Int) = 60))
 (.br (decide ((b1.toNat : Int) = 61))
 (.leaf (.d (.int .i64 2), []))
 (.leaf (.d (.int .i64 1), [])))
 (.br (decide ((b2.toNat : Int) = 62))
 (.br (decide ((b1.toNat : Int) = 61))
 (.leaf (.d (.int .i64 2), []))
 (.leaf (.d (.int .i64 1), [])))
 (.br (decide ((b2.toNat : Int) = 40))
 (.leaf (.d (.int .i64 1), []))
 (.br (decide ((b2.toNat : Int) = 41))
 (.leaf (.d (.int .i64 1), []))
 (.br (decide ((b2.toNat : Int) = 123))
 (.leaf (.d (.int .i64 1), []))
 (.br (decide ((b2.toNat : Int) = 125))
 (.leaf (.d (.int .i64 1), []))
 (.br (decide ((b2.toNat : Int) = 91))
 (.leaf (.d (.int .i64 1), []))
 (.br (decide ((b2.toNat : Int) = 93))
 (.leaf (.d (.int .i64 1), []))
 (.br (decide ((b2.toNat : Int) = 44))
 (.leaf (.d (.int .i64 1), []))
 (.br (decide ((b2.toNat : Int) = 59))
 (.leaf (.d (.int .i64 1), []))
 (.br (decide ((b2.toNat : Int) = 43))
 (.leaf (.d (.int .i64 1), []))
 (.br (decide ((b2.toNat : Int) = 45))
 (.leaf (.d (.int .i64 1), []))
 (.br (decide ((b2.toNat : Int) = 42))
 (.leaf (.d (.int .i64 1), []))
 (.br (decide ((b2.toNat : Int) = 47))
 (.leaf (.d (.int .i64 1), []))
 (.br (decide ((b2.toNat : Int) = 37))
 (.leaf (.d (.int .i64 1), []))
 (.leaf (.d (.int .i64 0), [])))))))))))))))))))))
 (.fail))
 (.fail))
 (.br (decide ((0 : Int) ≤ 0))
 (.opt (s[0]?) fun b5 => .br (decide ((b5.toNat : Int) = 38))
 (.br (decide ((0 : Int) ≤ 0))
 (.opt (s[0]?) fun b6 => .br (decide ((0 : Int) = (b6.toNat : Int)))
 (.leaf (.d (.int .i64 2), []))
 (.leaf (.d (.int .i64 0), [])))
 (.fail))
 (.br (decide ((b5.toNat : Int) = 124))
 (.br (decide ((0 : Int) ≤ 0))
 (.opt (s[0]?) fun b7 => .br (decide ((0 : Int) = (b7.toNat : Int)))
 (.leaf (.d (.int .i64 2), []))
 (.leaf (.d (.int .i64 0), [])))
 (.fail))
 (.br (decide ((b5.toNat : Int) = 61))
 (.br (decide ((0 : Int) = 61))
 (.leaf (.d (.int .i64 2), []))
 (.leaf (.d (.int .i64 1), [])))
 (.br (decide ((b5.toNat : Int) = 33))
 (.br (decide ((0 : Int) = 61))
 (.leaf (.d (.int .i64 2), []))
 (.leaf (.d (.int .i64 1), [])))
 (.br (decide ((b5.toNat : Int) = 60))
 (.br (decide ((0 : Int) = 61))
 (.leaf (.d (.int .i64 2), []))
 (.leaf (.d (.int .i64 1), [])))
 (.br (decide ((b5.toNat : Int) = 62))
 (.br (decide ((0 : Int) = 61))
 (.leaf (.d (.int .i64 2), []))
 (.leaf (.d (.int .i64 1), [])))
 (.br (decide ((b5.toNat : Int) = 40))
 (.leaf (.d (.int .i64 1), []))
 (.br (decide ((b5.toNat : Int) = 41))
 (.leaf (.d (.int .i64 1), []))
 (.br (decide ((b5.toNat : Int) = 123))
 (.leaf (.d (.int .i64 1), []))
 (.br (decide ((b5.toNat : Int) = 125))
 (.leaf (.d (.int .i64 1), []))
 (.br (decide ((b5.toNat : Int) = 91))
 (.leaf (.d (.int .i64 1), []))
 (.br (decide ((b5.toNat : Int) = 93))
 (.leaf (.d (.int .i64 1), []))
 (.br (decide ((b5.toNat : Int) = 44))
 (.leaf (.d (.int .i64 1), []))
 (.br (decide ((b5.toNat : Int) = 59))
 (.leaf (.d (.int .i64 1), []))
 (.br (decide ((b5.toNat : Int) = 43))
 (.leaf (.d (.int .i64 1), []))
 (.br (decide ((b5.toNat : Int) = 45))
 (.leaf (.d (.int .i64 1), []))
 (.br (decide ((b5.toNat : Int) = 42))
 (.leaf (.d (.int .i64 1), []))
 (.br (decide ((b5.toNat : Int) = 47))
 (.leaf (.d (.int .i64 1), []))
 (.br (decide ((b5.toNat : Int) = 37))
 (.leaf (.d (.int .i64 1), []))
 (.leaf (.d (.int .i64 0), [])))))))))))))))))))))
 (.fail)) : Tr (AV × Hp)) := by kernel_rfl

theorem ok_sign : FnOK Tryd.prog gl 30 signT := by
  refine fn_of (X := Xsign) (xok_Xsign 30) Tryd.func30 c_sign_eq (by kernel_rfl) (by simp only [Sums, c_sign, and_true]) ?_
  intro xs H o h
  unfold signT at h
  split at h
  · rw [tree_sign]
    rcases Tr.br_some h with ⟨h1, h2⟩ | ⟨_, h2⟩
    · obtain rfl := Tr.leaf_some h2
      rename_i s
      cases s with
      | nil => cases h1
      | cons c r =>
        cases r with
        | nil =>
          simp only [Tr.run_br, Tr.run_leaf, Tr.run_opt_, decide_eq_true_eq, List.length_cons, List.length_nil, List.getElem?_cons_zero, signLen, second]
          rw [if_neg (by simp), if_pos (by decide)]
          generalize (c.toNat : Int) = x
          repeat' (refine ite_to (fun _ => ?_) (fun _ => ?_))
          all_goals first
            | omega
            | (congr 4; symm; unfold signI; repeat' (refine ite_to (fun _ => ?_) (fun _ => ?_))) <;> omega
        | cons d r =>
          simp only [Tr.run_br, Tr.run_leaf, Tr.run_opt_, decide_eq_true_eq, List.length_cons, List.getElem?_cons_zero, List.getElem?_cons_succ, signLen, second]
          rw [if_pos (by omega), if_pos (by decide), if_pos (by decide)]
          generalize (c.toNat : Int) = x
          generalize (d.toNat : Int) = y
          repeat' (refine ite_to (fun _ => ?_) (fun _ => ?_))
          all_goals first
            | omega
            | (congr 4; symm; unfold signI; repeat' (refine ite_to (fun _ => ?_) (fun _ => ?_))) <;> omega
    · exact Tr.fail_some h2
  · exact Tr.fail_some h

noncomputable abbrev Xone : TX := ⟨Tryd.prog, tbl [(26, letterT), (28, digitT), (27, runT), (29, numberT), (30, signT)], iso, gl, vw⟩

theorem xok_Xone (f : Nat) : XOK Xone (ann f) gl := XOK.of base (l := [(26, letterT), (28, digitT), (27, runT), (29, numberT), (30, signT)]) ⟨ok_letter, ok_digit, ok_run, ok_number, ok_sign, trivial⟩ f

/-- rollbacknet/token.one -/
def c_one : CC := .seq (.region [
    ⟨.yes, (some 2), .alloc 38, false, false, []⟩,
    ⟨.yes, (some 3), .assign (.const (.int .i64 (0))), false, false, []⟩,
    ⟨.yes, (some 4), .assign (.const (.int .i64 (0))), false, false, []⟩] [0, 2]) <|
  .seq (.block 0 <| .seq (.region [
    ⟨.yes, (some 8), .move (.tmp 0), false, false, []⟩,
    ⟨.yes, (some 9), .index 9 (.tmp 8) (.const (.int .i64 (0))), false, false, []⟩,
    ⟨.yes, (some 10), .call ⟨.value (.func 26), #[(.tmp 9)], #[5]⟩, false, false, []⟩,
    ⟨.yes, (some 7), .assign (.tmp 10), true, false, []⟩] [0, 2, 7]) <|
  .cond (.tmp 7)
    (.seq (.region [
      ⟨.yes, (some 11), .move (.tmp 0), false, false, []⟩,
      ⟨.yes, (some 12), .call ⟨.value (.func 27), #[(.tmp 11)], #[9]⟩, false, false, []⟩,
      ⟨.yes, (some 5), .assign (.tmp 12), true, false, []⟩] [0, 2, 5]) <|
    .seq (.seq (.region [
      ⟨.yes, (some 13), .move (.tmp 5), false, false, []⟩,
      ⟨.yes, (some 14), .binOp .gtr 3 (.tmp 13) (.const (.int .i64 (16))) 3, false, false, []⟩] [0, 2, 5, 14]) <|
    .cond (.tmp 14)
      (.seq (.region [
        ⟨.yes, (some 15), .build 38 #[], false, false, []⟩,
        ⟨.yes, none, .store 38 (.tmp 2) (.tmp 15), true, false, []⟩,
        ⟨.yes, (some 3), .assign (.const (.int .i64 (0))), false, false, []⟩,
        ⟨.yes, (some 4), .assign (.const (.int .i64 (5))), false, false, []⟩] [2, 3, 4]) <|
      .ret)
      (.skip)) <|
    .seq (.region [
      ⟨.yes, (some 16), .move (.tmp 0), true, false, []⟩,
      ⟨.yes, (some 17), .move (.tmp 5), false, false, []⟩,
      ⟨.yes, (some 18), .slice 9 (.tmp 16) none (some (.tmp 17)) none, false, false, []⟩,
      ⟨.yes, (some 19), .build 38 #[(0, (.const (.int .i64 (1)))), (1, (.tmp 18))], true, false, []⟩,
      ⟨.yes, (some 20), .move (.tmp 5), true, false, []⟩,
      ⟨.yes, none, .store 38 (.tmp 2) (.tmp 19), true, false, []⟩,
      ⟨.yes, (some 3), .assign (.tmp 20), true, false, []⟩,
      ⟨.yes, (some 4), .assign (.const (.int .i64 (0))), false, false, []⟩] [2, 3, 4]) <|
    .ret)
    (.seq (.region [
      ⟨.yes, (some 22), .move (.tmp 0), false, false, []⟩,
      ⟨.yes, (some 23), .index 9 (.tmp 22) (.const (.int .i64 (0))), false, false, []⟩,
      ⟨.yes, (some 24), .call ⟨.value (.func 28), #[(.tmp 23)], #[5]⟩, false, false, []⟩,
      ⟨.yes, (some 21), .assign (.tmp 24), true, false, []⟩] [0, 2, 21]) <|
    .cond (.tmp 21)
      (.seq (.region [
        ⟨.yes, (some 25), .move (.tmp 0), true, false, []⟩,
        ⟨.yes, (some 26), .call ⟨.value (.func 29), #[(.tmp 25)], #[9]⟩, false, false, []⟩,
        ⟨.yes, (some 27), .extract (.tmp 26) 0, false, false, []⟩,
        ⟨.yes, (some 28), .extract (.tmp 26) 1, false, false, []⟩,
        ⟨.yes, (some 29), .extract (.tmp 26) 2, false, false, []⟩,
        ⟨.yes, none, .store 38 (.tmp 2) (.tmp 27), true, false, []⟩,
        ⟨.yes, (some 3), .assign (.tmp 28), true, false, []⟩,
        ⟨.yes, (some 4), .assign (.tmp 29), true, false, []⟩] [2, 3, 4]) <|
      .ret)
      (.skip))) <|
  .seq (.region [
    ⟨.yes, (some 30), .move (.tmp 0), false, false, []⟩,
    ⟨.yes, (some 31), .call ⟨.value (.func 30), #[(.tmp 30)], #[9]⟩, false, false, []⟩,
    ⟨.yes, (some 6), .assign (.tmp 31), true, false, []⟩] [0, 2, 6]) <|
  .seq (.seq (.region [
    ⟨.yes, (some 32), .move (.tmp 6), false, false, []⟩,
    ⟨.yes, (some 33), .binOp .eql 3 (.tmp 32) (.const (.int .i64 (0))) 3, false, false, []⟩] [0, 2, 6, 33]) <|
  .cond (.tmp 33)
    (.seq (.region [
      ⟨.yes, (some 34), .build 38 #[], false, false, []⟩,
      ⟨.yes, none, .store 38 (.tmp 2) (.tmp 34), true, false, []⟩,
      ⟨.yes, (some 3), .assign (.const (.int .i64 (0))), false, false, []⟩,
      ⟨.yes, (some 4), .assign (.const (.int .i64 (1))), false, false, []⟩] [2, 3, 4]) <|
    .ret)
    (.skip)) <|
  .seq (.region [
    ⟨.yes, (some 35), .move (.tmp 0), true, false, []⟩,
    ⟨.yes, (some 36), .move (.tmp 6), false, false, []⟩,
    ⟨.yes, (some 37), .slice 9 (.tmp 35) none (some (.tmp 36)) none, false, false, []⟩,
    ⟨.yes, (some 38), .build 38 #[(0, (.const (.int .i64 (3)))), (1, (.tmp 37))], true, false, []⟩,
    ⟨.yes, (some 39), .move (.tmp 6), true, false, []⟩,
    ⟨.yes, none, .store 38 (.tmp 2) (.tmp 38), true, false, []⟩,
    ⟨.yes, (some 3), .assign (.tmp 39), true, false, []⟩,
    ⟨.yes, (some 4), .assign (.const (.int .i64 (0))), false, false, []⟩] [2, 3, 4]) <|
  .ret

theorem c_one_eq : ∃ c, Tryd.f22.body = some c ∧ codeOK Tryd.f22.ntmps c = true ∧ comp Tryd.prog (ann 22) c = erase c_one := ⟨_, rfl, by kernel_rfl, by kernel_rfl⟩

theorem tree_one (s : List UInt8) : fnT Xone c_one Tryd.f22.results.toList [.d (.str s)] [] = (
    .br (decide ((0 : Int) ≤ 0))
 (.opt (s[0]?) fun b1 => .br (isLetter (b1.toNat : Int))
 (.br (decide ((s.length : Int) ≤ big))
 (.br (decide ((16 : Int) < (pre isWord s : Int)))
 (.leaf (.tup [.agg [.d (.int .i64 0), .d (.str []), .d (.int .i64 0), .d (.int .i64 0)], .d (.int .i64 0), .d (.int .i64 5)], []))
 (.br (decide ((0 : Int) ≤ 0 ∧ (0 : Int) ≤ (pre isWord s : Int) ∧ (pre isWord s : Int) ≤ (s.length : Int)))
 (.leaf (.tup [.agg [.d (.int .i64 1), .d (.str (List.drop 0 (List.take (Int.toNat (pre isWord s : Int)) s))), .d (.int .i64 0), .d (.int .i64 0)], .d (.int .i64 (pre isWord s : Int)), .d (.int .i64 0)], []))
 (.fail)))
 (.fail))
 (.br (decide ((0 : Int) ≤ 0))
 (.opt (s[0]?) fun b2 => .br (isDigit (b2.toNat : Int))
 (.br (numPre s)
 (.leaf (.tup [.agg [.d (.int .i64 ((numRes s).kd)), .d (.str ((numRes s).tx)), .d (.int .i64 ((numRes s).vl)), .d (.int .i64 0)], .d (.int .i64 ((numRes s).ln)), .d (.int .i64 ((numRes s).er))], []))
 (.fail))
 (.br (!s.isEmpty)
 (.br (decide ((signLen s) = 0))
 (.leaf (.tup [.agg [.d (.int .i64 0), .d (.str []), .d (.int .i64 0), .d (.int .i64 0)], .d (.int .i64 0), .d (.int .i64 1)], []))
 (.br (decide ((0 : Int) ≤ 0 ∧ (0 : Int) ≤ (signLen s) ∧ (signLen s) ≤ (s.length : Int)))
 (.leaf (.tup [.agg [.d (.int .i64 3), .d (.str (List.drop 0 (List.take (Int.toNat (signLen s)) s))), .d (.int .i64 0), .d (.int .i64 0)], .d (.int .i64 (signLen s)), .d (.int .i64 0)], []))
 (.fail)))
 (.fail)))
 (.fail)))
 (.fail) : Tr (AV × Hp)) := by kernel_rfl


theorem signLen_le (c : UInt8) (r : List UInt8) : 0 ≤ signLen (c :: r) ∧ signLen (c :: r) ≤ ((c :: r).length : Int) := by
  have hc := c.toNat_lt
  cases r with
  | nil =>
    simp only [signLen, second, signI, List.length_cons, List.length_nil]
    constructor <;> repeat' split <;> omega
  | cons d r =>
    simp only [signLen, second, signI, List.length_cons]
    constructor <;> repeat' split <;> omega
theorem ok_one : FnOK Tryd.prog gl 22 oneT := by
  refine fn_of (X := Xone) (xok_Xone 22) Tryd.func22 c_one_eq (by kernel_rfl) (by simp only [Sums, c_one, and_true]) ?_
  intro xs H o h
  unfold oneT at h
  split at h
  · rw [tree_one]
    rcases Tr.br_some h with ⟨h1, h2⟩ | ⟨_, h2⟩
    · obtain rfl := Tr.leaf_some h2
      rename_i s
      simp only [onePre, Bool.and_eq_true, decide_eq_true_eq] at h1
      obtain ⟨h3, h4⟩ := h1
      cases s with
      | nil => cases h4
      | cons c r =>
        have hle := pre_le isWord (c :: r)
        refine Tr.dec_yes (by omega) (Tr.opt_to rfl ?_)
        cases hl : isLetter (c.toNat : Int) with
        | true =>
          rw [Tr.run_yes rfl]
          refine Tr.dec_yes h3 ?_
          by_cases hn : 16 < pre isWord (c :: r)
          · refine Tr.dec_yes (by omega) ?_
            simp [Tr.run_leaf, oneRes, isLet, hl, hn]
          · refine Tr.dec_no (by omega) (Tr.dec_yes (by omega) ?_)
            simp [Tr.run_leaf, oneRes, isLet, hl, hn]
        | false =>
          rw [Tr.run_no rfl]
          refine Tr.dec_yes (by omega) (Tr.opt_to rfl ?_)
          cases hd : isDigit (c.toNat : Int) with
          | true =>
            rw [Tr.run_yes rfl, Tr.run_yes (by simp [numPre, isDig, hd]; exact h3)]
            simp [Tr.run_leaf, oneRes, isLet, isDig, hl, hd]
          | false =>
            rw [Tr.run_no rfl, Tr.run_yes h4]
            have hs := signLen_le c r
            by_cases h0 : signLen (c :: r) = 0
            · refine Tr.dec_yes h0 ?_
              simp [Tr.run_leaf, oneRes, isLet, isDig, hl, hd, h0]
            · refine Tr.dec_no h0 (Tr.dec_yes (by omega) ?_)
              simp [Tr.run_leaf, oneRes, isLet, isDig, hl, hd, h0]
    · exact Tr.fail_some h2
  · exact Tr.fail_some h

end Go.AI.TD
