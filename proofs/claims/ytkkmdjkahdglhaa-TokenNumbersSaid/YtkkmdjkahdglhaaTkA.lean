/- The code of the token functions, and their small ones in sum. -/
import Derived.Test.YtkkmdjkahdglhaaProg
import Derived.Test.YtkkmdjkahdglhaaAxFn
import Derived.KernelRfl
namespace Go.AI.TK
open Go Go.Proofs
set_option maxRecDepth 10000
set_option linter.unusedVariables false
set_option linter.unusedSimpArgs false

def gl : Nat → Option DV := fun _ => none

structure Tok where
  kind : Int
  text : List UInt8
  value : Int
  pos : Int
  deriving DecidableEq
def encTok (t : Tok) : DV := .agg [.int .i64 t.kind, .str t.text, .int .i64 t.value, .int .i64 t.pos]
def unTok : DV → Option Tok
  | .agg [.int .i64 k, .str t, .int .i64 v, .int .i64 a] => some ⟨k, t, v, a⟩
  | _ => none
theorem unTok_enc (t : Tok) : unTok (encTok t) = some t := rfl
theorem unTok_ok : ∀ x y, unTok x = some y → x = encTok y := by
  intro x y h
  unfold unTok at h
  split at h
  · obtain rfl := Option.some.inj h; rfl
  · simp at h
def tokView : View := ⟨Tok, unTok, encTok, unTok_ok⟩
theorem enc_cells (t : Tok) : (encTok t).cells.length = 4 := rfl

def tab : List (Nat × List (Nat × RA)) := [
  (7, [(0, ⟨[], [], [0]⟩), (1, ⟨[], [], [0, 13]⟩), (2, ⟨[], [], [2, 3, 4]⟩), (3, ⟨[], [], [0, 5]⟩), (4, ⟨[], [], [0, 5, 6]⟩), (5, ⟨[], [], [0, 5, 6, 17]⟩), (6, ⟨[3], [], [0, 5, 6, 7]⟩), (7, ⟨[2, 6, 10, 14], [], [0, 5, 6, 7, 21]⟩), (8, ⟨[0, 2], [], [0, 5, 6]⟩), (9, ⟨[0, 2], [], [0, 5, 6, 38]⟩), (10, ⟨[4], [], [0, 5, 6, 50]⟩), (11, ⟨[0, 2], [], [0, 5, 6]⟩), (12, ⟨[4, 9, 10, 11], [], [0, 5, 6, 8, 9, 10]⟩), (13, ⟨[], [], [0, 5, 6, 8, 9, 10, 62]⟩), (14, ⟨[0, 1, 3, 4], [], [2, 3, 4]⟩), (15, ⟨[2], [], [0, 5, 6, 8, 9]⟩), (16, ⟨[0, 3, 4], [], [0, 5, 6, 9]⟩), (17, ⟨[0, 1, 3], [], [0, 5, 6]⟩), (18, ⟨[0, 1], [], [2, 3, 4]⟩)]),
  (11, [(0, ⟨[], [], [0]⟩), (1, ⟨[2, 7, 12, 19, 20, 24], [], [2]⟩)]),
  (13, [(0, ⟨[], [], [0]⟩), (1, ⟨[0], [], [3]⟩), (2, ⟨[1], [], [3, 4]⟩), (3, ⟨[1], [], [3, 4]⟩), (4, ⟨[1], [], [3, 4]⟩), (5, ⟨[1], [], [3, 4]⟩), (6, ⟨[1], [], [3, 4]⟩), (7, ⟨[1], [], [3, 4]⟩), (8, ⟨[1], [], [3, 4]⟩), (9, ⟨[1], [], [3, 4]⟩), (10, ⟨[1], [], [3, 4]⟩), (11, ⟨[1], [], [3, 4]⟩), (12, ⟨[1], [], [3, 4]⟩), (13, ⟨[1], [], [3, 4]⟩), (14, ⟨[1], [], [3, 4]⟩), (15, ⟨[1], [], [3, 4]⟩), (16, ⟨[1], [], [3, 4]⟩), (17, ⟨[1], [], [4]⟩), (18, ⟨[], [], [2]⟩), (19, ⟨[], [], [2]⟩)]),
  (15, [(0, ⟨[], [], [0, 2]⟩), (1, ⟨[3], [], [0, 2, 7]⟩), (2, ⟨[2], [], [0, 2, 5]⟩), (3, ⟨[], [], [0, 2, 5, 14]⟩), (4, ⟨[1], [], [2, 3, 4]⟩), (5, ⟨[0, 3, 4, 5, 6], [], [2, 3, 4]⟩), (6, ⟨[3], [], [0, 2, 21]⟩), (7, ⟨[0, 5, 6, 7], [], [2, 3, 4]⟩), (8, ⟨[2], [], [0, 2, 6]⟩), (9, ⟨[], [], [0, 2, 6, 33]⟩), (10, ⟨[1], [], [2, 3, 4]⟩), (11, ⟨[0, 3, 4, 5, 6], [], [2, 3, 4]⟩)]),
  (19, [(0, ⟨[], [], [0]⟩), (1, ⟨[2, 6, 9, 14, 15, 18], [], [2]⟩)]),
  (20, [(0, ⟨[], [], [0]⟩), (1, ⟨[], [], [0, 3]⟩), (2, ⟨[4, 9], [], [0, 3, 19]⟩), (3, ⟨[0, 2], [], [0, 3]⟩), (4, ⟨[0, 1], [], [2]⟩)]),
  (23, [(0, ⟨[], [], [0]⟩), (1, ⟨[2, 3, 6], [], [2]⟩)]),
  (24, [(0, ⟨[], [], [0, 2]⟩), (1, ⟨[], [], [0, 2, 5]⟩), (2, ⟨[3, 9], [], [0, 2, 5, 24]⟩), (3, ⟨[0, 2], [], [0, 2, 5]⟩), (4, ⟨[4, 9], [], [0, 2, 5, 42]⟩), (5, ⟨[1], [], [2, 3, 4]⟩), (6, ⟨[], [], [0, 2, 5, 6]⟩), (7, ⟨[0], [], [2, 5, 6, 47, 48, 49]⟩), (8, ⟨[], [], [2, 5, 6, 47, 48, 49, 50]⟩), (9, ⟨[2], [], [2, 5, 6, 8, 47, 48, 49]⟩), (10, ⟨[0, 3], [], [2, 5, 6, 9, 47, 48, 49]⟩), (11, ⟨[], [], [2, 5, 6, 9, 47, 48, 49, 60]⟩), (12, ⟨[1], [], [2, 3, 4]⟩), (13, ⟨[0, 2, 4], [], [2, 5, 6, 47, 48, 49]⟩), (14, ⟨[1], [], [2, 5, 6, 47, 48, 49]⟩), (15, ⟨[0, 1, 2, 3, 4], [], [2, 3, 4]⟩)]),
  (25, [(0, ⟨[], [], [0]⟩), (1, ⟨[], [], [0, 3]⟩), (2, ⟨[], [], [0, 3, 6]⟩), (3, ⟨[2], [], [0, 3]⟩), (4, ⟨[], [], [0, 3, 10]⟩), (5, ⟨[1], [], [0, 3, 10, 11]⟩), (6, ⟨[1], [], [0, 3, 10, 11]⟩), (7, ⟨[1], [], [3, 10, 14]⟩), (8, ⟨[1], [], [3, 10, 14]⟩), (9, ⟨[1], [], [3, 10, 14]⟩), (10, ⟨[1], [], [3, 10, 14]⟩), (11, ⟨[1], [], [10, 19]⟩), (12, ⟨[1], [], [10, 19]⟩), (13, ⟨[1], [], [10, 19]⟩), (14, ⟨[1], [], [10, 19]⟩), (15, ⟨[1], [], [10, 19]⟩), (16, ⟨[1], [], [10, 19]⟩), (17, ⟨[1], [], [10, 19]⟩), (18, ⟨[1], [], [10, 19]⟩), (19, ⟨[1], [], [10, 19]⟩), (20, ⟨[1], [], [10, 19]⟩), (21, ⟨[1], [], [10, 19]⟩), (22, ⟨[1], [], [10, 19]⟩), (23, ⟨[1], [], [19]⟩), (24, ⟨[0, 1], [], [36]⟩), (25, ⟨[], [], [2]⟩), (26, ⟨[], [], [2]⟩), (27, ⟨[0], [], [38]⟩), (28, ⟨[], [], [2]⟩), (29, ⟨[], [], [2]⟩), (30, ⟨[], [], [2]⟩)]),
  (8, [(0, ⟨[], [], [0]⟩), (1, ⟨[], [], [0, 12]⟩), (2, ⟨[], [], [2, 3, 4]⟩), (3, ⟨[], [], [0, 5]⟩), (4, ⟨[], [], [0, 5, 6]⟩), (5, ⟨[], [], [0, 5, 6, 16]⟩), (6, ⟨[3, 8, 9, 10], [], [0, 5, 6, 7, 8, 9]⟩), (7, ⟨[], [], [0, 5, 6, 7, 8, 9, 25]⟩), (8, ⟨[0, 1, 3, 4], [], [2, 3, 4]⟩), (9, ⟨[0, 3, 4], [], [0, 5, 8]⟩), (10, ⟨[0, 1], [], [0, 5, 6]⟩), (11, ⟨[4], [], [0, 5, 6, 33]⟩), (12, ⟨[0, 2], [], [0, 5, 6]⟩), (13, ⟨[4], [], [0, 5, 6, 40]⟩), (14, ⟨[4], [], [0, 5, 6, 54]⟩), (15, ⟨[0, 2], [], [0, 5, 6]⟩), (16, ⟨[0, 1], [], [2, 3, 4]⟩)]),
  (9, [(0, ⟨[], [], [0, 1]⟩), (1, ⟨[], [], [0, 1, 9]⟩), (2, ⟨[], [], [4]⟩), (3, ⟨[], [], [0, 1, 5]⟩), (4, ⟨[], [], [0, 1, 5, 13]⟩), (5, ⟨[0, 2], [], [0, 1, 5]⟩), (6, ⟨[], [], [0, 1, 5, 26]⟩), (7, ⟨[], [], [4]⟩), (8, ⟨[], [], [4]⟩)]),
  (10, [(0, ⟨[], [], [0]⟩), (1, ⟨[], [], [0, 5]⟩), (2, ⟨[], [], [2]⟩), (3, ⟨[], [], [0, 3]⟩), (4, ⟨[], [], [0, 3, 7]⟩), (5, ⟨[6, 8], [], [0, 3]⟩), (6, ⟨[0, 2], [], [0, 3]⟩), (7, ⟨[0, 1], [], [2]⟩)]),
  (12, [(0, ⟨[], [], [0]⟩), (1, ⟨[3, 8, 14], [], [0, 21]⟩), (2, ⟨[], [], [2]⟩), (3, ⟨[], [], [0, 3]⟩), (4, ⟨[], [], [0, 3, 25]⟩), (5, ⟨[0, 2], [], [0, 3]⟩), (6, ⟨[5], [], [0, 3, 39]⟩), (7, ⟨[], [], [2]⟩), (8, ⟨[], [], [2]⟩)]),
  (14, [(0, ⟨[], [], [0]⟩), (1, ⟨[], [], [0, 8]⟩), (2, ⟨[], [], [2]⟩), (3, ⟨[], [], [0, 3]⟩), (4, ⟨[], [], [0, 3, 12]⟩), (5, ⟨[0, 2], [], [0, 3]⟩), (6, ⟨[], [], [0, 3, 18]⟩), (7, ⟨[], [], [2]⟩), (8, ⟨[0, 3], [], [4]⟩), (9, ⟨[], [], [4, 5]⟩), (10, ⟨[], [], [4, 5, 26]⟩), (11, ⟨[0, 2], [], [4, 5]⟩), (12, ⟨[], [], [4, 5, 36]⟩), (13, ⟨[], [], [2]⟩), (14, ⟨[], [], [2]⟩)]),
  (16, [(0, ⟨[], [], [0]⟩), (1, ⟨[2, 6, 10, 11, 14], [], [2]⟩)]),
  (17, [(0, ⟨[], [], [0, 1, 4]⟩), (1, ⟨[3], [], [0, 1, 4, 7]⟩), (2, ⟨[2], [], [0, 1, 4, 7, 8]⟩), (3, ⟨[2], [], [0, 1, 4, 7, 8, 16]⟩), (4, ⟨[4, 9], [], [0, 1, 4, 8, 34]⟩), (5, ⟨[0, 2], [], [0, 1, 4, 8]⟩), (6, ⟨[], [], [0, 1, 4, 8, 40]⟩), (7, ⟨[1], [], [4, 5, 6]⟩), (8, ⟨[0, 4, 5, 6, 7, 8], [], [4, 5, 6]⟩), (9, ⟨[2], [], [0, 1, 4, 7, 8, 49]⟩), (10, ⟨[0], [], [0, 1, 4, 8, 53]⟩), (11, ⟨[4], [], [0, 1, 4, 8, 63]⟩), (12, ⟨[0, 2], [], [0, 1, 4, 8]⟩), (13, ⟨[4, 9], [], [0, 1, 4, 8, 81]⟩), (14, ⟨[1], [], [4, 5, 6]⟩), (15, ⟨[0, 5, 8, 9], [], [1, 4, 8, 9, 10]⟩), (16, ⟨[0], [], [1, 4, 8, 9, 92]⟩), (17, ⟨[1], [], [4, 5, 6]⟩), (18, ⟨[0, 1, 2, 3, 4, 5], [], [4, 5, 6]⟩), (19, ⟨[4, 11], [], [0, 1, 4, 7, 8, 98]⟩), (20, ⟨[0, 5, 6, 7, 9, 10], [], [4, 5, 6]⟩), (21, ⟨[0, 2], [], [0, 1, 4, 8, 119]⟩), (22, ⟨[0, 4, 5, 6, 7, 8], [], [4, 5, 6]⟩), (23, ⟨[1], [], [4, 5, 6]⟩)]),
  (18, [(0, ⟨[], [], [0, 1]⟩), (1, ⟨[], [], [0, 1, 10]⟩), (2, ⟨[], [], [4]⟩), (3, ⟨[], [], [0, 1, 5]⟩), (4, ⟨[], [], [0, 1, 5, 14]⟩), (5, ⟨[0, 2], [], [0, 1, 5]⟩), (6, ⟨[11, 24], [], [0, 1, 5, 53]⟩), (7, ⟨[], [], [4]⟩), (8, ⟨[], [], [4]⟩)]),
  (21, [(0, ⟨[], [], [0]⟩), (1, ⟨[2, 6, 9, 14, 15, 18], [], [2]⟩)]),
  (22, [(0, ⟨[], [], [0]⟩), (1, ⟨[2, 3, 6], [], [2]⟩)]),
  (26, [(0, ⟨[], [], [0]⟩), (1, ⟨[], [], [0, 4]⟩), (2, ⟨[], [], [0, 4, 5]⟩), (3, ⟨[], [], [0, 4, 5, 10]⟩), (4, ⟨[0, 2], [], [0, 4, 5]⟩), (5, ⟨[5], [], [0, 4, 5, 6]⟩), (6, ⟨[], [], [0, 4, 5, 6, 22]⟩), (7, ⟨[], [], [2, 3]⟩), (8, ⟨[0, 2, 4], [], [0, 4, 5]⟩), (9, ⟨[0, 1], [], [2, 3]⟩)]),
  (27, [(0, ⟨[], [], [0, 1]⟩), (1, ⟨[2, 5, 9, 13, 18, 21, 26, 27, 29, 30, 34], [], [4]⟩)]),
  (28, [(0, ⟨[], [], [0]⟩), (1, ⟨[], [], [0, 3]⟩), (2, ⟨[], [], [0, 3, 5]⟩), (3, ⟨[0, 2], [], [0, 3]⟩), (4, ⟨[], [], [0, 3, 11]⟩), (5, ⟨[], [], [2]⟩), (6, ⟨[], [], [2]⟩)]),
  (3, [(0, ⟨[], [], [0]⟩), (1, ⟨[], [], [0, 10]⟩), (2, ⟨[], [], [2]⟩), (3, ⟨[2, 6, 7, 8], [], [0, 3, 4, 5]⟩), (4, ⟨[0, 2, 6, 7, 8], [], [3, 4, 5, 6, 7, 8]⟩), (5, ⟨[0, 1, 3, 4, 5, 8, 9, 10, 13], [], [2]⟩)]),
  (4, [(0, ⟨[], [], [0, 1]⟩), (1, ⟨[], [], [0, 1, 19]⟩), (2, ⟨[], [], [4]⟩), (3, ⟨[2], [], [0, 1, 5]⟩), (4, ⟨[2, 6, 7, 8], [], [0, 1, 5, 6, 8]⟩), (5, ⟨[0, 2, 7, 14, 15, 19], [], [1, 5, 50]⟩), (6, ⟨[], [], [4]⟩), (7, ⟨[1, 5, 6, 7], [], [1, 5, 11]⟩), (8, ⟨[3, 9, 13, 14, 15], [], [5, 11, 13, 14]⟩), (9, ⟨[0, 3, 7, 8, 9], [], [11, 13, 14, 17]⟩), (10, ⟨[0, 2, 3, 6, 7, 10, 11, 14], [], [4]⟩)]),
  (6, [(0, ⟨[], [], []⟩), (1, ⟨[1, 5, 6, 7], [], [1, 3]⟩), (2, ⟨[0, 2, 7, 14, 15, 21], [], [0]⟩)])]

def ann : FuncId → Ann := annOf tab

def iso (f : Nat) : Bool := [7, 11, 13, 15, 19, 20, 23, 24, 25, 8, 9, 10, 12, 14, 16, 17, 18, 21, 22, 26, 27, 28, 3, 4, 6].contains f

def vwl : List (Nat × View) := [(2, (View.int .i64)), (3, (View.int .i64)), (4, View.bool), (5, (View.int .u8)), (6, (View.int .u8)), (9, View.str), (10, View.str), (11, View.str), (12, (View.int .u64)), (21, (View.int .i32)), (23, (View.sl 4)), (24, (View.int .i64)), (31, tokView), (32, (View.sl 1)), (38, (View.sl 1)), (50, (View.int .u32)), (51, (View.int .u8)), (52, (View.int .u8)), (55, (View.int .i32)), (56, (View.int .i32))]

def vw (t : Nat) : View := lookA View.any vwl t


theorem base : Base Try.prog tab := ⟨progOK_of (by kernel_rfl), by kernel_rfl, by kernel_rfl⟩

def isLetter (c : Int) : Bool := decide (97 ≤ c ∧ c ≤ 122) || decide (65 ≤ c ∧ c ≤ 90) || decide (c = 95)
def isDigit (c : Int) : Bool := decide (48 ≤ c ∧ c ≤ 57)

def letterT : FT
  | [.d (.int .u8 c)], [] => .leaf (.d (.bool (isLetter c)), [])
  | _, _ => .fail

def digitT : FT
  | [.d (.int .u8 c)], [] => .leaf (.d (.bool (isDigit c)), [])
  | _, _ => .fail

def rletterT : FT
  | [.d (.int .u8 c)], [] => .leaf (.d (.bool (isLetter c)), [])
  | _, _ => .fail

def rdigitT : FT
  | [.d (.int .u8 c)], [] => .leaf (.d (.bool (isDigit c)), [])
  | _, _ => .fail

noncomputable abbrev X0 : TX := ⟨Try.prog, tbl [], iso, gl, vw⟩

theorem xok_X0 (f : Nat) : XOK X0 (ann f) gl := XOK.of base (l := []) trivial f

/-- rollbacknet/token.letter -/
def c_letter : CC := .seq (.region [
    ⟨.yes, (some 2), .assign (.const (.bool false)), false, false, []⟩] [0]) <|
  .seq (.region [
    ⟨.yes, (some 3), .move (.tmp 0), false, false, []⟩,
    ⟨.yes, (some 4), .binOp .leq 5 (.const (.int .u8 (97))) (.tmp 3) 5, false, false, []⟩,
    ⟨.yes, (some 5), .move (.tmp 4), true, false, []⟩,
    ⟨(.on 5 true), (some 6), .move (.tmp 0), false, false, []⟩,
    ⟨(.on 5 true), (some 7), .binOp .leq 5 (.tmp 6) (.const (.int .u8 (122))) 5, false, false, []⟩,
    ⟨.yes, (some 8), .pick (.tmp 5) (.tmp 7) (.const (.bool false)), false, false, []⟩,
    ⟨.yes, (some 9), .move (.tmp 8), true, false, []⟩,
    ⟨(.on 9 false), (some 10), .move (.tmp 0), false, false, []⟩,
    ⟨(.on 9 false), (some 11), .binOp .leq 5 (.const (.int .u8 (65))) (.tmp 10) 5, false, false, []⟩,
    ⟨(.on 9 false), (some 12), .move (.tmp 11), true, false, []⟩,
    ⟨(.on 12 true), (some 13), .move (.tmp 0), false, false, []⟩,
    ⟨(.on 12 true), (some 14), .binOp .leq 5 (.tmp 13) (.const (.int .u8 (90))) 5, false, false, []⟩,
    ⟨(.on 9 false), (some 15), .pick (.tmp 12) (.tmp 14) (.const (.bool false)), false, false, []⟩,
    ⟨.yes, (some 16), .pick (.tmp 9) (.const (.bool true)) (.tmp 15), false, false, []⟩,
    ⟨.yes, (some 17), .move (.tmp 16), true, false, []⟩,
    ⟨(.on 17 false), (some 18), .move (.tmp 0), true, false, []⟩,
    ⟨(.on 17 false), (some 19), .binOp .eql 5 (.tmp 18) (.const (.int .u8 (95))) 5, false, false, []⟩,
    ⟨.yes, (some 20), .pick (.tmp 17) (.const (.bool true)) (.tmp 19), false, false, []⟩,
    ⟨.yes, (some 2), .assign (.tmp 20), true, false, []⟩] [2]) <|
  .ret

theorem c_letter_eq : ∃ c, Try.f19.body = some c ∧ codeOK Try.f19.ntmps c = true ∧ comp Try.prog (ann 19) c = erase c_letter := ⟨_, rfl, by kernel_rfl, by kernel_rfl⟩

theorem tree_letter (c : Int) : fnT X0 c_letter Try.f19.results.toList [.d (.int .u8 c)] [] = (
    .br (decide ((97 : Int) ≤ c))
    (.br (decide (c ≤ 122))
      (.leaf ((.d (.bool true)), []))
      (.br (decide ((65 : Int) ≤ c))
        (.br (decide (c ≤ 90))
          (.leaf ((.d (.bool true)), []))
          (.leaf ((.d (.bool (decide (c = 95)))), [])))
        (.leaf ((.d (.bool (decide (c = 95)))), []))))
    (.br (decide ((65 : Int) ≤ c))
      (.br (decide (c ≤ 90))
        (.leaf ((.d (.bool true)), []))
        (.leaf ((.d (.bool (decide (c = 95)))), [])))
      (.leaf ((.d (.bool (decide (c = 95)))), []))) : Tr (AV × Hp)) := by kernel_rfl

theorem ok_letter : FnOK Try.prog gl 19 letterT := by
  refine fn_of (X := X0) (xok_X0 19) Try.func19 c_letter_eq (by kernel_rfl) (by simp only [Sums, c_letter, and_true]) ?_
  intro xs H o h
  unfold letterT at h
  split at h
  · rw [tree_letter]
    obtain rfl := Tr.leaf_some h
    simp only [Tr.run_br, Tr.run_leaf, decide_eq_true_eq, isLetter, isDigit]
    repeat' split
    all_goals (simp; try omega)
  · exact Tr.fail_some h

/-- rollbacknet/token.digit -/
def c_digit : CC := .seq (.region [
    ⟨.yes, (some 2), .assign (.const (.bool false)), false, false, []⟩] [0]) <|
  .seq (.region [
    ⟨.yes, (some 3), .move (.tmp 0), false, false, []⟩,
    ⟨.yes, (some 4), .binOp .leq 5 (.const (.int .u8 (48))) (.tmp 3) 5, false, false, []⟩,
    ⟨.yes, (some 5), .move (.tmp 4), true, false, []⟩,
    ⟨(.on 5 true), (some 6), .move (.tmp 0), true, false, []⟩,
    ⟨(.on 5 true), (some 7), .binOp .leq 5 (.tmp 6) (.const (.int .u8 (57))) 5, false, false, []⟩,
    ⟨.yes, (some 8), .pick (.tmp 5) (.tmp 7) (.const (.bool false)), false, false, []⟩,
    ⟨.yes, (some 2), .assign (.tmp 8), true, false, []⟩] [2]) <|
  .ret

theorem c_digit_eq : ∃ c, Try.f23.body = some c ∧ codeOK Try.f23.ntmps c = true ∧ comp Try.prog (ann 23) c = erase c_digit := ⟨_, rfl, by kernel_rfl, by kernel_rfl⟩

theorem tree_digit (c : Int) : fnT X0 c_digit Try.f23.results.toList [.d (.int .u8 c)] [] = (
    .br (decide ((48 : Int) ≤ c))
    (.leaf ((.d (.bool (decide (c ≤ 57)))), []))
    (.leaf ((.d (.bool false)), [])) : Tr (AV × Hp)) := by kernel_rfl

theorem ok_digit : FnOK Try.prog gl 23 digitT := by
  refine fn_of (X := X0) (xok_X0 23) Try.func23 c_digit_eq (by kernel_rfl) (by simp only [Sums, c_digit, and_true]) ?_
  intro xs H o h
  unfold digitT at h
  split at h
  · rw [tree_digit]
    obtain rfl := Tr.leaf_some h
    simp only [Tr.run_br, Tr.run_leaf, decide_eq_true_eq, isLetter, isDigit]
    repeat' split
    all_goals (simp; try omega)
  · exact Tr.fail_some h

/-- rollbacknet/rollbacknetref01.letter -/
def c_rletter : CC := .seq (.region [
    ⟨.yes, (some 2), .assign (.const (.bool false)), false, false, []⟩] [0]) <|
  .seq (.region [
    ⟨.yes, (some 3), .move (.tmp 0), false, false, []⟩,
    ⟨.yes, (some 4), .binOp .geq 5 (.tmp 3) (.const (.int .u8 (97))) 5, false, false, []⟩,
    ⟨.yes, (some 5), .move (.tmp 4), true, false, []⟩,
    ⟨(.on 5 true), (some 6), .move (.tmp 0), false, false, []⟩,
    ⟨(.on 5 true), (some 7), .binOp .leq 5 (.tmp 6) (.const (.int .u8 (122))) 5, false, false, []⟩,
    ⟨.yes, (some 8), .pick (.tmp 5) (.tmp 7) (.const (.bool false)), false, false, []⟩,
    ⟨.yes, (some 9), .move (.tmp 8), true, false, []⟩,
    ⟨(.on 9 false), (some 10), .move (.tmp 0), false, false, []⟩,
    ⟨(.on 9 false), (some 11), .binOp .geq 5 (.tmp 10) (.const (.int .u8 (65))) 5, false, false, []⟩,
    ⟨(.on 9 false), (some 12), .move (.tmp 11), true, false, []⟩,
    ⟨(.on 12 true), (some 13), .move (.tmp 0), false, false, []⟩,
    ⟨(.on 12 true), (some 14), .binOp .leq 5 (.tmp 13) (.const (.int .u8 (90))) 5, false, false, []⟩,
    ⟨(.on 9 false), (some 15), .pick (.tmp 12) (.tmp 14) (.const (.bool false)), false, false, []⟩,
    ⟨.yes, (some 16), .pick (.tmp 9) (.const (.bool true)) (.tmp 15), false, false, []⟩,
    ⟨.yes, (some 17), .move (.tmp 16), true, false, []⟩,
    ⟨(.on 17 false), (some 18), .move (.tmp 0), true, false, []⟩,
    ⟨(.on 17 false), (some 19), .binOp .eql 5 (.tmp 18) (.const (.int .u8 (95))) 5, false, false, []⟩,
    ⟨.yes, (some 20), .pick (.tmp 17) (.const (.bool true)) (.tmp 19), false, false, []⟩,
    ⟨.yes, (some 2), .assign (.tmp 20), true, false, []⟩] [2]) <|
  .ret

theorem c_rletter_eq : ∃ c, Try.f21.body = some c ∧ codeOK Try.f21.ntmps c = true ∧ comp Try.prog (ann 21) c = erase c_rletter := ⟨_, rfl, by kernel_rfl, by kernel_rfl⟩

theorem tree_rletter (c : Int) : fnT X0 c_rletter Try.f21.results.toList [.d (.int .u8 c)] [] = (
    .br (decide ((97 : Int) ≤ c))
    (.br (decide (c ≤ 122))
      (.leaf ((.d (.bool true)), []))
      (.br (decide ((65 : Int) ≤ c))
        (.br (decide (c ≤ 90))
          (.leaf ((.d (.bool true)), []))
          (.leaf ((.d (.bool (decide (c = 95)))), [])))
        (.leaf ((.d (.bool (decide (c = 95)))), []))))
    (.br (decide ((65 : Int) ≤ c))
      (.br (decide (c ≤ 90))
        (.leaf ((.d (.bool true)), []))
        (.leaf ((.d (.bool (decide (c = 95)))), [])))
      (.leaf ((.d (.bool (decide (c = 95)))), []))) : Tr (AV × Hp)) := by kernel_rfl

theorem ok_rletter : FnOK Try.prog gl 21 rletterT := by
  refine fn_of (X := X0) (xok_X0 21) Try.func21 c_rletter_eq (by kernel_rfl) (by simp only [Sums, c_rletter, and_true]) ?_
  intro xs H o h
  unfold rletterT at h
  split at h
  · rw [tree_rletter]
    obtain rfl := Tr.leaf_some h
    simp only [Tr.run_br, Tr.run_leaf, decide_eq_true_eq, isLetter, isDigit]
    repeat' split
    all_goals (simp; try omega)
  · exact Tr.fail_some h

/-- rollbacknet/rollbacknetref01.digit -/
def c_rdigit : CC := .seq (.region [
    ⟨.yes, (some 2), .assign (.const (.bool false)), false, false, []⟩] [0]) <|
  .seq (.region [
    ⟨.yes, (some 3), .move (.tmp 0), false, false, []⟩,
    ⟨.yes, (some 4), .binOp .geq 5 (.tmp 3) (.const (.int .u8 (48))) 5, false, false, []⟩,
    ⟨.yes, (some 5), .move (.tmp 4), true, false, []⟩,
    ⟨(.on 5 true), (some 6), .move (.tmp 0), true, false, []⟩,
    ⟨(.on 5 true), (some 7), .binOp .leq 5 (.tmp 6) (.const (.int .u8 (57))) 5, false, false, []⟩,
    ⟨.yes, (some 8), .pick (.tmp 5) (.tmp 7) (.const (.bool false)), false, false, []⟩,
    ⟨.yes, (some 2), .assign (.tmp 8), true, false, []⟩] [2]) <|
  .ret

theorem c_rdigit_eq : ∃ c, Try.f22.body = some c ∧ codeOK Try.f22.ntmps c = true ∧ comp Try.prog (ann 22) c = erase c_rdigit := ⟨_, rfl, by kernel_rfl, by kernel_rfl⟩

theorem tree_rdigit (c : Int) : fnT X0 c_rdigit Try.f22.results.toList [.d (.int .u8 c)] [] = (
    .br (decide ((48 : Int) ≤ c))
    (.leaf ((.d (.bool (decide (c ≤ 57)))), []))
    (.leaf ((.d (.bool false)), [])) : Tr (AV × Hp)) := by kernel_rfl

theorem ok_rdigit : FnOK Try.prog gl 22 rdigitT := by
  refine fn_of (X := X0) (xok_X0 22) Try.func22 c_rdigit_eq (by kernel_rfl) (by simp only [Sums, c_rdigit, and_true]) ?_
  intro xs H o h
  unfold rdigitT at h
  split at h
  · rw [tree_rdigit]
    obtain rfl := Tr.leaf_some h
    simp only [Tr.run_br, Tr.run_leaf, decide_eq_true_eq, isLetter, isDigit]
    repeat' split
    all_goals (simp; try omega)
  · exact Tr.fail_some h

end Go.AI.TK
