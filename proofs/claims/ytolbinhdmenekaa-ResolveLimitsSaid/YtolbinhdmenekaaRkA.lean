/- Chapter 3: the code's functions, their small ones in sum. -/
import Derived.Test.YtolbinhdmenekaaProg
import Derived.Test.YtolbinhdmenekaaAxPoke
import Derived.KernelRfl
namespace Go.AI.RK
open Go Go.Proofs
set_option maxRecDepth 10000
set_option linter.unusedVariables false
set_option linter.unusedSimpArgs false

def gl : Nat → Option DV := fun _ => none

structure Var where
  name : List UInt8
  size : Int
  init : Int
  deriving DecidableEq
def encVar (t : Var) : DV := .agg [.str t.name, .int .i64 t.size, .int .i64 t.init]
def unVar : DV → Option Var
  | .agg [.str t, .int .i64 v, .int .i64 a] => some ⟨t, v, a⟩
  | _ => none
theorem unVar_enc (t : Var) : unVar (encVar t) = some t := rfl
theorem unVar_ok : ∀ x y, unVar x = some y → x = encVar y := by
  intro x y h
  unfold unVar at h
  split at h
  · obtain rfl := Option.some.inj h; rfl
  · simp at h
def varView : View := ⟨Var, unVar, encVar, unVar_ok⟩

structure Xp where
  op : Int
  value : Int
  name : List UInt8
  slot : Int
  size : Int
  args : List DV
structure St where
  kind : Int
  name : List UInt8
  slot : Int
  size : Int
  place : Xp
  value : Xp
  body : List DV
  els : List DV
def encX (t : Xp) : List DV := [.int .i64 t.op, .int .i64 t.value, .str t.name, .int .i64 t.slot, .int .i64 t.size, .sl 6 t.args]
def encSt (t : St) : DV := .agg [.int .i64 t.kind, .str t.name, .int .i64 t.slot, .int .i64 t.size, .int .i64 t.place.op, .int .i64 t.place.value, .str t.place.name, .int .i64 t.place.slot, .int .i64 t.place.size, .sl 6 t.place.args,
  .int .i64 t.value.op, .int .i64 t.value.value, .str t.value.name, .int .i64 t.value.slot, .int .i64 t.value.size, .sl 6 t.value.args, .sl 18 t.body, .sl 18 t.els]
def unSt : DV → Option St
  | .agg [.int .i64 k, .str n, .int .i64 s, .int .i64 z, .int .i64 a1, .int .i64 a2, .str a3, .int .i64 a4, .int .i64 a5, .sl 6 a6, .int .i64 b1, .int .i64 b2, .str b3, .int .i64 b4, .int .i64 b5, .sl 6 b6, .sl 18 c, .sl 18 d] =>
    some ⟨k, n, s, z, ⟨a1, a2, a3, a4, a5, a6⟩, ⟨b1, b2, b3, b4, b5, b6⟩, c, d⟩
  | _ => none
theorem unSt_ok : ∀ x y, unSt x = some y → x = encSt y := by
  intro x y h
  unfold unSt at h
  split at h
  · obtain rfl := Option.some.inj h; rfl
  · simp at h
def stView : View := ⟨St, unSt, encSt, unSt_ok⟩
def encXp (t : Xp) : DV := .agg (encX t)
def unXp : DV → Option Xp
  | .agg [.int .i64 a1, .int .i64 a2, .str a3, .int .i64 a4, .int .i64 a5, .sl 6 a6] => some ⟨a1, a2, a3, a4, a5, a6⟩
  | _ => none
theorem unXp_ok : ∀ x y, unXp x = some y → x = encXp y := by
  intro x y h
  unfold unXp at h
  split at h
  · obtain rfl := Option.some.inj h; rfl
  · simp at h
def xpView : View := ⟨Xp, unXp, encXp, unXp_ok⟩
structure Plc where
  slot : Int
  size : Int
  deriving DecidableEq
def encPlc (t : Plc) : DV := .agg [.int .i64 t.slot, .int .i64 t.size]
def unPlc : DV → Option Plc
  | .agg [.int .i64 v, .int .i64 a] => some ⟨v, a⟩
  | _ => none
theorem unPlc_ok : ∀ x y, unPlc x = some y → x = encPlc y := by
  intro x y h
  unfold unPlc at h
  split at h
  · obtain rfl := Option.some.inj h; rfl
  · simp at h
def plcView : View := ⟨Plc, unPlc, encPlc, unPlc_ok⟩

def tab : List (Nat × List (Nat × RA)) := [
  (3, [(0, ⟨[], [], [0, 1, 2]⟩), (1, ⟨[], [], [0, 1, 2, 14]⟩), (2, ⟨[], [], [6]⟩), (3, ⟨[], [], [0, 1, 2, 17]⟩), (4, ⟨[], [], [6]⟩), (5, ⟨[3], [], [0, 1, 2, 25]⟩), (6, ⟨[1, 8], [], [0, 1]⟩), (7, ⟨[3, 7, 8, 9], [], [0, 1, 7, 8, 9]⟩), (8, ⟨[0, 1, 3, 7, 8, 9], [], [7, 8, 9, 10, 11, 12]⟩), (9, ⟨[0, 1, 3, 4, 5, 8, 9, 10, 13], [], [6]⟩)]),
  (4, [(0, ⟨[], [], [0, 1]⟩), (1, ⟨[], [], [0, 1, 12]⟩), (2, ⟨[], [], [4]⟩), (3, ⟨[0, 3], [], [1, 5]⟩), (4, ⟨[], [], [1, 5, 6]⟩), (5, ⟨[], [], [1, 5, 6, 7]⟩), (6, ⟨[], [], [1, 5, 6, 7, 16]⟩), (7, ⟨[2, 6], [], [1, 5, 6, 7]⟩), (8, ⟨[], [], [1, 5, 6, 7, 25]⟩), (9, ⟨[], [], [1, 5, 6, 7]⟩), (10, ⟨[], [], [1, 5, 6, 7, 8]⟩), (11, ⟨[], [], [1, 5, 6, 7, 8, 29]⟩), (12, ⟨[0, 2], [], [1, 5, 6, 7, 8]⟩), (13, ⟨[1, 8, 10, 12], [], [1, 5, 6, 7, 8]⟩), (14, ⟨[], [], [1, 5, 6, 7, 46]⟩), (15, ⟨[], [], [1, 5, 6, 7]⟩), (16, ⟨[2, 6, 7], [], [1, 5, 7, 9, 10]⟩), (17, ⟨[3], [], [1, 5, 7, 9, 10, 58]⟩), (18, ⟨[0, 1, 3, 9], [], [4]⟩), (19, ⟨[1, 9, 10, 12, 16, 21], [], [4]⟩)]),
  (5, [(0, ⟨[], [], []⟩), (1, ⟨[4, 6], [], [1]⟩), (2, ⟨[2, 6, 7], [], [1, 2, 3]⟩), (3, ⟨[3, 7, 8, 9], [], [2, 3, 4, 6]⟩), (4, ⟨[0, 2, 8, 15, 16, 18, 19, 22], [], [0]⟩)]),
  (6, [(0, ⟨[], [], [0, 1]⟩), (1, ⟨[0, 3], [], [0, 1]⟩), (2, ⟨[], [], [0, 1, 9]⟩), (3, ⟨[0, 1, 3], [], [0]⟩), (4, ⟨[0, 1], [], [4]⟩)]),
  (7, [(0, ⟨[], [], [0, 1]⟩), (1, ⟨[], [], [0, 1, 7]⟩), (2, ⟨[0], [], [1, 7, 11, 12, 13]⟩), (3, ⟨[], [], [1, 7, 11, 12, 13, 14]⟩), (4, ⟨[3], [], [1, 7, 9, 11, 12, 13]⟩), (5, ⟨[], [], [1, 7, 9, 11, 12, 13, 18]⟩), (6, ⟨[3], [], [1, 7, 9, 10, 11, 12, 13]⟩), (7, ⟨[], [], [1, 7, 10, 11, 12, 13, 25]⟩), (8, ⟨[0, 1, 2, 3], [], [4, 5, 6]⟩), (9, ⟨[0, 1, 5], [], [1, 7, 11, 12, 13]⟩), (10, ⟨[1], [], [1, 7, 11, 12, 13]⟩), (11, ⟨[], [], [4, 5, 6]⟩)]),
  (8, [(0, ⟨[], [], [0, 1]⟩), (1, ⟨[], [], [0, 1, 7]⟩), (2, ⟨[], [], [0, 1, 7, 8]⟩), (3, ⟨[], [], [0, 1, 7, 8, 12]⟩), (4, ⟨[0, 2], [], [0, 1, 7, 8]⟩), (5, ⟨[], [], [0, 1, 7, 8, 21]⟩), (6, ⟨[0, 1, 2, 7, 8], [], [4, 5, 6]⟩), (7, ⟨[0, 7], [], [0, 1, 7, 8]⟩), (8, ⟨[], [], [0, 1, 7, 8, 37]⟩), (9, ⟨[], [], [4, 5, 6]⟩), (10, ⟨[], [], [4, 5, 6]⟩)]),
  (9, [(0, ⟨[0], [], [1, 2]⟩), (1, ⟨[2], [], [1, 2, 4]⟩), (2, ⟨[], [], [1, 2, 4, 20]⟩), (3, ⟨[1, 2, 3], [], [2, 3]⟩), (4, ⟨[], [], [1, 2, 26]⟩), (5, ⟨[1], [], [2, 3]⟩), (6, ⟨[1, 3], [2], [1, 2, 5]⟩), (7, ⟨[], [], [1, 2, 5, 31, 32, 33]⟩), (8, ⟨[], [], [1, 2, 5, 31, 32, 33, 34]⟩), (9, ⟨[3], [], [1, 2, 5, 7, 31, 32, 33]⟩), (10, ⟨[5, 9, 10], [], [1, 2, 5, 7, 9, 31, 32, 33]⟩), (11, ⟨[0], [], [1, 2, 5, 7, 31, 32, 33, 45]⟩), (12, ⟨[1], [], [2, 3]⟩), (13, ⟨[5, 9, 10, 11], [], [1, 2, 5, 7, 10, 11, 31, 32, 33]⟩), (14, ⟨[4, 5, 6], [], [1, 2, 5, 31, 32, 33]⟩), (15, ⟨[1], [], [1, 2, 5, 31, 32, 33]⟩), (16, ⟨[], [], [1, 2, 5, 13]⟩), (17, ⟨[], [], [1, 2, 5, 13, 65, 66, 67]⟩), (18, ⟨[], [], [1, 2, 5, 13, 65, 66, 67, 68]⟩), (19, ⟨[3], [], [1, 2, 5, 13, 15, 65, 66, 67]⟩), (20, ⟨[3], [], [1, 2, 5, 13, 15, 16, 65, 66, 67]⟩), (21, ⟨[], [], [1, 2, 5, 13, 15, 16, 65, 66, 67, 79]⟩), (22, ⟨[1], [], [2, 3]⟩), (23, ⟨[1, 3, 5], [], [1, 2, 5, 13, 15, 16, 65, 66, 67]⟩), (24, ⟨[5, 10], [], [1, 2, 5, 13, 65, 66, 67]⟩), (25, ⟨[1], [], [1, 2, 5, 13, 65, 66, 67]⟩), (26, ⟨[13, 15, 17, 19], [], [2, 5, 13]⟩), (27, ⟨[2], [], [2, 5, 13, 113]⟩), (28, ⟨[1], [], [2, 3]⟩), (29, ⟨[2], [], [2, 13, 117]⟩), (30, ⟨[1], [], [2, 3]⟩), (31, ⟨[1], [], [2, 3]⟩)]),
  (10, [(0, ⟨[0], [], [1]⟩), (1, ⟨[4], [], [2]⟩)]),
  (11, [(0, ⟨[0], [], [1]⟩), (1, ⟨[], [], [1, 9]⟩), (2, ⟨[], [], [2]⟩), (3, ⟨[], [], [1, 11, 12, 13]⟩), (4, ⟨[], [], [1, 11, 12, 13, 14]⟩), (5, ⟨[3], [], [1, 4, 11, 12, 13]⟩), (6, ⟨[4, 9, 13, 19], [], [1, 11, 12, 13, 40]⟩), (7, ⟨[], [], [2]⟩), (8, ⟨[1], [], [1, 11, 12, 13]⟩), (9, ⟨[], [], [50, 51, 52]⟩), (10, ⟨[], [], [50, 51, 52, 53]⟩), (11, ⟨[2], [], [6, 50, 51, 52]⟩), (12, ⟨[0], [], [50, 51, 52, 58]⟩), (13, ⟨[], [], [2]⟩), (14, ⟨[1], [], [50, 51, 52]⟩), (15, ⟨[], [], [2]⟩)]),
  (13, [(0, ⟨[0], [], [1]⟩), (1, ⟨[13], [], [2]⟩)]),
  (14, [(0, ⟨[], [], [0]⟩), (1, ⟨[2, 7, 12, 19, 20, 24], [], [2]⟩)]),
  (15, [(0, ⟨[], [], [0]⟩), (1, ⟨[0], [], [5, 6, 7]⟩), (2, ⟨[], [], [5, 6, 7, 8]⟩), (3, ⟨[3], [], [4, 5, 6, 7]⟩), (4, ⟨[], [], [5, 6, 7, 13]⟩), (5, ⟨[], [], [2]⟩), (6, ⟨[1], [], [5, 6, 7]⟩), (7, ⟨[], [], [2]⟩)]),
  (18, [(0, ⟨[], [], [0]⟩), (1, ⟨[], [], [0, 3]⟩), (2, ⟨[0], [], [3, 6, 7, 8]⟩), (3, ⟨[], [], [3, 6, 7, 8, 9]⟩), (4, ⟨[3], [], [3, 5, 6, 7, 8]⟩), (5, ⟨[0, 16], [], [3, 6, 7, 8]⟩), (6, ⟨[1], [], [3, 6, 7, 8]⟩), (7, ⟨[0, 1], [], [2]⟩)]),
  (19, [(0, ⟨[], [], [0]⟩), (1, ⟨[2, 6, 9, 14, 15, 18], [], [2]⟩)]),
  (20, [(0, ⟨[], [], [0]⟩), (1, ⟨[], [], [0, 3]⟩), (2, ⟨[4, 9], [], [0, 3, 19]⟩), (3, ⟨[0, 2], [], [0, 3]⟩), (4, ⟨[0, 1], [], [2]⟩)]),
  (21, [(0, ⟨[], [], [0]⟩), (1, ⟨[0], [], [3]⟩), (2, ⟨[1], [], [3, 4]⟩), (3, ⟨[1], [], [3, 4]⟩), (4, ⟨[1], [], [3, 4]⟩), (5, ⟨[1], [], [3, 4]⟩), (6, ⟨[1], [], [3, 4]⟩), (7, ⟨[1], [], [3, 4]⟩), (8, ⟨[1], [], [3, 4]⟩), (9, ⟨[1], [], [3, 4]⟩), (10, ⟨[1], [], [3, 4]⟩), (11, ⟨[1], [], [3, 4]⟩), (12, ⟨[1], [], [3, 4]⟩), (13, ⟨[1], [], [3, 4]⟩), (14, ⟨[1], [], [3, 4]⟩), (15, ⟨[1], [], [3, 4]⟩), (16, ⟨[1], [], [3, 4]⟩), (17, ⟨[1], [], [4]⟩), (18, ⟨[], [], [2]⟩), (19, ⟨[], [], [2]⟩)]),
  (22, [(0, ⟨[0], [], [1]⟩), (1, ⟨[3, 8], [], [1, 3]⟩), (2, ⟨[3, 8], [], [1, 3, 4]⟩), (3, ⟨[3, 8, 13, 18], [], [1, 3, 4, 21]⟩), (4, ⟨[], [], [2]⟩), (5, ⟨[1, 7, 8, 10, 16], [], [1, 4, 40]⟩), (6, ⟨[], [], [2]⟩), (7, ⟨[1, 7, 8, 10, 17, 23], [], [1, 57]⟩), (8, ⟨[], [], [2]⟩), (9, ⟨[3, 9, 13, 18, 25], [], [1, 81]⟩), (10, ⟨[], [], [2]⟩), (11, ⟨[3, 8], [], [2]⟩)]),
  (23, [(0, ⟨[0], [], [1]⟩), (1, ⟨[], [], [1, 3]⟩), (2, ⟨[], [], [3, 7, 8, 9]⟩), (3, ⟨[], [], [3, 7, 8, 9, 10]⟩), (4, ⟨[3], [], [3, 5, 7, 8, 9]⟩), (5, ⟨[0, 4], [], [3, 7, 8, 9]⟩), (6, ⟨[1], [], [3, 7, 8, 9]⟩), (7, ⟨[0, 2], [], [2]⟩)]),
  (24, [(0, ⟨[], [], [0]⟩), (1, ⟨[2, 3, 6], [], [2]⟩)]),
  (25, [(0, ⟨[0], [], [1]⟩), (1, ⟨[3, 8], [], [1, 3]⟩), (2, ⟨[3, 8, 13, 18, 27], [], [1, 3, 14]⟩), (3, ⟨[], [], [2]⟩), (4, ⟨[1, 7, 8, 10, 16], [], [1, 42]⟩), (5, ⟨[], [], [2]⟩), (6, ⟨[3, 8, 12, 18], [], [1, 59]⟩), (7, ⟨[], [], [2]⟩), (8, ⟨[], [], [79, 80, 81]⟩), (9, ⟨[], [], [79, 80, 81, 82]⟩), (10, ⟨[3], [], [5, 79, 80, 81]⟩), (11, ⟨[], [], [79, 80, 81, 87]⟩), (12, ⟨[], [], [2]⟩), (13, ⟨[1], [], [79, 80, 81]⟩), (14, ⟨[], [], [2]⟩)]),
  (26, [(0, ⟨[0], [], [1]⟩), (1, ⟨[3, 8, 13, 18, 23, 29], [], [2]⟩)]),
  (27, [(0, ⟨[], [], [0]⟩), (1, ⟨[2], [], [0, 3]⟩), (2, ⟨[], [], [2]⟩), (3, ⟨[2, 3, 6], [], [6]⟩), (4, ⟨[], [], [2]⟩), (5, ⟨[], [], [2]⟩)]),
  (12, [(0, ⟨[], [], [0, 1]⟩), (1, ⟨[], [], [0, 1, 5]⟩), (2, ⟨[0], [], [0, 5, 9, 10, 11]⟩), (3, ⟨[], [], [0, 5, 9, 10, 11, 12]⟩), (4, ⟨[3], [], [0, 5, 7, 9, 10, 11]⟩), (5, ⟨[3], [], [0, 5, 7, 9, 10, 11, 22]⟩), (6, ⟨[8], [], [0, 5, 7, 8, 9, 10, 11]⟩), (7, ⟨[5, 7], [], [0, 5, 7, 9, 10, 11]⟩), (8, ⟨[9, 11], [], [0, 5, 7, 9, 10, 11]⟩), (9, ⟨[9, 11], [], [0, 5, 7, 9, 10, 11]⟩), (10, ⟨[0, 3, 4], [], [0, 5, 9, 10, 11]⟩), (11, ⟨[1], [], [0, 5, 9, 10, 11]⟩), (12, ⟨[0, 1], [], [4]⟩)]),
  (16, [(0, ⟨[], [], [0, 1, 2, 6]⟩), (1, ⟨[4, 6, 10, 11], [], [0, 2, 6, 7, 8]⟩), (2, ⟨[5, 11], [], [0, 2, 6, 7, 8]⟩), (3, ⟨[1, 5, 6, 7, 8, 17], [], [6, 7]⟩), (4, ⟨[1], [], [6]⟩)]),
  (17, [(0, ⟨[0], [], [0, 3, 4]⟩), (1, ⟨[3], [], [0, 3, 4, 16]⟩), (2, ⟨[8], [], [0, 3, 4, 5]⟩), (3, ⟨[5, 7], [], [0, 3, 4]⟩), (4, ⟨[], [], [0, 3, 4, 6]⟩), (5, ⟨[], [], [0, 3, 4, 6, 31, 32, 33]⟩), (6, ⟨[], [], [0, 3, 4, 6, 31, 32, 33, 34]⟩), (7, ⟨[3], [], [0, 3, 4, 6, 8, 31, 32, 33]⟩), (8, ⟨[0, 5, 6], [], [0, 3, 4, 6, 31, 32, 33]⟩), (9, ⟨[1], [], [0, 3, 4, 6, 31, 32, 33]⟩), (10, ⟨[0, 2], [], [3, 4]⟩), (11, ⟨[1], [], [4]⟩)])]

def ann : FuncId → Ann := annOf tab

def iso (f : Nat) : Bool := [3, 4, 5, 6, 7, 8, 9, 10, 11, 13, 14, 15, 18, 19, 20, 21, 22, 23, 24, 25, 26, 27].contains f

def vwl : List (Nat × View) := [(2, (View.int .i64)), (3, (View.int .i64)), (4, View.bool), (5, (View.int .u8)), (6, (View.int .u8)), (9, View.str), (10, View.str), (11, View.str), (12, (View.int .u64)), (21, (View.int .i32)), (22, (View.sl 3)), (25, varView), (30, (View.sl 18)), (33, (View.int .i64)), (34, (View.sl 1)), (46, plcView), (51, (View.sl 1)), (54, (View.sl 6)), (56, xpView), (58, stView), (75, (View.int .u32)), (76, (View.int .u8)), (77, (View.int .u8)), (80, (View.int .i32)), (81, (View.int .i32))]

def vw (t : Nat) : View := lookA View.any vwl t


theorem base : Base Try.prog tab := ⟨progOK_of (by kernel_rfl), by kernel_rfl, by kernel_rfl⟩

def isLetter (c : Int) : Bool := decide (97 ≤ c ∧ c ≤ 122) || decide (65 ≤ c ∧ c ≤ 90) || decide (c = 95)
def isDigit (c : Int) : Bool := decide (48 ≤ c ∧ c ≤ 57)

theorem run_or {b x : Bool} {t : Tr (AV × Hp)} {H : Hp} (h : t.run = some (.d (.bool x), H)) : (Tr.br b (.leaf (.d (.bool true), H)) t).run = some (.d (.bool (b || x)), H) := by
  cases b with
  | true => rfl
  | false => rw [Tr.run_br]; exact h

def resB (s : List UInt8) : Bool :=
  decide (s = [118, 97, 114]) || (decide (s = [97, 114, 114, 97, 121]) || (decide (s = [111, 110]) || (decide (s = [115, 116, 97, 114, 116]) || (decide (s = [109, 101, 115, 115, 97, 103, 101]) || (decide (s = [116, 105, 99, 107]) ||
  (decide (s = [105, 110, 112, 117, 116]) || (decide (s = [105, 102]) || (decide (s = [101, 108, 115, 101]) || (decide (s = [119, 104, 105, 108, 101]) || (decide (s = [115, 101, 110, 100]) || (decide (s = [111, 117, 116, 112, 117, 116]) ||
  (decide (s = [115, 101, 108, 102]) || (decide (s = [112, 114, 111, 99, 115]) || (decide (s = [102, 114, 111, 109]) || (decide (s = [118, 97, 108, 117, 101]) || false)))))))))))))))
def letterT : FT
  | [.d (.int .u8 c)], [] => .leaf (.d (.bool (isLetter c)), [])
  | _, _ => .fail

def digitT : FT
  | [.d (.int .u8 c)], [] => .leaf (.d (.bool (isDigit c)), [])
  | _, _ => .fail

def reservedT : FT
  | [.d (.str s)], [] => .leaf (.d (.bool (resB s)), [])
  | _, _ => .fail

noncomputable abbrev X0 : TX := ⟨Try.prog, tbl [], iso, gl, vw⟩

theorem xok_X0 (f : Nat) : XOK X0 (ann f) gl := XOK.of base (l := []) trivial f

/-- rollbacknet/token.letter -/
def c_letter : CC := .seq (.region [
    ⟨.yes, (some 2), .assign (.const (.bool false)), false, false, []⟩] [0]) <|
  .seq (.region [
    ⟨.yes, (some 3), .move (.tmp 0), false, false, []⟩,
    ⟨.yes, (some 4), .binOp .leq 5 (.const (.int .u8 (97))) (.tmp 3) 5, false, false, []⟩,
    ⟨.yes, (some 5), .move (.tmp 4), true, false, []⟩,
    ⟨(.on 5 true), (some 6), .move (.tmp 0), false, false, []⟩,
    ⟨(.on 5 true), (some 7), .binOp .leq 5 (.tmp 6) (.const (.int .u8 (122))) 5, false, false, []⟩,
    ⟨.yes, (some 8), .pick (.tmp 5) (.tmp 7) (.const (.bool false)), false, false, []⟩,
    ⟨.yes, (some 9), .move (.tmp 8), true, false, []⟩,
    ⟨(.on 9 false), (some 10), .move (.tmp 0), false, false, []⟩,
    ⟨(.on 9 false), (some 11), .binOp .leq 5 (.const (.int .u8 (65))) (.tmp 10) 5, false, false, []⟩,
    ⟨(.on 9 false), (some 12), .move (.tmp 11), true, false, []⟩,
    ⟨(.on 12 true), (some 13), .move (.tmp 0), false, false, []⟩,
    ⟨(.on 12 true), (some 14), .binOp .leq 5 (.tmp 13) (.const (.int .u8 (90))) 5, false, false, []⟩,
    ⟨(.on 9 false), (some 15), .pick (.tmp 12) (.tmp 14) (.const (.bool false)), false, false, []⟩,
    ⟨.yes, (some 16), .pick (.tmp 9) (.const (.bool true)) (.tmp 15), false, false, []⟩,
    ⟨.yes, (some 17), .move (.tmp 16), true, false, []⟩,
    ⟨(.on 17 false), (some 18), .move (.tmp 0), true, false, []⟩,
    ⟨(.on 17 false), (some 19), .binOp .eql 5 (.tmp 18) (.const (.int .u8 (95))) 5, false, false, []⟩,
    ⟨.yes, (some 20), .pick (.tmp 17) (.const (.bool true)) (.tmp 19), false, false, []⟩,
    ⟨.yes, (some 2), .assign (.tmp 20), true, false, []⟩] [2]) <|
  .ret

theorem c_letter_eq : ∃ c, Try.f19.body = some c ∧ codeOK Try.f19.ntmps c = true ∧ comp Try.prog (ann 19) c = erase c_letter := ⟨_, rfl, by kernel_rfl, by kernel_rfl⟩

theorem tree_letter (c : Int) : fnT X0 c_letter Try.f19.results.toList [.d (.int .u8 c)] [] = (
    .br (decide ((97 : Int) ≤ c))
    (.br (decide (c ≤ 122))
      (.leaf ((.d (.bool true)), []))
      (.br (decide ((65 : Int) ≤ c))
        (.br (decide (c ≤ 90))
          (.leaf ((.d (.bool true)), []))
          (.leaf ((.d (.bool (decide (c = 95)))), [])))
        (.leaf ((.d (.bool (decide (c = 95)))), []))))
    (.br (decide ((65 : Int) ≤ c))
      (.br (decide (c ≤ 90))
        (.leaf ((.d (.bool true)), []))
        (.leaf ((.d (.bool (decide (c = 95)))), [])))
      (.leaf ((.d (.bool (decide (c = 95)))), []))) : Tr (AV × Hp)) := by kernel_rfl

theorem ok_letter : FnOK Try.prog gl 19 letterT := by
  refine fn_of (X := X0) (xok_X0 19) Try.func19 c_letter_eq (by kernel_rfl) (by simp only [Sums, c_letter, and_true]) ?_
  intro xs H o h
  unfold letterT at h
  split at h
  · rw [tree_letter]
    obtain rfl := Tr.leaf_some h
    simp only [Tr.run_br, Tr.run_leaf, decide_eq_true_eq, isLetter, isDigit]
    repeat' split
    all_goals (simp; try omega)
  · exact Tr.fail_some h

/-- rollbacknet/token.digit -/
def c_digit : CC := .seq (.region [
    ⟨.yes, (some 2), .assign (.const (.bool false)), false, false, []⟩] [0]) <|
  .seq (.region [
    ⟨.yes, (some 3), .move (.tmp 0), false, false, []⟩,
    ⟨.yes, (some 4), .binOp .leq 5 (.const (.int .u8 (48))) (.tmp 3) 5, false, false, []⟩,
    ⟨.yes, (some 5), .move (.tmp 4), true, false, []⟩,
    ⟨(.on 5 true), (some 6), .move (.tmp 0), true, false, []⟩,
    ⟨(.on 5 true), (some 7), .binOp .leq 5 (.tmp 6) (.const (.int .u8 (57))) 5, false, false, []⟩,
    ⟨.yes, (some 8), .pick (.tmp 5) (.tmp 7) (.const (.bool false)), false, false, []⟩,
    ⟨.yes, (some 2), .assign (.tmp 8), true, false, []⟩] [2]) <|
  .ret

theorem c_digit_eq : ∃ c, Try.f24.body = some c ∧ codeOK Try.f24.ntmps c = true ∧ comp Try.prog (ann 24) c = erase c_digit := ⟨_, rfl, by kernel_rfl, by kernel_rfl⟩

theorem tree_digit (c : Int) : fnT X0 c_digit Try.f24.results.toList [.d (.int .u8 c)] [] = (
    .br (decide ((48 : Int) ≤ c))
    (.leaf ((.d (.bool (decide (c ≤ 57)))), []))
    (.leaf ((.d (.bool false)), [])) : Tr (AV × Hp)) := by kernel_rfl

theorem ok_digit : FnOK Try.prog gl 24 digitT := by
  refine fn_of (X := X0) (xok_X0 24) Try.func24 c_digit_eq (by kernel_rfl) (by simp only [Sums, c_digit, and_true]) ?_
  intro xs H o h
  unfold digitT at h
  split at h
  · rw [tree_digit]
    obtain rfl := Tr.leaf_some h
    simp only [Tr.run_br, Tr.run_leaf, decide_eq_true_eq, isLetter, isDigit]
    repeat' split
    all_goals (simp; try omega)
  · exact Tr.fail_some h

/-- rollbacknet/token.Reserved -/
def c_reserved : CC := .seq (.region [
    ⟨.yes, (some 2), .assign (.const (.bool false)), false, false, []⟩] [0]) <|
  .seq (.seq (.region [
    ⟨.yes, (some 3), .move (.tmp 0), true, false, []⟩] [3]) <|
  .block 0 <| .seq (.seq (.region [
    ⟨.yes, (some 5), .binOp .eql 9 (.tmp 3) (.const (.string ⟨#[118, 97, 114]⟩)) 9, false, false, []⟩,
    ⟨.yes, (some 4), .assign (.tmp 5), true, false, []⟩] [3, 4]) <|
  .cond (.tmp 4)
    (.skip)
    (.seq (.region [
      ⟨.yes, (some 6), .binOp .eql 9 (.tmp 3) (.const (.string ⟨#[97, 114, 114, 97, 121]⟩)) 9, false, false, []⟩,
      ⟨.yes, (some 4), .assign (.tmp 6), true, false, []⟩] [3, 4]) <|
    .cond (.tmp 4)
      (.skip)
      (.seq (.region [
        ⟨.yes, (some 7), .binOp .eql 9 (.tmp 3) (.const (.string ⟨#[111, 110]⟩)) 9, false, false, []⟩,
        ⟨.yes, (some 4), .assign (.tmp 7), true, false, []⟩] [3, 4]) <|
      .cond (.tmp 4)
        (.skip)
        (.seq (.region [
          ⟨.yes, (some 8), .binOp .eql 9 (.tmp 3) (.const (.string ⟨#[115, 116, 97, 114, 116]⟩)) 9, false, false, []⟩,
          ⟨.yes, (some 4), .assign (.tmp 8), true, false, []⟩] [3, 4]) <|
        .cond (.tmp 4)
          (.skip)
          (.seq (.region [
            ⟨.yes, (some 9), .binOp .eql 9 (.tmp 3) (.const (.string ⟨#[109, 101, 115, 115, 97, 103, 101]⟩)) 9, false, false, []⟩,
            ⟨.yes, (some 4), .assign (.tmp 9), true, false, []⟩] [3, 4]) <|
          .cond (.tmp 4)
            (.skip)
            (.seq (.region [
              ⟨.yes, (some 10), .binOp .eql 9 (.tmp 3) (.const (.string ⟨#[116, 105, 99, 107]⟩)) 9, false, false, []⟩,
              ⟨.yes, (some 4), .assign (.tmp 10), true, false, []⟩] [3, 4]) <|
            .cond (.tmp 4)
              (.skip)
              (.seq (.region [
                ⟨.yes, (some 11), .binOp .eql 9 (.tmp 3) (.const (.string ⟨#[105, 110, 112, 117, 116]⟩)) 9, false, false, []⟩,
                ⟨.yes, (some 4), .assign (.tmp 11), true, false, []⟩] [3, 4]) <|
              .cond (.tmp 4)
                (.skip)
                (.seq (.region [
                  ⟨.yes, (some 12), .binOp .eql 9 (.tmp 3) (.const (.string ⟨#[105, 102]⟩)) 9, false, false, []⟩,
                  ⟨.yes, (some 4), .assign (.tmp 12), true, false, []⟩] [3, 4]) <|
                .cond (.tmp 4)
                  (.skip)
                  (.seq (.region [
                    ⟨.yes, (some 13), .binOp .eql 9 (.tmp 3) (.const (.string ⟨#[101, 108, 115, 101]⟩)) 9, false, false, []⟩,
                    ⟨.yes, (some 4), .assign (.tmp 13), true, false, []⟩] [3, 4]) <|
                  .cond (.tmp 4)
                    (.skip)
                    (.seq (.region [
                      ⟨.yes, (some 14), .binOp .eql 9 (.tmp 3) (.const (.string ⟨#[119, 104, 105, 108, 101]⟩)) 9, false, false, []⟩,
                      ⟨.yes, (some 4), .assign (.tmp 14), true, false, []⟩] [3, 4]) <|
                    .cond (.tmp 4)
                      (.skip)
                      (.seq (.region [
                        ⟨.yes, (some 15), .binOp .eql 9 (.tmp 3) (.const (.string ⟨#[115, 101, 110, 100]⟩)) 9, false, false, []⟩,
                        ⟨.yes, (some 4), .assign (.tmp 15), true, false, []⟩] [3, 4]) <|
                      .cond (.tmp 4)
                        (.skip)
                        (.seq (.region [
                          ⟨.yes, (some 16), .binOp .eql 9 (.tmp 3) (.const (.string ⟨#[111, 117, 116, 112, 117, 116]⟩)) 9, false, false, []⟩,
                          ⟨.yes, (some 4), .assign (.tmp 16), true, false, []⟩] [3, 4]) <|
                        .cond (.tmp 4)
                          (.skip)
                          (.seq (.region [
                            ⟨.yes, (some 17), .binOp .eql 9 (.tmp 3) (.const (.string ⟨#[115, 101, 108, 102]⟩)) 9, false, false, []⟩,
                            ⟨.yes, (some 4), .assign (.tmp 17), true, false, []⟩] [3, 4]) <|
                          .cond (.tmp 4)
                            (.skip)
                            (.seq (.region [
                              ⟨.yes, (some 18), .binOp .eql 9 (.tmp 3) (.const (.string ⟨#[112, 114, 111, 99, 115]⟩)) 9, false, false, []⟩,
                              ⟨.yes, (some 4), .assign (.tmp 18), true, false, []⟩] [3, 4]) <|
                            .cond (.tmp 4)
                              (.skip)
                              (.seq (.region [
                                ⟨.yes, (some 19), .binOp .eql 9 (.tmp 3) (.const (.string ⟨#[102, 114, 111, 109]⟩)) 9, false, false, []⟩,
                                ⟨.yes, (some 4), .assign (.tmp 19), true, false, []⟩] [3, 4]) <|
                              .cond (.tmp 4)
                                (.skip)
                                (.region [
                                  ⟨.yes, (some 20), .binOp .eql 9 (.tmp 3) (.const (.string ⟨#[118, 97, 108, 117, 101]⟩)) 9, false, false, []⟩,
                                  ⟨.yes, (some 4), .assign (.tmp 20), true, false, []⟩] [4])))))))))))))))) <|
  .cond (.tmp 4)
    (.seq (.region [
      ⟨.yes, (some 2), .assign (.const (.bool true)), false, false, []⟩] [2]) <|
    .ret)
    (.skip)) <|
  .seq (.region [
    ⟨.yes, (some 2), .assign (.const (.bool false)), false, false, []⟩] [2]) <|
  .ret

theorem c_reserved_eq : ∃ c, Try.f21.body = some c ∧ codeOK Try.f21.ntmps c = true ∧ comp Try.prog (ann 21) c = erase c_reserved := ⟨_, rfl, by kernel_rfl, by kernel_rfl⟩

theorem tree_reserved (s : List UInt8) : fnT X0 c_reserved Try.f21.results.toList [.d (.str s)] [] = (
    .br (decide (s = [118, 97, 114]))
    (.leaf ((.d (.bool true)), []))
    (.br (decide (s = [97, 114, 114, 97, 121]))
      (.leaf ((.d (.bool true)), []))
      (.br (decide (s = [111, 110]))
        (.leaf ((.d (.bool true)), []))
        (.br (decide (s = [115, 116, 97, 114, 116]))
          (.leaf ((.d (.bool true)), []))
          (.br (decide (s = [109, 101, 115, 115, 97, 103, 101]))
            (.leaf ((.d (.bool true)), []))
            (.br (decide (s = [116, 105, 99, 107]))
              (.leaf ((.d (.bool true)), []))
              (.br (decide (s = [105, 110, 112, 117, 116]))
                (.leaf ((.d (.bool true)), []))
                (.br (decide (s = [105, 102]))
                  (.leaf ((.d (.bool true)), []))
                  (.br (decide (s = [101, 108, 115, 101]))
                    (.leaf ((.d (.bool true)), []))
                    (.br (decide (s = [119, 104, 105, 108, 101]))
                      (.leaf ((.d (.bool true)), []))
                      (.br (decide (s = [115, 101, 110, 100]))
                        (.leaf ((.d (.bool true)), []))
                        (.br (decide (s = [111, 117, 116, 112, 117, 116]))
                          (.leaf ((.d (.bool true)), []))
                          (.br (decide (s = [115, 101, 108, 102]))
                            (.leaf ((.d (.bool true)), []))
                            (.br (decide (s = [112, 114, 111, 99, 115]))
                              (.leaf ((.d (.bool true)), []))
                              (.br (decide (s = [102, 114, 111, 109]))
                                (.leaf ((.d (.bool true)), []))
                                (.br (decide (s = [118, 97, 108, 117, 101]))
                                  (.leaf ((.d (.bool true)), []))
                                  (.leaf ((.d (.bool false)), []))))))))))))))))) : Tr (AV × Hp)) := by kernel_rfl

theorem ok_reserved : FnOK Try.prog gl 21 reservedT := by
  refine fn_of (X := X0) (xok_X0 21) Try.func21 c_reserved_eq (by kernel_rfl) (by simp only [Sums, c_reserved, and_true]) ?_
  intro xs H o h
  unfold reservedT at h
  split at h
  · rw [tree_reserved]
    obtain rfl := Tr.leaf_some h
    unfold resB
    iterate 16 refine run_or ?_
    rfl
  · exact Tr.fail_some h

end Go.AI.RK
