/- Chapter 3, the draws: the code's functions. -/
import Derived.Test.YtolbinhdmenekaaDoorProg
import Derived.Test.YtolbinhdmenekaaDoorAxPoke
import Derived.KernelRfl
namespace Go.AI.RD
open Go Go.Proofs
set_option maxRecDepth 10000
set_option linter.unusedVariables false
set_option linter.unusedSimpArgs false

/-- The laid variables: the names of drawn programs. -/
def gl : Nat → Option DV
  | 0 => some (.agg [.str [120], .str [121], .str [122]])
  | 1 => some (.agg [.str [97], .str [98]])
  | _ => none
def unU8 : DV → Option UInt8
  | .int .u8 n => if 0 ≤ n ∧ n < 256 then some (UInt8.ofNat n.toNat) else none
  | _ => none
def encU8 (b : UInt8) : DV := .int .u8 (b.toNat : Int)
theorem unU8_enc (b : UInt8) : unU8 (encU8 b) = some b := by
  have h := b.toNat_lt
  simp [unU8, encU8]
  omega
theorem unU8_ok : ∀ x y, unU8 x = some y → x = encU8 y := by
  intro x y h
  unfold unU8 at h
  split at h
  · rename_i n
    split at h
    · rename_i hn
      obtain rfl := Option.some.inj h
      unfold encU8
      congr 1
      rw [UInt8.toNat_ofNat_of_lt' (by show n.toNat < 256; omega)]
      omega
    · simp at h
  · simp at h

structure Var where
  name : List UInt8
  size : Int
  init : Int
  deriving DecidableEq
def encVar (t : Var) : DV := .agg [.str t.name, .int .i64 t.size, .int .i64 t.init]
def unVar : DV → Option Var
  | .agg [.str t, .int .i64 v, .int .i64 a] => some ⟨t, v, a⟩
  | _ => none
theorem unVar_enc (t : Var) : unVar (encVar t) = some t := rfl
theorem unVar_ok : ∀ x y, unVar x = some y → x = encVar y := by
  intro x y h
  unfold unVar at h
  split at h
  · obtain rfl := Option.some.inj h; rfl
  · simp at h
def varView : View := ⟨Var, unVar, encVar, unVar_ok⟩

structure Xp where
  op : Int
  value : Int
  name : List UInt8
  slot : Int
  size : Int
  args : List DV
structure St where
  kind : Int
  name : List UInt8
  slot : Int
  size : Int
  place : Xp
  value : Xp
  body : List DV
  els : List DV
def encX (t : Xp) : List DV := [.int .i64 t.op, .int .i64 t.value, .str t.name, .int .i64 t.slot, .int .i64 t.size, .sl 6 t.args]
def encSt (t : St) : DV := .agg [.int .i64 t.kind, .str t.name, .int .i64 t.slot, .int .i64 t.size, .int .i64 t.place.op, .int .i64 t.place.value, .str t.place.name, .int .i64 t.place.slot, .int .i64 t.place.size, .sl 6 t.place.args,
  .int .i64 t.value.op, .int .i64 t.value.value, .str t.value.name, .int .i64 t.value.slot, .int .i64 t.value.size, .sl 6 t.value.args, .sl 18 t.body, .sl 18 t.els]
def unSt : DV → Option St
  | .agg [.int .i64 k, .str n, .int .i64 s, .int .i64 z, .int .i64 a1, .int .i64 a2, .str a3, .int .i64 a4, .int .i64 a5, .sl 6 a6, .int .i64 b1, .int .i64 b2, .str b3, .int .i64 b4, .int .i64 b5, .sl 6 b6, .sl 18 c, .sl 18 d] =>
    some ⟨k, n, s, z, ⟨a1, a2, a3, a4, a5, a6⟩, ⟨b1, b2, b3, b4, b5, b6⟩, c, d⟩
  | _ => none
theorem unSt_ok : ∀ x y, unSt x = some y → x = encSt y := by
  intro x y h
  unfold unSt at h
  split at h
  · obtain rfl := Option.some.inj h; rfl
  · simp at h
def stView : View := ⟨St, unSt, encSt, unSt_ok⟩
def encXp (t : Xp) : DV := .agg (encX t)
def unXp : DV → Option Xp
  | .agg [.int .i64 a1, .int .i64 a2, .str a3, .int .i64 a4, .int .i64 a5, .sl 6 a6] => some ⟨a1, a2, a3, a4, a5, a6⟩
  | _ => none
theorem unXp_ok : ∀ x y, unXp x = some y → x = encXp y := by
  intro x y h
  unfold unXp at h
  split at h
  · obtain rfl := Option.some.inj h; rfl
  · simp at h
def xpView : View := ⟨Xp, unXp, encXp, unXp_ok⟩
structure Plc where
  slot : Int
  size : Int
  deriving DecidableEq
def encPlc (t : Plc) : DV := .agg [.int .i64 t.slot, .int .i64 t.size]
def unPlc : DV → Option Plc
  | .agg [.int .i64 v, .int .i64 a] => some ⟨v, a⟩
  | _ => none
theorem unPlc_ok : ∀ x y, unPlc x = some y → x = encPlc y := by
  intro x y h
  unfold unPlc at h
  split at h
  · obtain rfl := Option.some.inj h; rfl
  · simp at h
def plcView : View := ⟨Plc, unPlc, encPlc, unPlc_ok⟩

def tab : List (Nat × List (Nat × RA)) := [
  (3, [(0, ⟨[], [], [0]⟩), (1, ⟨[], [], [0, 12]⟩), (2, ⟨[], [], [2]⟩), (3, ⟨[0, 2], [], [3]⟩), (4, ⟨[3], [], [3, 4]⟩), (5, ⟨[1], [], [21, 22, 23]⟩), (6, ⟨[], [], [21, 22, 23, 24]⟩), (7, ⟨[3], [], [6, 21, 22, 23]⟩), (8, ⟨[2, 6, 7], [], [6, 7, 8, 21, 22, 23]⟩), (9, ⟨[2, 6, 7], [], [7, 8, 9, 10, 21, 22, 23]⟩), (10, ⟨[0, 1, 3], [], [21, 22, 23, 45]⟩), (11, ⟨[], [], [2]⟩), (12, ⟨[1], [], [21, 22, 23]⟩), (13, ⟨[], [], [2]⟩)]),
  (4, [(0, ⟨[], [], [0]⟩), (1, ⟨[], [], [0, 14]⟩), (2, ⟨[], [], [2]⟩), (3, ⟨[0, 4], [], [3]⟩), (4, ⟨[2, 6, 7], [], [3, 4, 5]⟩), (5, ⟨[0], [], [3, 4, 24]⟩), (6, ⟨[], [], [2]⟩), (7, ⟨[], [], [3, 4, 6]⟩), (8, ⟨[], [], [3, 4, 6, 26, 27, 28]⟩), (9, ⟨[], [], [3, 4, 6, 26, 27, 28, 29]⟩), (10, ⟨[3], [], [3, 4, 6, 8, 26, 27, 28]⟩), (11, ⟨[5, 9, 10, 11], [], [3, 4, 6, 8, 9, 10, 11, 26, 27, 28]⟩), (12, ⟨[0, 2, 7, 13, 23, 26], [], [3, 4, 6, 9, 10, 26, 27, 28, 77]⟩), (13, ⟨[], [], [2]⟩), (14, ⟨[], [], [3, 4, 6, 9, 10, 12, 26, 27, 28]⟩), (15, ⟨[], [], [3, 4, 6, 9, 10, 12, 26, 27, 28, 80]⟩), (16, ⟨[0, 2], [], [3, 4, 6, 9, 10, 12, 26, 27, 28]⟩), (17, ⟨[], [], [3, 4, 6, 9, 10, 12, 26, 27, 28, 90]⟩), (18, ⟨[], [], [2]⟩), (19, ⟨[0, 1, 4], [], [3, 4, 6, 26, 27, 28]⟩), (20, ⟨[1], [], [3, 4, 6, 26, 27, 28]⟩), (21, ⟨[5, 11, 17, 23, 26, 29], [], [2]⟩)]),
  (5, [(0, ⟨[], [], [0]⟩), (1, ⟨[], [], [0, 12]⟩), (2, ⟨[], [], [2]⟩), (3, ⟨[0, 4], [], [3]⟩), (4, ⟨[12, 14], [], [3, 4]⟩), (5, ⟨[], [], [3, 4, 30, 31, 32]⟩), (6, ⟨[], [], [3, 4, 30, 31, 32, 33]⟩), (7, ⟨[3], [], [3, 4, 6, 30, 31, 32]⟩), (8, ⟨[4], [], [3, 4, 6, 30, 31, 32]⟩), (9, ⟨[1, 4, 6], [], [3, 4, 30, 31, 32]⟩), (10, ⟨[1], [], [3, 4, 30, 31, 32]⟩), (11, ⟨[2, 6, 7], [], [4, 7, 8]⟩), (12, ⟨[2, 6, 7], [], [7, 8, 9, 10]⟩), (13, ⟨[0, 2, 3, 6, 13, 21, 29, 37, 45], [], [2]⟩)]),
  (6, [(0, ⟨[], [], []⟩), (1, ⟨[4, 6], [], [1]⟩), (2, ⟨[2, 6, 7], [], [1, 2, 3]⟩), (3, ⟨[3, 7, 8, 9], [], [2, 3, 4, 6]⟩), (4, ⟨[0, 2, 8, 15, 16, 18, 19, 22], [], [0]⟩)]),
  (7, [(0, ⟨[], [], [0, 1]⟩), (1, ⟨[], [], [0, 1, 8]⟩), (2, ⟨[0, 1, 3], [], [0]⟩), (3, ⟨[0, 1, 2], [2], [4, 14]⟩)]),
  (9, [(0, ⟨[0], [], [0, 3, 4]⟩), (1, ⟨[4], [], [0, 3, 4]⟩), (2, ⟨[], [], [0, 3, 4, 11]⟩), (3, ⟨[1], [], [0, 3, 4, 11, 12]⟩), (4, ⟨[1, 6, 8, 10], [], [3, 4]⟩), (5, ⟨[1], [], [0, 3, 4, 11, 24]⟩), (6, ⟨[1, 2, 5, 8, 10], [], [3, 4]⟩), (7, ⟨[1], [], [0, 3, 4, 11, 36]⟩), (8, ⟨[5, 7, 9, 11], [], [3, 4]⟩), (9, ⟨[1], [], [0, 3, 4, 11, 49]⟩), (10, ⟨[10, 12, 14], [], [3, 4]⟩), (11, ⟨[1], [], [0, 3, 4, 11, 65]⟩), (12, ⟨[12, 14, 16], [], [3, 4]⟩), (13, ⟨[1], [], [0, 3, 4, 11, 83]⟩), (14, ⟨[4, 8, 9, 11, 13], [], [3, 4]⟩), (15, ⟨[1], [], [0, 3, 4, 11, 98]⟩), (16, ⟨[], [], [0, 3, 4, 5]⟩), (17, ⟨[], [], [0, 3, 4, 5, 104]⟩), (18, ⟨[0, 2], [], [0, 3, 4, 5]⟩), (19, ⟨[1, 7, 9, 11], [], [0, 3, 4, 5]⟩), (20, ⟨[1], [], [0, 3, 4, 11, 118]⟩), (21, ⟨[2, 10], [], [3, 4]⟩), (22, ⟨[1], [], [0, 3, 4, 130]⟩), (23, ⟨[3, 5, 7, 9], [], [3, 4]⟩), (24, ⟨[1], [], [4]⟩)]),
  (10, [(0, ⟨[0], [], [1, 2]⟩), (1, ⟨[2], [], [1, 2, 4]⟩), (2, ⟨[], [], [1, 2, 4, 20]⟩), (3, ⟨[1, 2, 3], [], [2, 3]⟩), (4, ⟨[], [], [1, 2, 26]⟩), (5, ⟨[1], [], [2, 3]⟩), (6, ⟨[1, 3], [2], [1, 2, 5]⟩), (7, ⟨[], [], [1, 2, 5, 31, 32, 33]⟩), (8, ⟨[], [], [1, 2, 5, 31, 32, 33, 34]⟩), (9, ⟨[3], [], [1, 2, 5, 7, 31, 32, 33]⟩), (10, ⟨[5, 9, 10], [], [1, 2, 5, 7, 9, 31, 32, 33]⟩), (11, ⟨[0], [], [1, 2, 5, 7, 31, 32, 33, 45]⟩), (12, ⟨[1], [], [2, 3]⟩), (13, ⟨[5, 9, 10, 11], [], [1, 2, 5, 7, 10, 11, 31, 32, 33]⟩), (14, ⟨[4, 5, 6], [], [1, 2, 5, 31, 32, 33]⟩), (15, ⟨[1], [], [1, 2, 5, 31, 32, 33]⟩), (16, ⟨[], [], [1, 2, 5, 13]⟩), (17, ⟨[], [], [1, 2, 5, 13, 65, 66, 67]⟩), (18, ⟨[], [], [1, 2, 5, 13, 65, 66, 67, 68]⟩), (19, ⟨[3], [], [1, 2, 5, 13, 15, 65, 66, 67]⟩), (20, ⟨[3], [], [1, 2, 5, 13, 15, 16, 65, 66, 67]⟩), (21, ⟨[], [], [1, 2, 5, 13, 15, 16, 65, 66, 67, 79]⟩), (22, ⟨[1], [], [2, 3]⟩), (23, ⟨[1, 3, 5], [], [1, 2, 5, 13, 15, 16, 65, 66, 67]⟩), (24, ⟨[5, 10], [], [1, 2, 5, 13, 65, 66, 67]⟩), (25, ⟨[1], [], [1, 2, 5, 13, 65, 66, 67]⟩), (26, ⟨[13, 15, 17, 19], [], [2, 5, 13]⟩), (27, ⟨[2], [], [2, 5, 13, 113]⟩), (28, ⟨[1], [], [2, 3]⟩), (29, ⟨[2], [], [2, 13, 117]⟩), (30, ⟨[1], [], [2, 3]⟩), (31, ⟨[1], [], [2, 3]⟩)]),
  (11, [(0, ⟨[0], [], [1, 2]⟩), (1, ⟨[2], [], [1, 2, 4]⟩), (2, ⟨[], [], [1, 2, 4, 16]⟩), (3, ⟨[1, 2, 3], [], [2, 3]⟩), (4, ⟨[], [], [1, 2, 22]⟩), (5, ⟨[1], [], [2, 3]⟩), (6, ⟨[], [], [1, 2, 5]⟩), (7, ⟨[], [], [1, 2, 5, 28]⟩), (8, ⟨[0, 2], [], [1, 2, 5]⟩), (9, ⟨[], [], [1, 2, 5, 6]⟩), (10, ⟨[], [], [1, 2, 5, 6, 33]⟩), (11, ⟨[0, 2], [], [1, 2, 5, 6]⟩), (12, ⟨[], [], [1, 2, 5, 6, 48]⟩), (13, ⟨[1], [], [2, 3]⟩), (14, ⟨[], [], [1, 2, 7]⟩), (15, ⟨[], [], [1, 2, 7, 8]⟩), (16, ⟨[], [], [1, 2, 7, 8, 54]⟩), (17, ⟨[0, 2], [], [1, 2, 7, 8]⟩), (18, ⟨[0, 8], [], [1, 2, 7, 8]⟩), (19, ⟨[], [], [1, 2, 7, 8, 66]⟩), (20, ⟨[1], [], [2, 3]⟩), (21, ⟨[6, 14, 22], [], [1, 2, 97]⟩), (22, ⟨[1], [], [2, 3]⟩), (23, ⟨[], [], [1, 2, 9]⟩), (24, ⟨[], [], [1, 2, 9, 10]⟩), (25, ⟨[5, 9, 11], [], [1, 2, 9, 10]⟩), (26, ⟨[5, 9, 11], [], [1, 2, 9, 10]⟩), (27, ⟨[5, 9, 11], [], [1, 2, 9, 10]⟩), (28, ⟨[5, 9, 11], [], [1, 2, 9, 10]⟩), (29, ⟨[3, 8, 13], [], [1, 2, 9, 156]⟩), (30, ⟨[1], [], [2, 3]⟩), (31, ⟨[], [], [1, 2, 9, 11]⟩), (32, ⟨[], [], [1, 2, 9, 11, 162]⟩), (33, ⟨[0, 2], [], [1, 2, 9, 11]⟩), (34, ⟨[1, 9, 11], [], [1, 2, 9, 11]⟩), (35, ⟨[], [], [1, 2, 9, 11, 12]⟩), (36, ⟨[], [], [1, 2, 9, 11, 12, 183]⟩), (37, ⟨[0, 2], [], [1, 2, 9, 11, 12]⟩), (38, ⟨[1, 3, 5], [], [1, 2, 9, 11, 12]⟩), (39, ⟨[1], [], [2, 3]⟩)]),
  (12, [(0, ⟨[0, 1], [], [2, 3]⟩), (1, ⟨[5, 12, 19, 26, 33], [], [4]⟩)]),
  (13, [(0, ⟨[], [], [0, 1]⟩), (1, ⟨[], [], [0, 1, 7]⟩), (2, ⟨[0], [], [1, 7, 11, 12, 13]⟩), (3, ⟨[], [], [1, 7, 11, 12, 13, 14]⟩), (4, ⟨[3], [], [1, 7, 9, 11, 12, 13]⟩), (5, ⟨[], [], [1, 7, 9, 11, 12, 13, 18]⟩), (6, ⟨[3], [], [1, 7, 9, 10, 11, 12, 13]⟩), (7, ⟨[], [], [1, 7, 10, 11, 12, 13, 25]⟩), (8, ⟨[0, 1, 2, 3], [], [4, 5, 6]⟩), (9, ⟨[0, 1, 5], [], [1, 7, 11, 12, 13]⟩), (10, ⟨[1], [], [1, 7, 11, 12, 13]⟩), (11, ⟨[], [], [4, 5, 6]⟩)]),
  (14, [(0, ⟨[], [], [0, 1]⟩), (1, ⟨[], [], [0, 1, 8, 9]⟩), (2, ⟨[], [], [0, 1, 8, 9, 10]⟩), (3, ⟨[1], [], [0, 1, 5, 8, 9]⟩), (4, ⟨[1, 5], [], [0, 1, 6, 8, 9]⟩), (5, ⟨[3, 8, 12], [], [0, 1, 6, 8, 9, 38]⟩), (6, ⟨[], [], [4]⟩), (7, ⟨[5, 12, 19], [], [0, 1, 8, 9, 64]⟩), (8, ⟨[], [], [4]⟩), (9, ⟨[1], [], [0, 1, 8, 9]⟩), (10, ⟨[], [], [4]⟩)]),
  (15, [(0, ⟨[], [], [0]⟩), (1, ⟨[], [], [0, 3]⟩), (2, ⟨[], [], [0, 3, 7, 8]⟩), (3, ⟨[], [], [0, 3, 7, 8, 9]⟩), (4, ⟨[1], [], [0, 3, 4, 7, 8]⟩), (5, ⟨[1, 5], [], [0, 3, 5, 7, 8]⟩), (6, ⟨[], [], [0, 3, 5, 7, 8, 17]⟩), (7, ⟨[4], [], [0, 3, 5, 7, 8]⟩), (8, ⟨[13, 15, 17, 19], [], [0, 3, 5, 7, 8]⟩), (9, ⟨[0, 3, 4], [], [0, 3, 7, 8]⟩), (10, ⟨[1], [], [0, 3, 7, 8]⟩), (11, ⟨[0, 1], [], [2]⟩)]),
  (16, [(0, ⟨[], [], [0, 1]⟩), (1, ⟨[], [], [0, 1, 10]⟩), (2, ⟨[], [], [4]⟩), (3, ⟨[], [], [0, 1, 5]⟩), (4, ⟨[], [], [0, 1, 5, 14]⟩), (5, ⟨[0, 2], [], [0, 1, 5]⟩), (6, ⟨[], [], [0, 1, 5, 25]⟩), (7, ⟨[], [], [4]⟩), (8, ⟨[], [], [4]⟩)]),
  (17, [(0, ⟨[], [], [0, 1]⟩), (1, ⟨[], [], [0, 1, 12]⟩), (2, ⟨[], [], [4]⟩), (3, ⟨[], [], [0, 1, 5]⟩), (4, ⟨[], [], [0, 1, 5, 16]⟩), (5, ⟨[0, 2], [], [0, 1, 5]⟩), (6, ⟨[10, 11], [], [0, 1, 5, 6, 7]⟩), (7, ⟨[5, 12, 19, 26, 34, 42, 50], [], [0, 1, 5, 84]⟩), (8, ⟨[], [], [4]⟩), (9, ⟨[], [], [4]⟩)]),
  (22, [(0, ⟨[0], [], [1]⟩), (1, ⟨[], [], [1, 9]⟩), (2, ⟨[], [], [2]⟩), (3, ⟨[], [], [1, 11, 12, 13]⟩), (4, ⟨[], [], [1, 11, 12, 13, 14]⟩), (5, ⟨[3], [], [1, 4, 11, 12, 13]⟩), (6, ⟨[4, 9, 13, 19], [], [1, 11, 12, 13, 40]⟩), (7, ⟨[], [], [2]⟩), (8, ⟨[1], [], [1, 11, 12, 13]⟩), (9, ⟨[], [], [50, 51, 52]⟩), (10, ⟨[], [], [50, 51, 52, 53]⟩), (11, ⟨[2], [], [6, 50, 51, 52]⟩), (12, ⟨[0], [], [50, 51, 52, 58]⟩), (13, ⟨[], [], [2]⟩), (14, ⟨[1], [], [50, 51, 52]⟩), (15, ⟨[], [], [2]⟩)]),
  (24, [(0, ⟨[0], [], [1]⟩), (1, ⟨[], [], [1, 7]⟩), (2, ⟨[], [], [2]⟩), (3, ⟨[], [], [1, 3]⟩), (4, ⟨[], [], [1, 3, 12]⟩), (5, ⟨[0, 2], [], [1, 3]⟩), (6, ⟨[6], [], [1, 3, 4]⟩), (7, ⟨[4, 9, 13, 19], [], [1, 3, 43]⟩), (8, ⟨[], [], [2]⟩), (9, ⟨[4, 10, 16], [], [65]⟩), (10, ⟨[], [], [2]⟩), (11, ⟨[], [], [2]⟩)]),
  (25, [(0, ⟨[0], [], [1]⟩), (1, ⟨[4], [], [2]⟩)]),
  (26, [(0, ⟨[], [], [0, 1]⟩), (1, ⟨[], [], [0, 1, 5]⟩), (2, ⟨[], [], [0, 1, 5, 12]⟩), (3, ⟨[0, 2], [], [0, 1, 5]⟩), (4, ⟨[7, 11, 12, 13], [], [0, 1, 5, 8]⟩), (5, ⟨[6, 14, 15], [], [0, 1, 5, 43]⟩), (6, ⟨[], [], [4]⟩), (7, ⟨[8, 18, 28], [], [0, 1, 5, 81]⟩), (8, ⟨[], [], [4]⟩), (9, ⟨[], [], [4]⟩)]),
  (27, [(0, ⟨[], [], [0, 1]⟩), (1, ⟨[], [], [0, 1, 6]⟩), (2, ⟨[], [], [0, 1, 6, 7]⟩), (3, ⟨[], [], [0, 1, 6, 7, 8]⟩), (4, ⟨[], [], [0, 1, 6, 7, 8, 24]⟩), (5, ⟨[0, 2], [], [0, 1, 6, 7, 8]⟩), (6, ⟨[5], [], [0, 1, 6, 7, 8, 9]⟩), (7, ⟨[3], [], [0, 1, 6, 7, 8, 9, 38]⟩), (8, ⟨[4, 8, 9, 10], [], [0, 1, 6, 7, 8, 9, 10, 11]⟩), (9, ⟨[0, 3, 5], [], [0, 1, 6, 7, 8, 9, 11]⟩), (10, ⟨[0, 1, 5, 9], [], [0, 1, 6, 7, 8, 9]⟩), (11, ⟨[4, 8, 9], [], [0, 1, 6, 7, 8, 9, 13, 14]⟩), (12, ⟨[4, 8, 9], [], [0, 1, 6, 7, 8, 9, 13, 14, 15, 16]⟩), (13, ⟨[4, 7, 8], [], [0, 1, 6, 7, 8, 9, 13, 14, 15, 16, 17, 18]⟩), (14, ⟨[4, 7, 8], [], [0, 1, 6, 7, 8, 9, 13, 14, 15, 16, 17, 18, 19, 20]⟩), (15, ⟨[2, 3, 5, 7, 9, 11], [], [0, 1, 6, 7, 8, 9, 14, 16, 18, 20]⟩), (16, ⟨[0, 3, 4], [], [0, 1, 6, 7, 8, 14, 16, 18, 20]⟩), (17, ⟨[0, 1, 2, 4, 5, 7, 8, 10, 11, 13], [], [0, 1, 6, 7, 8]⟩), (18, ⟨[0, 1, 2, 3], [], [4, 5]⟩)]),
  (28, [(0, ⟨[0], [], [1, 2]⟩), (1, ⟨[3, 8, 12], [], [1, 2, 28]⟩), (2, ⟨[], [], [4]⟩), (3, ⟨[], [], [1, 2, 31, 32]⟩), (4, ⟨[], [], [1, 2, 31, 32, 33]⟩), (5, ⟨[1], [], [1, 2, 5, 31, 32]⟩), (6, ⟨[2], [], [1, 2, 31, 32, 42]⟩), (7, ⟨[], [], [4]⟩), (8, ⟨[1], [], [1, 2, 31, 32]⟩), (9, ⟨[], [], [4]⟩)]),
  (29, [(0, ⟨[0], [], [1, 2]⟩), (1, ⟨[], [], [1, 2, 7]⟩), (2, ⟨[4], [], [1, 2]⟩), (3, ⟨[], [], [1, 2, 3]⟩), (4, ⟨[], [], [1, 2, 3, 14, 15]⟩), (5, ⟨[], [], [1, 2, 3, 14, 15, 16]⟩), (6, ⟨[1], [], [1, 2, 3, 4, 14, 15]⟩), (7, ⟨[0, 3, 8, 9], [], [1, 2, 3, 14, 15]⟩), (8, ⟨[1], [], [1, 2, 3, 14, 15]⟩), (9, ⟨[0, 2], [], [1, 2]⟩), (10, ⟨[1], [], [2]⟩)]),
  (30, [(0, ⟨[0, 1], [], [2, 3]⟩), (1, ⟨[5, 12, 19, 26, 33], [], [2, 3, 47]⟩), (2, ⟨[], [], [4]⟩), (3, ⟨[], [], [2, 3, 5]⟩), (4, ⟨[], [], [2, 3, 5, 52]⟩), (5, ⟨[0, 2], [], [2, 3, 5]⟩), (6, ⟨[], [], [2, 3, 5, 66]⟩), (7, ⟨[], [], [4]⟩), (8, ⟨[], [], [4]⟩)]),
  (32, [(0, ⟨[0], [], [1]⟩), (1, ⟨[13], [], [2]⟩)]),
  (33, [(0, ⟨[], [], [0]⟩), (1, ⟨[2, 7, 12, 19, 20, 24], [], [2]⟩)]),
  (34, [(0, ⟨[], [], [0]⟩), (1, ⟨[0], [], [5, 6, 7]⟩), (2, ⟨[], [], [5, 6, 7, 8]⟩), (3, ⟨[3], [], [4, 5, 6, 7]⟩), (4, ⟨[], [], [5, 6, 7, 13]⟩), (5, ⟨[], [], [2]⟩), (6, ⟨[1], [], [5, 6, 7]⟩), (7, ⟨[], [], [2]⟩)]),
  (37, [(0, ⟨[0], [], [1]⟩), (1, ⟨[13], [], [2]⟩)]),
  (38, [(0, ⟨[], [], [0]⟩), (1, ⟨[3, 8, 14], [], [0, 21]⟩), (2, ⟨[], [], [2]⟩), (3, ⟨[], [], [0, 3]⟩), (4, ⟨[], [], [0, 3, 25]⟩), (5, ⟨[0, 2], [], [0, 3]⟩), (6, ⟨[5], [], [0, 3, 39]⟩), (7, ⟨[], [], [2]⟩), (8, ⟨[], [], [2]⟩)]),
  (39, [(0, ⟨[], [], [0]⟩), (1, ⟨[], [], [0, 3]⟩), (2, ⟨[], [], [0, 3, 11]⟩), (3, ⟨[0, 2], [], [0, 3]⟩), (4, ⟨[5], [], [0, 3, 4]⟩), (5, ⟨[3, 11, 19, 24, 25, 26], [], [0, 3, 4, 5, 6, 7]⟩), (6, ⟨[3, 8, 13, 18, 20, 27, 28, 30, 36], [], [0, 3, 4, 6, 7, 83]⟩), (7, ⟨[], [], [2]⟩), (8, ⟨[1, 7, 8, 10, 17, 18, 20, 27, 31], [], [0, 3, 4, 121]⟩), (9, ⟨[], [], [2]⟩), (10, ⟨[4], [], [0, 3, 131]⟩), (11, ⟨[], [], [2]⟩), (12, ⟨[], [], [2]⟩)]),
  (40, [(0, ⟨[], [], [0, 1]⟩), (1, ⟨[], [], [0, 1, 7]⟩), (2, ⟨[], [], [0, 1, 7, 8]⟩), (3, ⟨[], [], [0, 1, 7, 8, 12]⟩), (4, ⟨[0, 2], [], [0, 1, 7, 8]⟩), (5, ⟨[], [], [0, 1, 7, 8, 21]⟩), (6, ⟨[0, 1, 2, 7, 8], [], [4, 5, 6]⟩), (7, ⟨[0, 7], [], [0, 1, 7, 8]⟩), (8, ⟨[], [], [0, 1, 7, 8, 37]⟩), (9, ⟨[], [], [4, 5, 6]⟩), (10, ⟨[], [], [4, 5, 6]⟩)]),
  (41, [(0, ⟨[0], [], [0, 3]⟩), (1, ⟨[4, 8, 9, 10], [], [0, 3, 7]⟩), (2, ⟨[3, 8, 9], [], [0, 3, 28]⟩), (3, ⟨[], [], [4]⟩), (4, ⟨[], [], [0, 3, 8]⟩), (5, ⟨[], [], [0, 3, 8, 33]⟩), (6, ⟨[0, 2], [], [0, 3, 8]⟩), (7, ⟨[], [], [0, 3, 8, 43]⟩), (8, ⟨[], [], [4]⟩), (9, ⟨[], [], [4]⟩)]),
  (42, [(0, ⟨[0], [], [0, 3, 4]⟩), (1, ⟨[2], [], [0, 3, 4, 6]⟩), (2, ⟨[], [], [0, 3, 4, 6]⟩), (3, ⟨[], [], [0, 3, 4, 6, 7]⟩), (4, ⟨[3], [], [0, 3, 4, 6, 7, 23]⟩), (5, ⟨[4, 8, 9, 10], [], [0, 3, 4, 6, 8, 9]⟩), (6, ⟨[0, 3, 5], [], [0, 3, 4, 6, 9]⟩), (7, ⟨[3, 6], [], [0, 3, 4, 6, 7]⟩), (8, ⟨[], [], [0, 3, 4, 6, 7, 11]⟩), (9, ⟨[], [], [0, 3, 4, 6, 7, 11, 46]⟩), (10, ⟨[0, 2], [], [0, 3, 4, 6, 7, 11]⟩), (11, ⟨[7, 11, 12], [], [0, 3, 4, 6, 7, 11, 12, 13]⟩), (12, ⟨[1, 4, 6], [], [0, 3, 4, 6, 7, 11, 13]⟩), (13, ⟨[0, 1, 2, 4], [], [0, 3, 4, 6, 7, 11]⟩), (14, ⟨[1, 2, 3], [], [4, 5]⟩)]),
  (43, [(0, ⟨[], [], [0]⟩), (1, ⟨[], [], [0, 3]⟩), (2, ⟨[0], [], [3, 6, 7, 8]⟩), (3, ⟨[], [], [3, 6, 7, 8, 9]⟩), (4, ⟨[3], [], [3, 5, 6, 7, 8]⟩), (5, ⟨[0, 16], [], [3, 6, 7, 8]⟩), (6, ⟨[1], [], [3, 6, 7, 8]⟩), (7, ⟨[0, 1], [], [2]⟩)]),
  (44, [(0, ⟨[], [], [0]⟩), (1, ⟨[2, 6, 9, 14, 15, 18], [], [2]⟩)]),
  (45, [(0, ⟨[], [], [0]⟩), (1, ⟨[], [], [0, 3]⟩), (2, ⟨[4, 9], [], [0, 3, 19]⟩), (3, ⟨[0, 2], [], [0, 3]⟩), (4, ⟨[0, 1], [], [2]⟩)]),
  (46, [(0, ⟨[], [], [0]⟩), (1, ⟨[0], [], [3]⟩), (2, ⟨[1], [], [3, 4]⟩), (3, ⟨[1], [], [3, 4]⟩), (4, ⟨[1], [], [3, 4]⟩), (5, ⟨[1], [], [3, 4]⟩), (6, ⟨[1], [], [3, 4]⟩), (7, ⟨[1], [], [3, 4]⟩), (8, ⟨[1], [], [3, 4]⟩), (9, ⟨[1], [], [3, 4]⟩), (10, ⟨[1], [], [3, 4]⟩), (11, ⟨[1], [], [3, 4]⟩), (12, ⟨[1], [], [3, 4]⟩), (13, ⟨[1], [], [3, 4]⟩), (14, ⟨[1], [], [3, 4]⟩), (15, ⟨[1], [], [3, 4]⟩), (16, ⟨[1], [], [3, 4]⟩), (17, ⟨[1], [], [4]⟩), (18, ⟨[], [], [2]⟩), (19, ⟨[], [], [2]⟩)]),
  (47, [(0, ⟨[0], [], [1]⟩), (1, ⟨[3, 8], [], [1, 3]⟩), (2, ⟨[3, 8], [], [1, 3, 4]⟩), (3, ⟨[3, 8, 13, 18], [], [1, 3, 4, 21]⟩), (4, ⟨[], [], [2]⟩), (5, ⟨[1, 7, 8, 10, 16], [], [1, 4, 40]⟩), (6, ⟨[], [], [2]⟩), (7, ⟨[1, 7, 8, 10, 17, 23], [], [1, 57]⟩), (8, ⟨[], [], [2]⟩), (9, ⟨[3, 9, 13, 18, 25], [], [1, 81]⟩), (10, ⟨[], [], [2]⟩), (11, ⟨[3, 8], [], [2]⟩)]),
  (48, [(0, ⟨[], [], [0]⟩), (1, ⟨[], [], [0, 3]⟩), (2, ⟨[], [], [0, 3, 4]⟩), (3, ⟨[], [], [0, 3, 4, 8]⟩), (4, ⟨[0, 2], [], [0, 3, 4]⟩), (5, ⟨[0, 28], [], [0, 3, 4]⟩), (6, ⟨[0, 1], [], [2]⟩)]),
  (49, [(0, ⟨[], [], [0]⟩), (1, ⟨[2, 6, 9, 14, 15, 18], [], [2]⟩)]),
  (50, [(0, ⟨[], [], [0]⟩), (1, ⟨[], [], [0, 8]⟩), (2, ⟨[], [], [2]⟩), (3, ⟨[], [], [0, 3]⟩), (4, ⟨[], [], [0, 3, 12]⟩), (5, ⟨[0, 2], [], [0, 3]⟩), (6, ⟨[], [], [0, 3, 18]⟩), (7, ⟨[], [], [2]⟩), (8, ⟨[0, 3], [], [4]⟩), (9, ⟨[], [], [4, 5]⟩), (10, ⟨[], [], [4, 5, 26]⟩), (11, ⟨[0, 2], [], [4, 5]⟩), (12, ⟨[], [], [4, 5, 36]⟩), (13, ⟨[], [], [2]⟩), (14, ⟨[], [], [2]⟩)]),
  (51, [(0, ⟨[], [], [0]⟩), (1, ⟨[2, 3, 6], [], [2]⟩)]),
  (52, [(0, ⟨[0], [], [1]⟩), (1, ⟨[3, 8], [], [1, 3]⟩), (2, ⟨[7, 12, 17, 19, 26, 29, 35, 39, 45, 49], [], [1, 67]⟩), (3, ⟨[], [], [2]⟩), (4, ⟨[], [], [1, 4]⟩), (5, ⟨[], [], [1, 4, 72]⟩), (6, ⟨[0, 2], [], [1, 4]⟩), (7, ⟨[], [], [1, 4, 81]⟩), (8, ⟨[], [], [2]⟩), (9, ⟨[], [], [2]⟩)]),
  (53, [(0, ⟨[0], [], [1]⟩), (1, ⟨[3, 8, 13, 18, 23, 29], [], [2]⟩)]),
  (54, [(0, ⟨[0], [], [1]⟩), (1, ⟨[], [], [1, 3]⟩), (2, ⟨[], [], [3, 7, 8, 9]⟩), (3, ⟨[], [], [3, 7, 8, 9, 10]⟩), (4, ⟨[3], [], [3, 5, 7, 8, 9]⟩), (5, ⟨[0, 4], [], [3, 7, 8, 9]⟩), (6, ⟨[1], [], [3, 7, 8, 9]⟩), (7, ⟨[0, 2], [], [2]⟩)]),
  (55, [(0, ⟨[], [], [0]⟩), (1, ⟨[2, 3, 6], [], [2]⟩)]),
  (56, [(0, ⟨[0], [], [1]⟩), (1, ⟨[3, 8], [], [1, 3]⟩), (2, ⟨[3, 8, 13, 18, 27], [], [1, 3, 14]⟩), (3, ⟨[], [], [2]⟩), (4, ⟨[1, 7, 8, 10, 16], [], [1, 42]⟩), (5, ⟨[], [], [2]⟩), (6, ⟨[3, 8, 12, 18], [], [1, 59]⟩), (7, ⟨[], [], [2]⟩), (8, ⟨[], [], [79, 80, 81]⟩), (9, ⟨[], [], [79, 80, 81, 82]⟩), (10, ⟨[3], [], [5, 79, 80, 81]⟩), (11, ⟨[], [], [79, 80, 81, 87]⟩), (12, ⟨[], [], [2]⟩), (13, ⟨[1], [], [79, 80, 81]⟩), (14, ⟨[], [], [2]⟩)]),
  (57, [(0, ⟨[0], [], [1]⟩), (1, ⟨[3, 8, 13, 18, 23, 29], [], [2]⟩)]),
  (58, [(0, ⟨[0], [], [1]⟩), (1, ⟨[], [], [1, 3]⟩), (2, ⟨[], [], [1, 3, 4]⟩), (3, ⟨[], [], [1, 3, 4, 9]⟩), (4, ⟨[0, 2], [], [1, 3, 4]⟩), (5, ⟨[0, 8], [], [1, 3, 4]⟩), (6, ⟨[0, 2], [], [2]⟩)]),
  (60, [(0, ⟨[], [], [0]⟩), (1, ⟨[2], [], [0, 3]⟩), (2, ⟨[], [], [2]⟩), (3, ⟨[2, 3, 6], [], [6]⟩), (4, ⟨[], [], [2]⟩), (5, ⟨[], [], [2]⟩)]),
  (8, [(0, ⟨[], [], [0, 2]⟩), (1, ⟨[3, 7, 11, 14, 16], [], [0, 2, 3]⟩), (2, ⟨[3], [], [0, 2, 3]⟩), (3, ⟨[3], [], [0, 2, 3]⟩), (4, ⟨[3], [], [0, 2, 3]⟩), (5, ⟨[0, 3], [], [2, 3]⟩), (6, ⟨[1], [], [2]⟩)]),
  (18, [(0, ⟨[], [], [0, 1]⟩), (1, ⟨[], [], [0, 1, 7]⟩), (2, ⟨[], [], [4]⟩), (3, ⟨[7], [], [0, 1]⟩), (4, ⟨[12, 14], [], [4]⟩)]),
  (19, [(0, ⟨[], [], [0, 1, 2]⟩), (1, ⟨[], [], [0, 1, 2, 7]⟩), (2, ⟨[1, 4], [], [0, 2, 7, 8]⟩), (3, ⟨[], [], [0, 2, 7, 8, 15]⟩), (4, ⟨[0, 2], [], [0, 2, 7, 8]⟩), (5, ⟨[2], [], [0, 2, 7, 8, 9]⟩), (6, ⟨[2], [], [0, 2, 7, 8, 9, 25]⟩), (7, ⟨[0, 2], [], [0, 2, 7, 8, 9]⟩), (8, ⟨[0, 7, 9, 10], [], [0, 2, 7, 8]⟩), (9, ⟨[2], [], [0, 2, 7, 8, 9, 38]⟩), (10, ⟨[0, 7, 9, 10], [], [0, 2, 7, 8]⟩), (11, ⟨[2], [], [0, 2, 7, 8, 9, 51]⟩), (12, ⟨[0, 9, 11, 12], [], [0, 2, 7, 8]⟩), (13, ⟨[2], [], [0, 2, 7, 8, 9, 66]⟩), (14, ⟨[0, 5, 7, 8], [], [0, 2, 7, 8]⟩), (15, ⟨[2], [], [0, 2, 7, 8, 9, 77]⟩), (16, ⟨[0, 3, 5, 6], [], [0, 2, 7, 8]⟩), (17, ⟨[0, 2], [], [0, 2, 7, 8, 86]⟩), (18, ⟨[0, 11, 13, 14], [], [0, 2, 7, 8]⟩), (19, ⟨[0, 1], [], [6]⟩)]),
  (20, [(0, ⟨[], [], [0]⟩), (1, ⟨[1], [], [0, 3]⟩), (2, ⟨[], [], [0, 3, 7]⟩), (3, ⟨[1, 2, 7], [], [2]⟩), (4, ⟨[0, 1, 5], [], [2]⟩)]),
  (21, [(0, ⟨[], [], [0, 1, 4]⟩), (1, ⟨[2], [], [0, 1, 4, 5]⟩), (2, ⟨[2], [], [0, 1, 4, 5, 14]⟩), (3, ⟨[0, 2], [], [0, 1, 4, 5]⟩), (4, ⟨[2], [], [0, 1, 4, 5, 17]⟩), (5, ⟨[0, 2, 3], [], [4]⟩), (6, ⟨[2], [], [0, 1, 4, 5, 23]⟩), (7, ⟨[0, 4, 5], [], [4]⟩), (8, ⟨[2], [], [0, 1, 4, 5, 31]⟩), (9, ⟨[1], [], [4]⟩), (10, ⟨[2], [], [0, 1, 4, 5, 35]⟩), (11, ⟨[1, 5, 6], [], [4]⟩), (12, ⟨[2, 6], [], [0, 1, 4, 5, 44]⟩), (13, ⟨[0, 3, 4], [], [4]⟩), (14, ⟨[2], [], [0, 1, 4, 5, 55]⟩), (15, ⟨[5, 9, 10], [], [4]⟩), (16, ⟨[0, 2], [], [0, 1, 4, 68]⟩), (17, ⟨[3, 4, 8, 9], [], [4]⟩), (18, ⟨[5], [], [0, 1, 4, 6]⟩), (19, ⟨[5, 9, 10], [], [4]⟩)]),
  (31, [(0, ⟨[], [], [0]⟩), (1, ⟨[10], [], [2]⟩)]),
  (23, [(0, ⟨[], [], [0, 1]⟩), (1, ⟨[], [], [0, 1, 5]⟩), (2, ⟨[0], [], [0, 5, 9, 10, 11]⟩), (3, ⟨[], [], [0, 5, 9, 10, 11, 12]⟩), (4, ⟨[3], [], [0, 5, 7, 9, 10, 11]⟩), (5, ⟨[3], [], [0, 5, 7, 9, 10, 11, 22]⟩), (6, ⟨[8], [], [0, 5, 7, 8, 9, 10, 11]⟩), (7, ⟨[5, 7], [], [0, 5, 7, 9, 10, 11]⟩), (8, ⟨[9, 11], [], [0, 5, 7, 9, 10, 11]⟩), (9, ⟨[9, 11], [], [0, 5, 7, 9, 10, 11]⟩), (10, ⟨[0, 3, 4], [], [0, 5, 9, 10, 11]⟩), (11, ⟨[1], [], [0, 5, 9, 10, 11]⟩), (12, ⟨[0, 1], [], [4]⟩)]),
  (35, [(0, ⟨[], [], [0, 1, 2, 6]⟩), (1, ⟨[4, 6, 10, 11], [], [0, 2, 6, 7, 8]⟩), (2, ⟨[5, 11], [], [0, 2, 6, 7, 8]⟩), (3, ⟨[1, 5, 6, 7, 8, 17], [], [6, 7]⟩), (4, ⟨[1], [], [6]⟩)]),
  (36, [(0, ⟨[0], [], [0, 3, 4]⟩), (1, ⟨[3], [], [0, 3, 4, 16]⟩), (2, ⟨[8], [], [0, 3, 4, 5]⟩), (3, ⟨[5, 7], [], [0, 3, 4]⟩), (4, ⟨[], [], [0, 3, 4, 6]⟩), (5, ⟨[], [], [0, 3, 4, 6, 31, 32, 33]⟩), (6, ⟨[], [], [0, 3, 4, 6, 31, 32, 33, 34]⟩), (7, ⟨[3], [], [0, 3, 4, 6, 8, 31, 32, 33]⟩), (8, ⟨[0, 5, 6], [], [0, 3, 4, 6, 31, 32, 33]⟩), (9, ⟨[1], [], [0, 3, 4, 6, 31, 32, 33]⟩), (10, ⟨[0, 2], [], [3, 4]⟩), (11, ⟨[1], [], [4]⟩)])]

def ann : FuncId → Ann := annOf tab

def iso (f : Nat) : Bool := [3, 4, 5, 6, 10, 11, 12, 13, 14, 15, 16, 17, 22, 24, 25, 26, 27, 28, 29, 30, 32, 33, 34, 37, 38, 39, 40, 41, 42, 43, 44, 45, 46, 47, 48, 49, 50, 51, 52, 53, 54, 55, 56, 57, 58, 60].contains f

def vwl : List (Nat × View) := [(2, (View.int .i64)), (3, (View.int .i64)), (4, View.bool), (5, (View.int .u8)), (6, (View.int .u8)), (9, View.str), (10, View.str), (11, View.str), (12, (View.int .u64)), (21, (View.int .i32)), (22, (View.sl 1)), (26, (View.sl 3)), (27, (View.sl 18)), (32, (View.sl 5)), (33, (View.sl 1)), (36, (View.int .i64)), (42, varView), (54, (View.sl 6)), (56, xpView), (59, stView), (60, (View.sl 1)), (66, plcView), (80, (View.sl 1)), (99, (View.int .u32)), (100, (View.int .u8)), (101, (View.int .u8)), (104, (View.int .i32)), (105, (View.int .i32))]

def vw (t : Nat) : View := lookA View.any vwl t


theorem base : Base Tryd.prog tab := ⟨progOK_of (by kernel_rfl), by kernel_rfl, by kernel_rfl⟩

/-- A draw. -/
def nx (n : Nat) : List UInt8 → Nat × List UInt8
  | [] => (0, [])
  | b :: r => (b.toNat % n, r)
def atOf (s r : List UInt8) : Int := (s.length : Int) - r.length
theorem nx_lt {n : Nat} (h : 0 < n) (r : List UInt8) : (nx n r).1 < n := by
  cases r with
  | nil => exact h
  | cons b r => exact Nat.mod_lt _ h
theorem nx_suf (n : Nat) (r : List UInt8) : (nx n r).2 <:+ r := by
  cases r with
  | nil => exact List.suffix_refl _
  | cons b r => exact List.suffix_cons b r

def leftT : FT
  | [.hp 0 0], [[.d (.sl 1 xs), .d (.int .i64 a)]] => .leaf (.d (.bool (decide (a < xs.length))), [[.d (.sl 1 xs), .d (.int .i64 a)]])
  | _, _ => .fail

noncomputable abbrev X0 : TX := ⟨Tryd.prog, tbl [], iso, gl, vw⟩

theorem xok_X0 (f : Nat) : XOK X0 (ann f) gl := XOK.of base (l := []) trivial f

/-- (*rollbacknet/rollbacknetmake.Codes).Left -/
def c_left : CC := .seq (.region [
    ⟨.yes, (some 2), .assign (.const (.bool false)), false, false, []⟩] [0]) <|
  .seq (.drawn ⟨[10], [], [2]⟩ [
    ⟨(some 3), .move (.tmp 0), 24, "make.go:26", #[], none⟩,
    ⟨(some 4), .nilCheck (.tmp 3), 0, "make.go:26", #[⟨0, .data⟩], none⟩,
    ⟨(some 5), .fieldAddr 50 (.tmp 4) 1, 0, "make.go:26", #[⟨1, .data⟩], none⟩,
    ⟨(some 6), .load 3 (.tmp 5), 3, "make.go:26", #[⟨2, .data⟩], none⟩,
    ⟨(some 7), .move (.tmp 0), 24, "make.go:26", #[], none⟩,
    ⟨(some 8), .nilCheck (.tmp 7), 0, "make.go:26", #[⟨4, .data⟩], none⟩,
    ⟨(some 9), .fieldAddr 50 (.tmp 8) 0, 0, "make.go:26", #[⟨5, .data⟩], none⟩,
    ⟨(some 10), .load 22 (.tmp 9), 22, "make.go:26", #[⟨6, .data⟩], none⟩,
    ⟨(some 11), .call ⟨.builtin .len, #[(.tmp 10)], #[22]⟩, 3, "make.go:26", #[⟨7, .data⟩], none⟩,
    ⟨(some 12), .binOp .lss 3 (.tmp 6) (.tmp 11) 3, 4, "make.go:26", #[⟨3, .data⟩, ⟨8, .data⟩], none⟩,
    ⟨(some 2), .assign (.tmp 12), 4, "make.go:26", #[⟨9, .data⟩, ⟨0, .phase⟩, ⟨1, .phase⟩, ⟨2, .phase⟩, ⟨3, .phase⟩, ⟨4, .phase⟩, ⟨5, .phase⟩, ⟨6, .phase⟩, ⟨7, .phase⟩, ⟨8, .phase⟩, ⟨9, .phase⟩], none⟩]) <|
  .ret

theorem c_left_eq : ∃ c, Tryd.f31.body = some c ∧ codeOK Tryd.f31.ntmps c = true ∧ comp Tryd.prog (ann 31) c = erase c_left := ⟨_, rfl, by kernel_rfl, by kernel_rfl⟩

theorem tree_left (xs : List DV) (a : Int) : fnT X0 c_left Tryd.f31.results.toList [.hp 0 0] [[.d (.sl 1 xs), .d (.int .i64 a)]] = (
    .leaf ((.d (.bool (decide (a < (xs.length : Int))))), [[(.d (.sl 1 xs)), (.d (.int .i64 a))]]) : Tr (AV × Hp)) := by kernel_rfl

theorem ok_left : FnOK Tryd.prog gl 31 leftT := by
  refine fn_of (X := X0) (xok_X0 31) Tryd.func31 c_left_eq (by kernel_rfl) (by simp only [Sums, c_left, and_true]) ?_
  intro xs H o h
  unfold leftT at h
  split at h
  · rename_i xs a
    rw [tree_left]
    exact h
  · exact Tr.fail_some h

def nextT : FT
  | [.hp 0 0, .d (.int .i64 n)], [[.d (.sl 1 xs), .d (.int .i64 a)]] => .opt (unL unU8 xs) fun s => .br (decide (0 ≤ a ∧ a ≤ s.length ∧ (s.length : Int) ≤ 100000 ∧ 0 < n ∧ n ≤ 256)) (.leaf (.d (.int .i64 ((nx n.toNat (s.drop a.toNat)).1 : Int)), [[.d (.sl 1 xs), .d (.int .i64 (atOf s (nx n.toNat (s.drop a.toNat)).2))]])) .fail
  | _, _ => .fail

noncomputable abbrev Xn : TX := ⟨Tryd.prog, tbl [(31, leftT)], iso, gl, vw⟩

theorem xok_Xn (f : Nat) : XOK Xn (ann f) gl := XOK.of base (l := [(31, leftT)]) ⟨ok_left, trivial⟩ f

/-- (*rollbacknet/rollbacknetmake.Codes).Next -/
def c_next : CC := .seq (.region [
    ⟨.yes, (some 4), .assign (.const (.int .i64 (0))), false, false, []⟩] [0, 1]) <|
  .seq (.seq (.region [
    ⟨.yes, (some 5), .move (.tmp 0), false, false, []⟩,
    ⟨.yes, (some 6), .call ⟨.value (.func 31), #[(.tmp 5)], #[24]⟩, false, false, []⟩,
    ⟨.yes, (some 7), .unOp .not 4 (.tmp 6), false, false, []⟩] [0, 1, 7]) <|
  .cond (.tmp 7)
    (.seq (.region [
      ⟨.yes, (some 4), .assign (.const (.int .i64 (0))), false, false, []⟩] [4]) <|
    .ret)
    (.skip)) <|
  .seq (.region [
    ⟨.yes, (some 8), .move (.tmp 0), false, false, []⟩,
    ⟨.yes, (some 9), .nilCheck (.tmp 8), false, false, []⟩,
    ⟨.yes, (some 10), .fieldAddr 50 (.tmp 9) 1, false, false, []⟩,
    ⟨.yes, (some 11), .load 3 (.tmp 10), false, false, []⟩,
    ⟨.yes, (some 12), .binOp .add 3 (.tmp 11) (.const (.int .i64 (1))) 3, false, false, []⟩,
    ⟨.yes, (some 13), .nilCheck (.tmp 8), false, false, []⟩,
    ⟨.yes, (some 14), .fieldAddr 50 (.tmp 13) 1, false, false, []⟩,
    ⟨.yes, none, .store 3 (.tmp 14) (.tmp 12), true, false, []⟩] [0, 1]) <|
  .seq (.drawn ⟨[12, 14], [], [4]⟩ [
    ⟨(some 15), .move (.tmp 0), 24, "make.go:34", #[], none⟩,
    ⟨(some 16), .nilCheck (.tmp 15), 0, "make.go:34", #[⟨0, .data⟩], none⟩,
    ⟨(some 17), .fieldAddr 50 (.tmp 16) 0, 0, "make.go:34", #[⟨1, .data⟩], none⟩,
    ⟨(some 18), .load 22 (.tmp 17), 22, "make.go:34", #[⟨2, .data⟩], none⟩,
    ⟨(some 19), .move (.tmp 0), 24, "make.go:34", #[], none⟩,
    ⟨(some 20), .nilCheck (.tmp 19), 0, "make.go:34", #[⟨4, .data⟩], none⟩,
    ⟨(some 21), .fieldAddr 50 (.tmp 20) 1, 0, "make.go:34", #[⟨5, .data⟩], none⟩,
    ⟨(some 22), .load 3 (.tmp 21), 3, "make.go:34", #[⟨6, .data⟩], none⟩,
    ⟨(some 23), .binOp .sub 3 (.tmp 22) (.const (.int .i64 (1))) 3, 3, "make.go:34", #[⟨7, .data⟩], none⟩,
    ⟨(some 24), .indexAddr 22 (.tmp 18) (.tmp 23), 0, "make.go:34", #[⟨3, .data⟩, ⟨8, .data⟩], none⟩,
    ⟨(some 25), .load 5 (.tmp 24), 5, "make.go:34", #[⟨9, .data⟩], none⟩,
    ⟨(some 26), .convert 5 3 (.tmp 25), 3, "make.go:34", #[⟨10, .data⟩], none⟩,
    ⟨(some 27), .move (.tmp 1), 3, "make.go:34", #[], none⟩,
    ⟨(some 28), .binOp .rem 3 (.tmp 26) (.tmp 27) 3, 3, "make.go:34", #[⟨11, .data⟩, ⟨12, .data⟩], none⟩,
    ⟨(some 4), .assign (.tmp 28), 3, "make.go:34", #[⟨13, .data⟩, ⟨0, .phase⟩, ⟨1, .phase⟩, ⟨2, .phase⟩, ⟨3, .phase⟩, ⟨4, .phase⟩, ⟨5, .phase⟩, ⟨6, .phase⟩, ⟨7, .phase⟩, ⟨8, .phase⟩, ⟨9, .phase⟩, ⟨10, .phase⟩, ⟨11, .phase⟩, ⟨12, .phase⟩, ⟨13, .phase⟩], none⟩]) <|
  .ret

theorem c_next_eq : ∃ c, Tryd.f18.body = some c ∧ codeOK Tryd.f18.ntmps c = true ∧ comp Tryd.prog (ann 18) c = erase c_next := ⟨_, rfl, by kernel_rfl, by kernel_rfl⟩

theorem tree_next (xs : List DV) (n a : Int) : fnT Xn c_next Tryd.f18.results.toList [.hp 0 0, .d (.int .i64 n)] [[.d (.sl 1 xs), .d (.int .i64 a)]] = (
    .br (!(decide (a < xs.length)))
    (.leaf ((.d (.int .i64 0)), [[(.d (.sl 1 xs)), (.d (.int .i64 a))]]))
    (.br (decide ((0 : Int) ≤ (IntKind.i64.wrap ((IntKind.i64.wrap (a + 1)) - 1))))
      (.opt ((xs[(Int.toNat (IntKind.i64.wrap ((IntKind.i64.wrap (a + 1)) - 1)))]?).bind (unInt .u8)) fun y1 => .br (decide (n = 0))
        (.fail)
        (.leaf ((.d (.int .i64 (Int.tmod (IntKind.i64.wrap (y1)) n))), [[(.d (.sl 1 xs)), (.d (.int .i64 (IntKind.i64.wrap (a + 1))))]])))
      (.fail)) : Tr (AV × Hp)) := by kernel_rfl


theorem wrap_in {n : Int} (h0 : -9223372036854775808 ≤ n) (h1 : n ≤ 9223372036854775807) : IntKind.i64.wrap n = n := by
  simp [IntKind.wrap, IntKind.bits, IntKind.signed, IntKind.max]
  omega

theorem at_u8 {s : List UInt8} {i : Nat} {b : UInt8} (h : s[i]? = some b) : ((s.map encU8)[i]?).bind (unInt .u8) = some (b.toNat : Int) := by
  simp [h, encU8, unInt]

theorem ok_next : FnOK Tryd.prog gl 18 nextT := by
  refine fn_of (X := Xn) (xok_Xn 18) Tryd.func18 c_next_eq (by kernel_rfl) (by simp only [Sums, c_next, and_true]) ?_
  intro xs H o h
  unfold nextT at h
  split at h
  · rename_i n xs a
    rw [tree_next]
    obtain ⟨s, hs, h⟩ := Tr.opt_some h
    obtain rfl := unL_inv unU8_ok hs
    rcases Tr.br_some h with ⟨h1, h2⟩ | ⟨_, h2⟩
    · obtain ⟨⟨h3, h4, h5⟩, h6, h7⟩ : (0 ≤ a ∧ a ≤ s.length ∧ (s.length : Int) ≤ 100000) ∧ 0 < n ∧ n ≤ 256 := by
        have := of_decide_eq_true h1
        omega
      obtain rfl := Tr.leaf_some h2
      obtain ⟨k, rfl⟩ := Int.eq_ofNat_of_zero_le h3
      obtain ⟨m, rfl⟩ := Int.eq_ofNat_of_zero_le (Int.le_of_lt h6)
      simp only [Int.toNat_natCast, List.length_map]
      cases hb : s[k]? with
      | none =>
        have hl : s.length ≤ k := by simpa using hb
        have he : s.drop k = [] := List.drop_eq_nil_of_le hl
        have hk : (k : Int) = s.length := by omega
        have h9 : ¬ ((k : Int) < s.length) := by omega
        simp [Tr.run_br, Tr.run_leaf, h9, he, nx, atOf, hk]
      | some b =>
        have hl := (List.getElem?_eq_some_iff.1 hb).1
        have h9 : (k : Int) < s.length := by omega
        have hd : s.drop k = b :: s.drop (k + 1) := by
          rw [List.drop_eq_getElem_cons hl]; congr 1; exact (List.getElem?_eq_some_iff.1 hb).2
        have w1 : IntKind.i64.wrap ((k : Int) + 1) = (k : Int) + 1 := by rw [wrap_in] <;> omega
        have w2 : IntKind.i64.wrap ((k : Int) + 1 - 1) = (k : Int) := by rw [wrap_in] <;> omega
        have hbn := b.toNat_lt
        have w3 : IntKind.i64.wrap (b.toNat : Int) = (b.toNat : Int) := by rw [wrap_in] <;> omega
        have w4 : Int.tmod (b.toNat : Int) (m : Int) = ((b.toNat % m : Nat) : Int) := rfl
        have h10 : atOf s (s.drop (k + 1)) = (k : Int) + 1 := by simp [atOf]; omega
        rw [w1, w2, hd]
        refine Tr.run_no (by simp [h9]) |>.trans (Tr.dec_yes h3 (Tr.opt_to (at_u8 hb) (Tr.dec_no (by omega) ?_)))
        rw [w3, w4]
        simp only [nx, h10]
        rfl
    · exact Tr.fail_some h2
  · exact Tr.fail_some h

end Go.AI.RD

/- Codes.Expr, in sum. -/
namespace Go.AI.RD
open Go Go.Proofs
set_option maxRecDepth 10000
set_option linter.unusedVariables false
set_option linter.unusedSimpArgs false

def scName (i : Nat) : List UInt8 := match i with | 0 => [120] | 1 => [121] | _ => [122]
def arName (i : Nat) : List UInt8 := match i with | 0 => [97] | _ => [98]

/-- What is drawn, once its kind is. -/
def drawT (rec : List UInt8 → Xp × List UInt8) (d k : Nat) (r : List UInt8) : Xp × List UInt8 :=
  if k < 2 then (⟨1, ((nx 5 r).1 : Int), [], 0, 0, []⟩, (nx 5 r).2)
  else if k < 4 then (⟨2, 0, scName (nx 3 r).1, 0, 0, []⟩, (nx 3 r).2)
  else if k = 4 then (⟨7, 0, [], 0, 0, []⟩, r)
  else if k = 5 then (⟨4 + ((nx 3 r).1 : Int), 0, [], 0, 0, []⟩, (nx 3 r).2)
  else if k = 6 ∨ d = 0 then (⟨1, 1 + ((nx 200 r).1 : Int), [], 0, 0, []⟩, (nx 200 r).2)
  else if k = 7 then (⟨3, 0, arName (nx 2 r).1, 0, 0, [encXp (rec (nx 2 r).2).1]⟩, (rec (nx 2 r).2).2)
  else if k = 8 then (⟨8 + ((nx 2 r).1 : Int), 0, [], 0, 0, [encXp (rec (nx 2 r).2).1]⟩, (rec (nx 2 r).2).2)
  else (⟨10 + ((nx 13 (rec r).2).1 : Int), 0, [], 0, 0, [encXp (rec r).1, encXp (rec (nx 13 (rec r).2).2).1]⟩, (rec (nx 13 (rec r).2).2).2)

/-- An expression that is drawn, and what is left to draw from. -/
def drawX : Nat → List UInt8 → Xp × List UInt8
  | 0, r => (⟨0, 0, [], 0, 0, []⟩, r)
  | d + 1, r => drawT (drawX d) d (if d = 0 ∧ 8 ≤ (nx 12 r).1 then (nx 12 r).1 - 8 else (nx 12 r).1) (nx 12 r).2

theorem drawT_suf {rec : List UInt8 → Xp × List UInt8} (h : ∀ r, (rec r).2 <:+ r) (d k : Nat) (r : List UInt8) : (drawT rec d k r).2 <:+ r := by
  unfold drawT
  have n2 := nx_suf 2 r
  split; · exact nx_suf _ _
  split; · exact nx_suf _ _
  split; · exact List.suffix_refl _
  split; · exact nx_suf _ _
  split; · exact nx_suf _ _
  split; · exact (h _).trans n2
  split; · exact (h _).trans n2
  exact (h _).trans ((nx_suf 13 _).trans (h r))

theorem drawX_suf : ∀ (d : Nat) (r : List UInt8), (drawX d r).2 <:+ r
  | 0, r => List.suffix_refl _
  | d + 1, r => (drawT_suf (drawX_suf d) _ _ _).trans (nx_suf 12 r)

theorem dropAt {s r : List UInt8} (h : r <:+ s) : s.drop (atOf s r).toNat = r := by
  obtain ⟨t, rfl⟩ := h
  have : (atOf (t ++ r) r).toNat = t.length := by simp [atOf]
  rw [this]; simp
theorem at_ge {s r : List UInt8} (h : r <:+ s) : 0 ≤ atOf s r := by
  have := h.length_le
  unfold atOf; omega
theorem at_le {s r : List UInt8} : atOf s r ≤ s.length := by unfold atOf; omega

def dexprT (N : Nat) : FT
  | [.hp 0 0, .d (.int .i64 d)], [[.d (.sl 1 xs), .d (.int .i64 a)]] => .opt (unL unU8 xs) fun s => .br (decide (0 ≤ a ∧ a ≤ s.length ∧ (s.length : Int) ≤ 100000 ∧ 1 ≤ d ∧ d ≤ N)) (.leaf (.agg [.d (.int .i64 ((drawX d.toNat (s.drop a.toNat)).1).op), .d (.int .i64 ((drawX d.toNat (s.drop a.toNat)).1).value), .d (.str ((drawX d.toNat (s.drop a.toNat)).1).name), .d (.int .i64 ((drawX d.toNat (s.drop a.toNat)).1).slot), .d (.int .i64 ((drawX d.toNat (s.drop a.toNat)).1).size), .d (.sl 6 ((drawX d.toNat (s.drop a.toNat)).1).args)], [[.d (.sl 1 xs), .d (.int .i64 (atOf s (drawX d.toNat (s.drop a.toNat)).2))]])) .fail
  | _, _ => .fail

noncomputable abbrev Xe (N : Nat) : TX := ⟨Tryd.prog, tbl [(18, nextT), (21, dexprT N)], iso, gl, vw⟩

theorem xok_Xe (N : Nat) (h_dexpr : FnOK Tryd.prog gl 21 (dexprT N)) (f : Nat) : XOK (Xe N) (ann f) gl := XOK.of base (l := [(18, nextT), (21, dexprT N)]) ⟨ok_next, h_dexpr, trivial⟩ f

/-- (*rollbacknet/rollbacknetmake.Codes).Expr -/
def c_dexpr : CC := .seq (.region [
    ⟨.yes, (some 4), .alloc 56, false, false, []⟩] [0, 1, 4]) <|
  .seq (.region [
    ⟨.yes, (some 7), .move (.tmp 0), false, false, []⟩,
    ⟨.yes, (some 8), .call ⟨.value (.func 18), #[(.tmp 7), (.const (.int .i64 (12)))], #[24, 3]⟩, false, false, []⟩,
    ⟨.yes, (some 5), .assign (.tmp 8), true, false, []⟩] [0, 1, 4, 5]) <|
  .seq (.seq (.region [
    ⟨.yes, (some 9), .move (.tmp 1), false, false, []⟩,
    ⟨.yes, (some 10), .binOp .leq 3 (.tmp 9) (.const (.int .i64 (1))) 3, false, false, []⟩,
    ⟨.yes, (some 11), .move (.tmp 10), true, false, []⟩,
    ⟨(.on 11 true), (some 12), .move (.tmp 5), false, false, []⟩,
    ⟨(.on 11 true), (some 13), .binOp .geq 3 (.tmp 12) (.const (.int .i64 (8))) 3, false, false, []⟩,
    ⟨.yes, (some 14), .pick (.tmp 11) (.tmp 13) (.const (.bool false)), false, false, []⟩] [0, 1, 4, 5, 14]) <|
  .cond (.tmp 14)
    (.region [
      ⟨.yes, (some 15), .move (.tmp 5), true, false, []⟩,
      ⟨.yes, (some 16), .binOp .sub 3 (.tmp 15) (.const (.int .i64 (8))) 3, false, false, []⟩,
      ⟨.yes, (some 5), .assign (.tmp 16), true, false, []⟩] [0, 1, 4, 5])
    (.skip)) <|
  .seq (.block 0 <| .seq (.region [
    ⟨.yes, (some 18), .move (.tmp 5), false, false, []⟩,
    ⟨.yes, (some 19), .binOp .lss 3 (.tmp 18) (.const (.int .i64 (2))) 3, false, false, []⟩,
    ⟨.yes, (some 17), .assign (.tmp 19), true, false, []⟩] [0, 1, 4, 5, 17]) <|
  .cond (.tmp 17)
    (.seq (.region [
      ⟨.yes, (some 20), .move (.tmp 0), true, false, []⟩,
      ⟨.yes, (some 21), .call ⟨.value (.func 18), #[(.tmp 20), (.const (.int .i64 (5)))], #[24, 3]⟩, false, false, []⟩,
      ⟨.yes, (some 22), .build 56 #[(0, (.const (.int .i64 (1)))), (1, (.tmp 21))], true, false, [none, none, none, none, none, (some 6)]⟩,
      ⟨.yes, none, .store 56 (.tmp 4) (.tmp 22), true, false, []⟩] [4]) <|
    .ret)
    (.seq (.region [
      ⟨.yes, (some 24), .move (.tmp 5), false, false, []⟩,
      ⟨.yes, (some 25), .binOp .lss 3 (.tmp 24) (.const (.int .i64 (4))) 3, false, false, []⟩,
      ⟨.yes, (some 23), .assign (.tmp 25), true, false, []⟩] [0, 1, 4, 5, 23]) <|
    .cond (.tmp 23)
      (.seq (.region [
        ⟨.yes, (some 26), .move (.tmp 0), true, false, []⟩,
        ⟨.yes, (some 27), .call ⟨.value (.func 18), #[(.tmp 26), (.const (.int .i64 (3)))], #[24, 3]⟩, false, false, []⟩,
        ⟨.yes, (some 28), .indexAddr 76 (.global 0) (.tmp 27), false, false, []⟩,
        ⟨.yes, (some 29), .load 9 (.tmp 28), false, false, []⟩,
        ⟨.yes, (some 30), .build 56 #[(0, (.const (.int .i64 (2)))), (2, (.tmp 29))], true, false, [none, none, none, none, none, (some 6)]⟩,
        ⟨.yes, none, .store 56 (.tmp 4) (.tmp 30), true, false, []⟩] [4]) <|
      .ret)
      (.seq (.region [
        ⟨.yes, (some 32), .move (.tmp 5), false, false, []⟩,
        ⟨.yes, (some 33), .binOp .eql 3 (.tmp 32) (.const (.int .i64 (4))) 3, false, false, []⟩,
        ⟨.yes, (some 31), .assign (.tmp 33), true, false, []⟩] [0, 1, 4, 5, 31]) <|
      .cond (.tmp 31)
        (.seq (.region [
          ⟨.yes, (some 34), .build 56 #[(0, (.const (.int .i64 (7))))], false, false, [none, none, none, none, none, (some 6)]⟩,
          ⟨.yes, none, .store 56 (.tmp 4) (.tmp 34), true, false, []⟩] [4]) <|
        .ret)
        (.seq (.region [
          ⟨.yes, (some 36), .move (.tmp 5), false, false, []⟩,
          ⟨.yes, (some 37), .binOp .eql 3 (.tmp 36) (.const (.int .i64 (5))) 3, false, false, []⟩,
          ⟨.yes, (some 35), .assign (.tmp 37), true, false, []⟩] [0, 1, 4, 5, 35]) <|
        .cond (.tmp 35)
          (.seq (.region [
            ⟨.yes, (some 38), .buildSlice 33 3 #[(0, (.const (.int .i64 (4)))), (1, (.const (.int .i64 (5)))), (2, (.const (.int .i64 (6))))], false, false, [(some 1)]⟩,
            ⟨.yes, (some 39), .move (.tmp 0), true, false, []⟩,
            ⟨.yes, (some 40), .call ⟨.value (.func 18), #[(.tmp 39), (.const (.int .i64 (3)))], #[24, 3]⟩, false, false, []⟩,
            ⟨.yes, (some 41), .indexAddr 33 (.tmp 38) (.tmp 40), false, false, []⟩,
            ⟨.yes, (some 42), .load 3 (.tmp 41), false, false, []⟩,
            ⟨.yes, (some 43), .build 56 #[(0, (.tmp 42))], true, false, [none, none, none, none, none, (some 6)]⟩,
            ⟨.yes, none, .store 56 (.tmp 4) (.tmp 43), true, false, []⟩] [4]) <|
          .ret)
          (.seq (.region [
            ⟨.yes, (some 45), .move (.tmp 5), false, false, []⟩,
            ⟨.yes, (some 46), .binOp .eql 3 (.tmp 45) (.const (.int .i64 (6))) 3, false, false, []⟩,
            ⟨.yes, (some 47), .move (.tmp 46), true, false, []⟩,
            ⟨(.on 47 false), (some 48), .move (.tmp 1), false, false, []⟩,
            ⟨(.on 47 false), (some 49), .binOp .leq 3 (.tmp 48) (.const (.int .i64 (1))) 3, false, false, []⟩,
            ⟨.yes, (some 50), .pick (.tmp 47) (.const (.bool true)) (.tmp 49), false, false, []⟩,
            ⟨.yes, (some 44), .assign (.tmp 50), true, false, []⟩] [0, 1, 4, 5, 44]) <|
          .cond (.tmp 44)
            (.seq (.region [
              ⟨.yes, (some 51), .move (.tmp 0), true, false, []⟩,
              ⟨.yes, (some 52), .call ⟨.value (.func 18), #[(.tmp 51), (.const (.int .i64 (200)))], #[24, 3]⟩, false, false, []⟩,
              ⟨.yes, (some 53), .binOp .add 3 (.const (.int .i64 (1))) (.tmp 52) 3, false, false, []⟩,
              ⟨.yes, (some 54), .build 56 #[(0, (.const (.int .i64 (1)))), (1, (.tmp 53))], true, false, [none, none, none, none, none, (some 6)]⟩,
              ⟨.yes, none, .store 56 (.tmp 4) (.tmp 54), true, false, []⟩] [4]) <|
            .ret)
            (.seq (.region [
              ⟨.yes, (some 56), .move (.tmp 5), false, false, []⟩,
              ⟨.yes, (some 57), .binOp .eql 3 (.tmp 56) (.const (.int .i64 (7))) 3, false, false, []⟩,
              ⟨.yes, (some 55), .assign (.tmp 57), true, false, []⟩] [0, 1, 4, 5, 55]) <|
            .cond (.tmp 55)
              (.seq (.drawn ⟨[5, 9, 10], [], [4]⟩ [
                ⟨(some 58), .move (.tmp 0), 24, "make.go:86", #[], none⟩,
                ⟨(some 59), .call ⟨.value (.func 18), #[(.tmp 58), (.const (.int .i64 (2)))], #[24, 3]⟩, 3, "make.go:86", #[⟨0, .data⟩], none⟩,
                ⟨(some 60), .indexAddr 77 (.global 1) (.tmp 59), 0, "make.go:86", #[⟨1, .data⟩], none⟩,
                ⟨(some 61), .load 9 (.tmp 60), 9, "make.go:86", #[⟨2, .data⟩], none⟩,
                ⟨(some 62), .move (.tmp 0), 24, "make.go:86", #[], none⟩,
                ⟨(some 63), .move (.tmp 1), 3, "make.go:86", #[], none⟩,
                ⟨(some 64), .binOp .sub 3 (.tmp 63) (.const (.int .i64 (1))) 3, 3, "make.go:86", #[⟨5, .data⟩], none⟩,
                ⟨(some 65), .call ⟨.value (.func 21), #[(.tmp 62), (.tmp 64)], #[24, 3]⟩, 56, "make.go:86", #[⟨4, .data⟩, ⟨6, .data⟩, ⟨1, .chain⟩], none⟩,
                ⟨(some 66), .buildSlice 54 1 #[(0, (.tmp 65))], 54, "make.go:86", #[⟨7, .data⟩], none⟩,
                ⟨(some 67), .build 56 #[(0, (.const (.int .i64 (3)))), (2, (.tmp 61)), (5, (.tmp 66))], 56, "make.go:86", #[⟨3, .data⟩, ⟨8, .data⟩], none⟩,
                ⟨none, .store 56 (.tmp 4) (.tmp 67), 0, "make.go:86", #[⟨9, .data⟩, ⟨7, .chain⟩, ⟨0, .phase⟩, ⟨1, .phase⟩, ⟨2, .phase⟩, ⟨3, .phase⟩, ⟨4, .phase⟩, ⟨5, .phase⟩, ⟨6, .phase⟩, ⟨7, .phase⟩, ⟨8, .phase⟩, ⟨9, .phase⟩], none⟩]) <|
              .ret)
              (.seq (.region [
                ⟨.yes, (some 69), .move (.tmp 5), true, false, []⟩,
                ⟨.yes, (some 70), .binOp .eql 3 (.tmp 69) (.const (.int .i64 (8))) 3, false, false, []⟩,
                ⟨.yes, (some 68), .assign (.tmp 70), true, false, []⟩] [0, 1, 4, 68]) <|
              .cond (.tmp 68)
                (.seq (.region [
                  ⟨.yes, (some 71), .move (.tmp 0), false, false, []⟩,
                  ⟨.yes, (some 72), .call ⟨.value (.func 18), #[(.tmp 71), (.const (.int .i64 (2)))], #[24, 3]⟩, false, false, []⟩,
                  ⟨.yes, (some 73), .binOp .add 3 (.const (.int .i64 (8))) (.tmp 72) 3, false, false, []⟩,
                  ⟨.yes, (some 74), .move (.tmp 0), true, false, []⟩,
                  ⟨.yes, (some 75), .move (.tmp 1), true, false, []⟩,
                  ⟨.yes, (some 76), .binOp .sub 3 (.tmp 75) (.const (.int .i64 (1))) 3, false, false, []⟩,
                  ⟨.yes, (some 77), .call ⟨.value (.func 21), #[(.tmp 74), (.tmp 76)], #[24, 3]⟩, false, false, [none, none, none, none, none, (some 6)]⟩,
                  ⟨.yes, (some 78), .buildSlice 54 1 #[(0, (.tmp 77))], false, false, [(some 6)]⟩,
                  ⟨.yes, (some 79), .build 56 #[(0, (.tmp 73)), (5, (.tmp 78))], true, false, [none, none, none, none, none, (some 6)]⟩,
                  ⟨.yes, none, .store 56 (.tmp 4) (.tmp 79), true, false, []⟩] [4]) <|
                .ret)
                (.skip)))))))) <|
  .seq (.region [
    ⟨.yes, (some 80), .move (.tmp 0), false, false, []⟩,
    ⟨.yes, (some 81), .move (.tmp 1), false, false, []⟩,
    ⟨.yes, (some 82), .binOp .sub 3 (.tmp 81) (.const (.int .i64 (1))) 3, false, false, []⟩,
    ⟨.yes, (some 83), .call ⟨.value (.func 21), #[(.tmp 80), (.tmp 82)], #[24, 3]⟩, false, false, [none, none, none, none, none, (some 6)]⟩,
    ⟨.yes, (some 6), .alloc 56, false, false, []⟩,
    ⟨.yes, none, .store 56 (.tmp 6) (.tmp 83), true, false, []⟩] [0, 1, 4, 6]) <|
  .seq (.drawn ⟨[5, 9, 10], [], [4]⟩ [
    ⟨(some 84), .move (.tmp 0), 24, "make.go:91", #[], none⟩,
    ⟨(some 85), .call ⟨.value (.func 18), #[(.tmp 84), (.const (.int .i64 (13)))], #[24, 3]⟩, 3, "make.go:91", #[⟨0, .data⟩], none⟩,
    ⟨(some 86), .binOp .add 3 (.const (.int .i64 (10))) (.tmp 85) 3, 3, "make.go:91", #[⟨1, .data⟩], none⟩,
    ⟨(some 87), .load 56 (.tmp 6), 56, "make.go:91", #[], none⟩,
    ⟨(some 88), .move (.tmp 0), 24, "make.go:91", #[], none⟩,
    ⟨(some 89), .move (.tmp 1), 3, "make.go:91", #[], none⟩,
    ⟨(some 90), .binOp .sub 3 (.tmp 89) (.const (.int .i64 (1))) 3, 3, "make.go:91", #[⟨5, .data⟩], none⟩,
    ⟨(some 91), .call ⟨.value (.func 21), #[(.tmp 88), (.tmp 90)], #[24, 3]⟩, 56, "make.go:91", #[⟨4, .data⟩, ⟨6, .data⟩, ⟨1, .chain⟩], none⟩,
    ⟨(some 92), .buildSlice 54 2 #[(0, (.tmp 87)), (1, (.tmp 91))], 54, "make.go:91", #[⟨3, .data⟩, ⟨7, .data⟩], none⟩,
    ⟨(some 93), .build 56 #[(0, (.tmp 86)), (5, (.tmp 92))], 56, "make.go:91", #[⟨2, .data⟩, ⟨8, .data⟩], none⟩,
    ⟨none, .store 56 (.tmp 4) (.tmp 93), 0, "make.go:91", #[⟨9, .data⟩, ⟨7, .chain⟩, ⟨0, .phase⟩, ⟨1, .phase⟩, ⟨2, .phase⟩, ⟨3, .phase⟩, ⟨4, .phase⟩, ⟨5, .phase⟩, ⟨6, .phase⟩, ⟨7, .phase⟩, ⟨8, .phase⟩, ⟨9, .phase⟩], none⟩]) <|
  .ret

theorem c_dexpr_eq : ∃ c, Tryd.f21.body = some c ∧ codeOK Tryd.f21.ntmps c = true ∧ comp Tryd.prog (ann 21) c = erase c_dexpr := ⟨_, rfl, by kernel_rfl, by kernel_rfl⟩

theorem tree_dexpr (N : Nat) (xs : List DV) (d a : Int) : fnT (Xe N) c_dexpr Tryd.f21.results.toList [.hp 0 0, .d (.int .i64 d)] [[.d (.sl 1 xs), .d (.int .i64 a)]] = (
    .opt (unL unU8 xs) fun s1 => .br (decide (0 ≤ a ∧ a ≤ s1.length ∧ (s1.length : Int) ≤ 100000 ∧ 0 < (12 : Int) ∧ (12 : Int) ≤ 256))
    (.br (decide (d ≤ 1))
      (.br (decide ((8 : Int) ≤ ((nx (12 : Int).toNat (s1.drop a.toNat)).1 : Int)))
        (.br (decide ((IntKind.i64.wrap (((nx (12 : Int).toNat (s1.drop a.toNat)).1 : Int) - 8)) < 2))
          (.opt (unL unU8 xs) fun s2 => .br (decide (0 ≤ (atOf s1 (nx (12 : Int).toNat (s1.drop a.toNat)).2) ∧ (atOf s1 (nx (12 : Int).toNat (s1.drop a.toNat)).2) ≤ s2.length ∧ (s2.length : Int) ≤ 100000 ∧ 0 < (5 : Int) ∧ (5 : Int) ≤ 256))
            (.leaf ((.agg [(.d (.int .i64 1)), (.d (.int .i64 ((nx (5 : Int).toNat (s2.drop (atOf s1 (nx (12 : Int).toNat (s1.drop a.toNat)).2).toNat)).1 : Int))), (.d (.str [])), (.d (.int .i64 0)), (.d (.int .i64 0)), (.d (.sl 6 []))]), [[(.d (.sl 1 xs)), (.d (.int .i64 (atOf s2 (nx (5 : Int).toNat (s2.drop (atOf s1 (nx (12 : Int).toNat (s1.drop a.toNat)).2).toNat)).2)))]]))
            (.fail))
          (.br (decide ((IntKind.i64.wrap (((nx (12 : Int).toNat (s1.drop a.toNat)).1 : Int) - 8)) < 4))
            (.opt (unL unU8 xs) fun s3 => .br (decide (0 ≤ (atOf s1 (nx (12 : Int).toNat (s1.drop a.toNat)).2) ∧ (atOf s1 (nx (12 : Int).toNat (s1.drop a.toNat)).2) ≤ s3.length ∧ (s3.length : Int) ≤ 100000 ∧ 0 < (3 : Int) ∧ (3 : Int) ≤ 256))
              (.br (decide (((nx (3 : Int).toNat (s3.drop (atOf s1 (nx (12 : Int).toNat (s1.drop a.toNat)).2).toNat)).1 : Int) = ((0 : Nat) : Int)))
                (.leaf ((.agg [(.d (.int .i64 2)), (.d (.int .i64 0)), (.d (.str [120])), (.d (.int .i64 0)), (.d (.int .i64 0)), (.d (.sl 6 []))]), [[(.d (.sl 1 xs)), (.d (.int .i64 (atOf s3 (nx (3 : Int).toNat (s3.drop (atOf s1 (nx (12 : Int).toNat (s1.drop a.toNat)).2).toNat)).2)))]]))
                (.br (decide (((nx (3 : Int).toNat (s3.drop (atOf s1 (nx (12 : Int).toNat (s1.drop a.toNat)).2).toNat)).1 : Int) = ((1 : Nat) : Int)))
                  (.leaf ((.agg [(.d (.int .i64 2)), (.d (.int .i64 0)), (.d (.str [121])), (.d (.int .i64 0)), (.d (.int .i64 0)), (.d (.sl 6 []))]), [[(.d (.sl 1 xs)), (.d (.int .i64 (atOf s3 (nx (3 : Int).toNat (s3.drop (atOf s1 (nx (12 : Int).toNat (s1.drop a.toNat)).2).toNat)).2)))]]))
                  (.br (decide (((nx (3 : Int).toNat (s3.drop (atOf s1 (nx (12 : Int).toNat (s1.drop a.toNat)).2).toNat)).1 : Int) = ((2 : Nat) : Int)))
                    (.leaf ((.agg [(.d (.int .i64 2)), (.d (.int .i64 0)), (.d (.str [122])), (.d (.int .i64 0)), (.d (.int .i64 0)), (.d (.sl 6 []))]), [[(.d (.sl 1 xs)), (.d (.int .i64 (atOf s3 (nx (3 : Int).toNat (s3.drop (atOf s1 (nx (12 : Int).toNat (s1.drop a.toNat)).2).toNat)).2)))]]))
                    (.fail))))
              (.fail))
            (.br (decide ((IntKind.i64.wrap (((nx (12 : Int).toNat (s1.drop a.toNat)).1 : Int) - 8)) = 4))
              (.leaf ((.agg [(.d (.int .i64 7)), (.d (.int .i64 0)), (.d (.str [])), (.d (.int .i64 0)), (.d (.int .i64 0)), (.d (.sl 6 []))]), [[(.d (.sl 1 xs)), (.d (.int .i64 (atOf s1 (nx (12 : Int).toNat (s1.drop a.toNat)).2)))]]))
              (.br (decide ((IntKind.i64.wrap (((nx (12 : Int).toNat (s1.drop a.toNat)).1 : Int) - 8)) = 5))
                (.opt (unL unU8 xs) fun s4 => .br (decide (0 ≤ (atOf s1 (nx (12 : Int).toNat (s1.drop a.toNat)).2) ∧ (atOf s1 (nx (12 : Int).toNat (s1.drop a.toNat)).2) ≤ s4.length ∧ (s4.length : Int) ≤ 100000 ∧ 0 < (3 : Int) ∧ (3 : Int) ≤ 256))
                  (.br (decide ((0 : Int) ≤ ((nx (3 : Int).toNat (s4.drop (atOf s1 (nx (12 : Int).toNat (s1.drop a.toNat)).2).toNat)).1 : Int)))
                    (.opt ((([(.int .i64 4), (.int .i64 5), (.int .i64 6)] : List DV)[(Int.toNat ((nx (3 : Int).toNat (s4.drop (atOf s1 (nx (12 : Int).toNat (s1.drop a.toNat)).2).toNat)).1 : Int))]?).bind (unInt .i64)) fun y5 => .leaf ((.agg [(.d (.int .i64 y5)), (.d (.int .i64 0)), (.d (.str [])), (.d (.int .i64 0)), (.d (.int .i64 0)), (.d (.sl 6 []))]), [[(.d (.sl 1 xs)), (.d (.int .i64 (atOf s4 (nx (3 : Int).toNat (s4.drop (atOf s1 (nx (12 : Int).toNat (s1.drop a.toNat)).2).toNat)).2)))]]))
                    (.fail))
                  (.fail))
                (.br (decide ((IntKind.i64.wrap (((nx (12 : Int).toNat (s1.drop a.toNat)).1 : Int) - 8)) = 6))
                  (.opt (unL unU8 xs) fun s6 => .br (decide (0 ≤ (atOf s1 (nx (12 : Int).toNat (s1.drop a.toNat)).2) ∧ (atOf s1 (nx (12 : Int).toNat (s1.drop a.toNat)).2) ≤ s6.length ∧ (s6.length : Int) ≤ 100000 ∧ 0 < (200 : Int) ∧ (200 : Int) ≤ 256))
                    (.leaf ((.agg [(.d (.int .i64 1)), (.d (.int .i64 (IntKind.i64.wrap (1 + ((nx (200 : Int).toNat (s6.drop (atOf s1 (nx (12 : Int).toNat (s1.drop a.toNat)).2).toNat)).1 : Int))))), (.d (.str [])), (.d (.int .i64 0)), (.d (.int .i64 0)), (.d (.sl 6 []))]), [[(.d (.sl 1 xs)), (.d (.int .i64 (atOf s6 (nx (200 : Int).toNat (s6.drop (atOf s1 (nx (12 : Int).toNat (s1.drop a.toNat)).2).toNat)).2)))]]))
                    (.fail))
                  (.br (decide (d ≤ 1))
                    (.opt (unL unU8 xs) fun s7 => .br (decide (0 ≤ (atOf s1 (nx (12 : Int).toNat (s1.drop a.toNat)).2) ∧ (atOf s1 (nx (12 : Int).toNat (s1.drop a.toNat)).2) ≤ s7.length ∧ (s7.length : Int) ≤ 100000 ∧ 0 < (200 : Int) ∧ (200 : Int) ≤ 256))
                      (.leaf ((.agg [(.d (.int .i64 1)), (.d (.int .i64 (IntKind.i64.wrap (1 + ((nx (200 : Int).toNat (s7.drop (atOf s1 (nx (12 : Int).toNat (s1.drop a.toNat)).2).toNat)).1 : Int))))), (.d (.str [])), (.d (.int .i64 0)), (.d (.int .i64 0)), (.d (.sl 6 []))]), [[(.d (.sl 1 xs)), (.d (.int .i64 (atOf s7 (nx (200 : Int).toNat (s7.drop (atOf s1 (nx (12 : Int).toNat (s1.drop a.toNat)).2).toNat)).2)))]]))
                      (.fail))
                    (.br (decide ((IntKind.i64.wrap (((nx (12 : Int).toNat (s1.drop a.toNat)).1 : Int) - 8)) = 7))
                      (.opt (unL unU8 xs) fun s8 => .br (decide (0 ≤ (atOf s1 (nx (12 : Int).toNat (s1.drop a.toNat)).2) ∧ (atOf s1 (nx (12 : Int).toNat (s1.drop a.toNat)).2) ≤ s8.length ∧ (s8.length : Int) ≤ 100000 ∧ 0 < (2 : Int) ∧ (2 : Int) ≤ 256))
                        (.br (decide (((nx (2 : Int).toNat (s8.drop (atOf s1 (nx (12 : Int).toNat (s1.drop a.toNat)).2).toNat)).1 : Int) = ((0 : Nat) : Int)))
                          (.opt (unL unU8 xs) fun s9 => .br (decide (0 ≤ (atOf s8 (nx (2 : Int).toNat (s8.drop (atOf s1 (nx (12 : Int).toNat (s1.drop a.toNat)).2).toNat)).2) ∧ (atOf s8 (nx (2 : Int).toNat (s8.drop (atOf s1 (nx (12 : Int).toNat (s1.drop a.toNat)).2).toNat)).2) ≤ s9.length ∧ (s9.length : Int) ≤ 100000 ∧ 1 ≤ (IntKind.i64.wrap (d - 1)) ∧ (IntKind.i64.wrap (d - 1)) ≤ N))
                            (.leaf ((.agg [(.d (.int .i64 3)), (.d (.int .i64 0)), (.d (.str [97])), (.d (.int .i64 0)), (.d (.int .i64 0)), (.d (.sl 6 [(.agg [(.int .i64 (((drawX (IntKind.i64.wrap (d - 1)).toNat (s9.drop (atOf s8 (nx (2 : Int).toNat (s8.drop (atOf s1 (nx (12 : Int).toNat (s1.drop a.toNat)).2).toNat)).2).toNat)).1).op)), (.int .i64 (((drawX (IntKind.i64.wrap (d - 1)).toNat (s9.drop (atOf s8 (nx (2 : Int).toNat (s8.drop (atOf s1 (nx (12 : Int).toNat (s1.drop a.toNat)).2).toNat)).2).toNat)).1).value)), (.str (((drawX (IntKind.i64.wrap (d - 1)).toNat (s9.drop (atOf s8 (nx (2 : Int).toNat (s8.drop (atOf s1 (nx (12 : Int).toNat (s1.drop a.toNat)).2).toNat)).2).toNat)).1).name)), (.int .i64 (((drawX (IntKind.i64.wrap (d - 1)).toNat (s9.drop (atOf s8 (nx (2 : Int).toNat (s8.drop (atOf s1 (nx (12 : Int).toNat (s1.drop a.toNat)).2).toNat)).2).toNat)).1).slot)), (.int .i64 (((drawX (IntKind.i64.wrap (d - 1)).toNat (s9.drop (atOf s8 (nx (2 : Int).toNat (s8.drop (atOf s1 (nx (12 : Int).toNat (s1.drop a.toNat)).2).toNat)).2).toNat)).1).size)), (.sl 6 (((drawX (IntKind.i64.wrap (d - 1)).toNat (s9.drop (atOf s8 (nx (2 : Int).toNat (s8.drop (atOf s1 (nx (12 : Int).toNat (s1.drop a.toNat)).2).toNat)).2).toNat)).1).args))])]))]), [[(.d (.sl 1 xs)), (.d (.int .i64 (atOf s9 (drawX (IntKind.i64.wrap (d - 1)).toNat (s9.drop (atOf s8 (nx (2 : Int).toNat (s8.drop (atOf s1 (nx (12 : Int).toNat (s1.drop a.toNat)).2).toNat)).2).toNat)).2)))]]))
                            (.fail))
                          (.br (decide (((nx (2 : Int).toNat (s8.drop (atOf s1 (nx (12 : Int).toNat (s1.drop a.toNat)).2).toNat)).1 : Int) = ((1 : Nat) : Int)))
                            (.opt (unL unU8 xs) fun s10 => .br (decide (0 ≤ (atOf s8 (nx (2 : Int).toNat (s8.drop (atOf s1 (nx (12 : Int).toNat (s1.drop a.toNat)).2).toNat)).2) ∧ (atOf s8 (nx (2 : Int).toNat (s8.drop (atOf s1 (nx (12 : Int).toNat (s1.drop a.toNat)).2).toNat)).2) ≤ s10.length ∧ (s10.length : Int) ≤ 100000 ∧ 1 ≤ (IntKind.i64.wrap (d - 1)) ∧ (IntKind.i64.wrap (d - 1)) ≤ N))
                              (.leaf ((.agg [(.d (.int .i64 3)), (.d (.int .i64 0)), (.d (.str [98])), (.d (.int .i64 0)), (.d (.int .i64 0)), (.d (.sl 6 [(.agg [(.int .i64 (((drawX (IntKind.i64.wrap (d - 1)).toNat (s10.drop (atOf s8 (nx (2 : Int).toNat (s8.drop (atOf s1 (nx (12 : Int).toNat (s1.drop a.toNat)).2).toNat)).2).toNat)).1).op)), (.int .i64 (((drawX (IntKind.i64.wrap (d - 1)).toNat (s10.drop (atOf s8 (nx (2 : Int).toNat (s8.drop (atOf s1 (nx (12 : Int).toNat (s1.drop a.toNat)).2).toNat)).2).toNat)).1).value)), (.str (((drawX (IntKind.i64.wrap (d - 1)).toNat (s10.drop (atOf s8 (nx (2 : Int).toNat (s8.drop (atOf s1 (nx (12 : Int).toNat (s1.drop a.toNat)).2).toNat)).2).toNat)).1).name)), (.int .i64 (((drawX (IntKind.i64.wrap (d - 1)).toNat (s10.drop (atOf s8 (nx (2 : Int).toNat (s8.drop (atOf s1 (nx (12 : Int).toNat (s1.drop a.toNat)).2).toNat)).2).toNat)).1).slot)), (.int .i64 (((drawX (IntKind.i64.wrap (d - 1)).toNat (s10.drop (atOf s8 (nx (2 : Int).toNat (s8.drop (atOf s1 (nx (12 : Int).toNat (s1.drop a.toNat)).2).toNat)).2).toNat)).1).size)), (.sl 6 (((drawX (IntKind.i64.wrap (d - 1)).toNat (s10.drop (atOf s8 (nx (2 : Int).toNat (s8.drop (atOf s1 (nx (12 : Int).toNat (s1.drop a.toNat)).2).toNat)).2).toNat)).1).args))])]))]), [[(.d (.sl 1 xs)), (.d (.int .i64 (atOf s10 (drawX (IntKind.i64.wrap (d - 1)).toNat (s10.drop (atOf s8 (nx (2 : Int).toNat (s8.drop (atOf s1 (nx (12 : Int).toNat (s1.drop a.toNat)).2).toNat)).2).toNat)).2)))]]))
                              (.fail))
                            (.fail)))
                        (.fail))
                      (.br (decide ((IntKind.i64.wrap (((nx (12 : Int).toNat (s1.drop a.toNat)).1 : Int) - 8)) = 8))
                        (.opt (unL unU8 xs) fun s11 => .br (decide (0 ≤ (atOf s1 (nx (12 : Int).toNat (s1.drop a.toNat)).2) ∧ (atOf s1 (nx (12 : Int).toNat (s1.drop a.toNat)).2) ≤ s11.length ∧ (s11.length : Int) ≤ 100000 ∧ 0 < (2 : Int) ∧ (2 : Int) ≤ 256))
                          (.opt (unL unU8 xs) fun s12 => .br (decide (0 ≤ (atOf s11 (nx (2 : Int).toNat (s11.drop (atOf s1 (nx (12 : Int).toNat (s1.drop a.toNat)).2).toNat)).2) ∧ (atOf s11 (nx (2 : Int).toNat (s11.drop (atOf s1 (nx (12 : Int).toNat (s1.drop a.toNat)).2).toNat)).2) ≤ s12.length ∧ (s12.length : Int) ≤ 100000 ∧ 1 ≤ (IntKind.i64.wrap (d - 1)) ∧ (IntKind.i64.wrap (d - 1)) ≤ N))
                            (.leaf ((.agg [(.d (.int .i64 (IntKind.i64.wrap (8 + ((nx (2 : Int).toNat (s11.drop (atOf s1 (nx (12 : Int).toNat (s1.drop a.toNat)).2).toNat)).1 : Int))))), (.d (.int .i64 0)), (.d (.str [])), (.d (.int .i64 0)), (.d (.int .i64 0)), (.d (.sl 6 [(.agg [(.int .i64 (((drawX (IntKind.i64.wrap (d - 1)).toNat (s12.drop (atOf s11 (nx (2 : Int).toNat (s11.drop (atOf s1 (nx (12 : Int).toNat (s1.drop a.toNat)).2).toNat)).2).toNat)).1).op)), (.int .i64 (((drawX (IntKind.i64.wrap (d - 1)).toNat (s12.drop (atOf s11 (nx (2 : Int).toNat (s11.drop (atOf s1 (nx (12 : Int).toNat (s1.drop a.toNat)).2).toNat)).2).toNat)).1).value)), (.str (((drawX (IntKind.i64.wrap (d - 1)).toNat (s12.drop (atOf s11 (nx (2 : Int).toNat (s11.drop (atOf s1 (nx (12 : Int).toNat (s1.drop a.toNat)).2).toNat)).2).toNat)).1).name)), (.int .i64 (((drawX (IntKind.i64.wrap (d - 1)).toNat (s12.drop (atOf s11 (nx (2 : Int).toNat (s11.drop (atOf s1 (nx (12 : Int).toNat (s1.drop a.toNat)).2).toNat)).2).toNat)).1).slot)), (.int .i64 (((drawX (IntKind.i64.wrap (d - 1)).toNat (s12.drop (atOf s11 (nx (2 : Int).toNat (s11.drop (atOf s1 (nx (12 : Int).toNat (s1.drop a.toNat)).2).toNat)).2).toNat)).1).size)), (.sl 6 (((drawX (IntKind.i64.wrap (d - 1)).toNat (s12.drop (atOf s11 (nx (2 : Int).toNat (s11.drop (atOf s1 (nx (12 : Int).toNat (s1.drop a.toNat)).2).toNat)).2).toNat)).1).args))])]))]), [[(.d (.sl 1 xs)), (.d (.int .i64 (atOf s12 (drawX (IntKind.i64.wrap (d - 1)).toNat (s12.drop (atOf s11 (nx (2 : Int).toNat (s11.drop (atOf s1 (nx (12 : Int).toNat (s1.drop a.toNat)).2).toNat)).2).toNat)).2)))]]))
                            (.fail))
                          (.fail))
                        (.opt (unL unU8 xs) fun s13 => .br (decide (0 ≤ (atOf s1 (nx (12 : Int).toNat (s1.drop a.toNat)).2) ∧ (atOf s1 (nx (12 : Int).toNat (s1.drop a.toNat)).2) ≤ s13.length ∧ (s13.length : Int) ≤ 100000 ∧ 1 ≤ (IntKind.i64.wrap (d - 1)) ∧ (IntKind.i64.wrap (d - 1)) ≤ N))
                          (.opt (unL unU8 xs) fun s14 => .br (decide (0 ≤ (atOf s13 (drawX (IntKind.i64.wrap (d - 1)).toNat (s13.drop (atOf s1 (nx (12 : Int).toNat (s1.drop a.toNat)).2).toNat)).2) ∧ (atOf s13 (drawX (IntKind.i64.wrap (d - 1)).toNat (s13.drop (atOf s1 (nx (12 : Int).toNat (s1.drop a.toNat)).2).toNat)).2) ≤ s14.length ∧ (s14.length : Int) ≤ 100000 ∧ 0 < (13 : Int) ∧ (13 : Int) ≤ 256))
                            (.opt (unL unU8 xs) fun s15 => .br (decide (0 ≤ (atOf s14 (nx (13 : Int).toNat (s14.drop (atOf s13 (drawX (IntKind.i64.wrap (d - 1)).toNat (s13.drop (atOf s1 (nx (12 : Int).toNat (s1.drop a.toNat)).2).toNat)).2).toNat)).2) ∧ (atOf s14 (nx (13 : Int).toNat (s14.drop (atOf s13 (drawX (IntKind.i64.wrap (d - 1)).toNat (s13.drop (atOf s1 (nx (12 : Int).toNat (s1.drop a.toNat)).2).toNat)).2).toNat)).2) ≤ s15.length ∧ (s15.length : Int) ≤ 100000 ∧ 1 ≤ (IntKind.i64.wrap (d - 1)) ∧ (IntKind.i64.wrap (d - 1)) ≤ N))
                              (.leaf ((.agg [(.d (.int .i64 (IntKind.i64.wrap (10 + ((nx (13 : Int).toNat (s14.drop (atOf s13 (drawX (IntKind.i64.wrap (d - 1)).toNat (s13.drop (atOf s1 (nx (12 : Int).toNat (s1.drop a.toNat)).2).toNat)).2).toNat)).1 : Int))))), (.d (.int .i64 0)), (.d (.str [])), (.d (.int .i64 0)), (.d (.int .i64 0)), (.d (.sl 6 [(.agg [(.int .i64 (((drawX (IntKind.i64.wrap (d - 1)).toNat (s13.drop (atOf s1 (nx (12 : Int).toNat (s1.drop a.toNat)).2).toNat)).1).op)), (.int .i64 (((drawX (IntKind.i64.wrap (d - 1)).toNat (s13.drop (atOf s1 (nx (12 : Int).toNat (s1.drop a.toNat)).2).toNat)).1).value)), (.str (((drawX (IntKind.i64.wrap (d - 1)).toNat (s13.drop (atOf s1 (nx (12 : Int).toNat (s1.drop a.toNat)).2).toNat)).1).name)), (.int .i64 (((drawX (IntKind.i64.wrap (d - 1)).toNat (s13.drop (atOf s1 (nx (12 : Int).toNat (s1.drop a.toNat)).2).toNat)).1).slot)), (.int .i64 (((drawX (IntKind.i64.wrap (d - 1)).toNat (s13.drop (atOf s1 (nx (12 : Int).toNat (s1.drop a.toNat)).2).toNat)).1).size)), (.sl 6 (((drawX (IntKind.i64.wrap (d - 1)).toNat (s13.drop (atOf s1 (nx (12 : Int).toNat (s1.drop a.toNat)).2).toNat)).1).args))]), (.agg [(.int .i64 (((drawX (IntKind.i64.wrap (d - 1)).toNat (s15.drop (atOf s14 (nx (13 : Int).toNat (s14.drop (atOf s13 (drawX (IntKind.i64.wrap (d - 1)).toNat (s13.drop (atOf s1 (nx (12 : Int).toNat (s1.drop a.toNat)).2).toNat)).2).toNat)).2).toNat)).1).op)), (.int .i64 (((drawX (IntKind.i64.wrap (d - 1)).toNat (s15.drop (atOf s14 (nx (13 : Int).toNat (s14.drop (atOf s13 (drawX (IntKind.i64.wrap (d - 1)).toNat (s13.drop (atOf s1 (nx (12 : Int).toNat (s1.drop a.toNat)).2).toNat)).2).toNat)).2).toNat)).1).value)), (.str (((drawX (IntKind.i64.wrap (d - 1)).toNat (s15.drop (atOf s14 (nx (13 : Int).toNat (s14.drop (atOf s13 (drawX (IntKind.i64.wrap (d - 1)).toNat (s13.drop (atOf s1 (nx (12 : Int).toNat (s1.drop a.toNat)).2).toNat)).2).toNat)).2).toNat)).1).name)), (.int .i64 (((drawX (IntKind.i64.wrap (d - 1)).toNat (s15.drop (atOf s14 (nx (13 : Int).toNat (s14.drop (atOf s13 (drawX (IntKind.i64.wrap (d - 1)).toNat (s13.drop (atOf s1 (nx (12 : Int).toNat (s1.drop a.toNat)).2).toNat)).2).toNat)).2).toNat)).1).slot)), (.int .i64 (((drawX (IntKind.i64.wrap (d - 1)).toNat (s15.drop (atOf s14 (nx (13 : Int).toNat (s14.drop (atOf s13 (drawX (IntKind.i64.wrap (d - 1)).toNat (s13.drop (atOf s1 (nx (12 : Int).toNat (s1.drop a.toNat)).2).toNat)).2).toNat)).2).toNat)).1).size)), (.sl 6 (((drawX (IntKind.i64.wrap (d - 1)).toNat (s15.drop (atOf s14 (nx (13 : Int).toNat (s14.drop (atOf s13 (drawX (IntKind.i64.wrap (d - 1)).toNat (s13.drop (atOf s1 (nx (12 : Int).toNat (s1.drop a.toNat)).2).toNat)).2).toNat)).2).toNat)).1).args))])]))]), [[(.d (.sl 1 xs)), (.d (.int .i64 (atOf s15 (drawX (IntKind.i64.wrap (d - 1)).toNat (s15.drop (atOf s14 (nx (13 : Int).toNat (s14.drop (atOf s13 (drawX (IntKind.i64.wrap (d - 1)).toNat (s13.drop (atOf s1 (nx (12 : Int).toNat (s1.drop a.toNat)).2).toNat)).2).toNat)).2).toNat)).2)))]]))
                              (.fail))
                            (.fail))
                          (.fail))))))))))
        (.br (decide (((nx (12 : Int).toNat (s1.drop a.toNat)).1 : Int) < 2))
          (.opt (unL unU8 xs) fun s16 => .br (decide (0 ≤ (atOf s1 (nx (12 : Int).toNat (s1.drop a.toNat)).2) ∧ (atOf s1 (nx (12 : Int).toNat (s1.drop a.toNat)).2) ≤ s16.length ∧ (s16.length : Int) ≤ 100000 ∧ 0 < (5 : Int) ∧ (5 : Int) ≤ 256))
            (.leaf ((.agg [(.d (.int .i64 1)), (.d (.int .i64 ((nx (5 : Int).toNat (s16.drop (atOf s1 (nx (12 : Int).toNat (s1.drop a.toNat)).2).toNat)).1 : Int))), (.d (.str [])), (.d (.int .i64 0)), (.d (.int .i64 0)), (.d (.sl 6 []))]), [[(.d (.sl 1 xs)), (.d (.int .i64 (atOf s16 (nx (5 : Int).toNat (s16.drop (atOf s1 (nx (12 : Int).toNat (s1.drop a.toNat)).2).toNat)).2)))]]))
            (.fail))
          (.br (decide (((nx (12 : Int).toNat (s1.drop a.toNat)).1 : Int) < 4))
            (.opt (unL unU8 xs) fun s17 => .br (decide (0 ≤ (atOf s1 (nx (12 : Int).toNat (s1.drop a.toNat)).2) ∧ (atOf s1 (nx (12 : Int).toNat (s1.drop a.toNat)).2) ≤ s17.length ∧ (s17.length : Int) ≤ 100000 ∧ 0 < (3 : Int) ∧ (3 : Int) ≤ 256))
              (.br (decide (((nx (3 : Int).toNat (s17.drop (atOf s1 (nx (12 : Int).toNat (s1.drop a.toNat)).2).toNat)).1 : Int) = ((0 : Nat) : Int)))
                (.leaf ((.agg [(.d (.int .i64 2)), (.d (.int .i64 0)), (.d (.str [120])), (.d (.int .i64 0)), (.d (.int .i64 0)), (.d (.sl 6 []))]), [[(.d (.sl 1 xs)), (.d (.int .i64 (atOf s17 (nx (3 : Int).toNat (s17.drop (atOf s1 (nx (12 : Int).toNat (s1.drop a.toNat)).2).toNat)).2)))]]))
                (.br (decide (((nx (3 : Int).toNat (s17.drop (atOf s1 (nx (12 : Int).toNat (s1.drop a.toNat)).2).toNat)).1 : Int) = ((1 : Nat) : Int)))
                  (.leaf ((.agg [(.d (.int .i64 2)), (.d (.int .i64 0)), (.d (.str [121])), (.d (.int .i64 0)), (.d (.int .i64 0)), (.d (.sl 6 []))]), [[(.d (.sl 1 xs)), (.d (.int .i64 (atOf s17 (nx (3 : Int).toNat (s17.drop (atOf s1 (nx (12 : Int).toNat (s1.drop a.toNat)).2).toNat)).2)))]]))
                  (.br (decide (((nx (3 : Int).toNat (s17.drop (atOf s1 (nx (12 : Int).toNat (s1.drop a.toNat)).2).toNat)).1 : Int) = ((2 : Nat) : Int)))
                    (.leaf ((.agg [(.d (.int .i64 2)), (.d (.int .i64 0)), (.d (.str [122])), (.d (.int .i64 0)), (.d (.int .i64 0)), (.d (.sl 6 []))]), [[(.d (.sl 1 xs)), (.d (.int .i64 (atOf s17 (nx (3 : Int).toNat (s17.drop (atOf s1 (nx (12 : Int).toNat (s1.drop a.toNat)).2).toNat)).2)))]]))
                    (.fail))))
              (.fail))
            (.br (decide (((nx (12 : Int).toNat (s1.drop a.toNat)).1 : Int) = 4))
              (.leaf ((.agg [(.d (.int .i64 7)), (.d (.int .i64 0)), (.d (.str [])), (.d (.int .i64 0)), (.d (.int .i64 0)), (.d (.sl 6 []))]), [[(.d (.sl 1 xs)), (.d (.int .i64 (atOf s1 (nx (12 : Int).toNat (s1.drop a.toNat)).2)))]]))
              (.br (decide (((nx (12 : Int).toNat (s1.drop a.toNat)).1 : Int) = 5))
                (.opt (unL unU8 xs) fun s18 => .br (decide (0 ≤ (atOf s1 (nx (12 : Int).toNat (s1.drop a.toNat)).2) ∧ (atOf s1 (nx (12 : Int).toNat (s1.drop a.toNat)).2) ≤ s18.length ∧ (s18.length : Int) ≤ 100000 ∧ 0 < (3 : Int) ∧ (3 : Int) ≤ 256))
                  (.br (decide ((0 : Int) ≤ ((nx (3 : Int).toNat (s18.drop (atOf s1 (nx (12 : Int).toNat (s1.drop a.toNat)).2).toNat)).1 : Int)))
                    (.opt ((([(.int .i64 4), (.int .i64 5), (.int .i64 6)] : List DV)[(Int.toNat ((nx (3 : Int).toNat (s18.drop (atOf s1 (nx (12 : Int).toNat (s1.drop a.toNat)).2).toNat)).1 : Int))]?).bind (unInt .i64)) fun y19 => .leaf ((.agg [(.d (.int .i64 y19)), (.d (.int .i64 0)), (.d (.str [])), (.d (.int .i64 0)), (.d (.int .i64 0)), (.d (.sl 6 []))]), [[(.d (.sl 1 xs)), (.d (.int .i64 (atOf s18 (nx (3 : Int).toNat (s18.drop (atOf s1 (nx (12 : Int).toNat (s1.drop a.toNat)).2).toNat)).2)))]]))
                    (.fail))
                  (.fail))
                (.br (decide (((nx (12 : Int).toNat (s1.drop a.toNat)).1 : Int) = 6))
                  (.opt (unL unU8 xs) fun s20 => .br (decide (0 ≤ (atOf s1 (nx (12 : Int).toNat (s1.drop a.toNat)).2) ∧ (atOf s1 (nx (12 : Int).toNat (s1.drop a.toNat)).2) ≤ s20.length ∧ (s20.length : Int) ≤ 100000 ∧ 0 < (200 : Int) ∧ (200 : Int) ≤ 256))
                    (.leaf ((.agg [(.d (.int .i64 1)), (.d (.int .i64 (IntKind.i64.wrap (1 + ((nx (200 : Int).toNat (s20.drop (atOf s1 (nx (12 : Int).toNat (s1.drop a.toNat)).2).toNat)).1 : Int))))), (.d (.str [])), (.d (.int .i64 0)), (.d (.int .i64 0)), (.d (.sl 6 []))]), [[(.d (.sl 1 xs)), (.d (.int .i64 (atOf s20 (nx (200 : Int).toNat (s20.drop (atOf s1 (nx (12 : Int).toNat (s1.drop a.toNat)).2).toNat)).2)))]]))
                    (.fail))
                  (.br (decide (d ≤ 1))
                    (.opt (unL unU8 xs) fun s21 => .br (decide (0 ≤ (atOf s1 (nx (12 : Int).toNat (s1.drop a.toNat)).2) ∧ (atOf s1 (nx (12 : Int).toNat (s1.drop a.toNat)).2) ≤ s21.length ∧ (s21.length : Int) ≤ 100000 ∧ 0 < (200 : Int) ∧ (200 : Int) ≤ 256))
                      (.leaf ((.agg [(.d (.int .i64 1)), (.d (.int .i64 (IntKind.i64.wrap (1 + ((nx (200 : Int).toNat (s21.drop (atOf s1 (nx (12 : Int).toNat (s1.drop a.toNat)).2).toNat)).1 : Int))))), (.d (.str [])), (.d (.int .i64 0)), (.d (.int .i64 0)), (.d (.sl 6 []))]), [[(.d (.sl 1 xs)), (.d (.int .i64 (atOf s21 (nx (200 : Int).toNat (s21.drop (atOf s1 (nx (12 : Int).toNat (s1.drop a.toNat)).2).toNat)).2)))]]))
                      (.fail))
                    (.br (decide (((nx (12 : Int).toNat (s1.drop a.toNat)).1 : Int) = 7))
                      (.opt (unL unU8 xs) fun s22 => .br (decide (0 ≤ (atOf s1 (nx (12 : Int).toNat (s1.drop a.toNat)).2) ∧ (atOf s1 (nx (12 : Int).toNat (s1.drop a.toNat)).2) ≤ s22.length ∧ (s22.length : Int) ≤ 100000 ∧ 0 < (2 : Int) ∧ (2 : Int) ≤ 256))
                        (.br (decide (((nx (2 : Int).toNat (s22.drop (atOf s1 (nx (12 : Int).toNat (s1.drop a.toNat)).2).toNat)).1 : Int) = ((0 : Nat) : Int)))
                          (.opt (unL unU8 xs) fun s23 => .br (decide (0 ≤ (atOf s22 (nx (2 : Int).toNat (s22.drop (atOf s1 (nx (12 : Int).toNat (s1.drop a.toNat)).2).toNat)).2) ∧ (atOf s22 (nx (2 : Int).toNat (s22.drop (atOf s1 (nx (12 : Int).toNat (s1.drop a.toNat)).2).toNat)).2) ≤ s23.length ∧ (s23.length : Int) ≤ 100000 ∧ 1 ≤ (IntKind.i64.wrap (d - 1)) ∧ (IntKind.i64.wrap (d - 1)) ≤ N))
                            (.leaf ((.agg [(.d (.int .i64 3)), (.d (.int .i64 0)), (.d (.str [97])), (.d (.int .i64 0)), (.d (.int .i64 0)), (.d (.sl 6 [(.agg [(.int .i64 (((drawX (IntKind.i64.wrap (d - 1)).toNat (s23.drop (atOf s22 (nx (2 : Int).toNat (s22.drop (atOf s1 (nx (12 : Int).toNat (s1.drop a.toNat)).2).toNat)).2).toNat)).1).op)), (.int .i64 (((drawX (IntKind.i64.wrap (d - 1)).toNat (s23.drop (atOf s22 (nx (2 : Int).toNat (s22.drop (atOf s1 (nx (12 : Int).toNat (s1.drop a.toNat)).2).toNat)).2).toNat)).1).value)), (.str (((drawX (IntKind.i64.wrap (d - 1)).toNat (s23.drop (atOf s22 (nx (2 : Int).toNat (s22.drop (atOf s1 (nx (12 : Int).toNat (s1.drop a.toNat)).2).toNat)).2).toNat)).1).name)), (.int .i64 (((drawX (IntKind.i64.wrap (d - 1)).toNat (s23.drop (atOf s22 (nx (2 : Int).toNat (s22.drop (atOf s1 (nx (12 : Int).toNat (s1.drop a.toNat)).2).toNat)).2).toNat)).1).slot)), (.int .i64 (((drawX (IntKind.i64.wrap (d - 1)).toNat (s23.drop (atOf s22 (nx (2 : Int).toNat (s22.drop (atOf s1 (nx (12 : Int).toNat (s1.drop a.toNat)).2).toNat)).2).toNat)).1).size)), (.sl 6 (((drawX (IntKind.i64.wrap (d - 1)).toNat (s23.drop (atOf s22 (nx (2 : Int).toNat (s22.drop (atOf s1 (nx (12 : Int).toNat (s1.drop a.toNat)).2).toNat)).2).toNat)).1).args))])]))]), [[(.d (.sl 1 xs)), (.d (.int .i64 (atOf s23 (drawX (IntKind.i64.wrap (d - 1)).toNat (s23.drop (atOf s22 (nx (2 : Int).toNat (s22.drop (atOf s1 (nx (12 : Int).toNat (s1.drop a.toNat)).2).toNat)).2).toNat)).2)))]]))
                            (.fail))
                          (.br (decide (((nx (2 : Int).toNat (s22.drop (atOf s1 (nx (12 : Int).toNat (s1.drop a.toNat)).2).toNat)).1 : Int) = ((1 : Nat) : Int)))
                            (.opt (unL unU8 xs) fun s24 => .br (decide (0 ≤ (atOf s22 (nx (2 : Int).toNat (s22.drop (atOf s1 (nx (12 : Int).toNat (s1.drop a.toNat)).2).toNat)).2) ∧ (atOf s22 (nx (2 : Int).toNat (s22.drop (atOf s1 (nx (12 : Int).toNat (s1.drop a.toNat)).2).toNat)).2) ≤ s24.length ∧ (s24.length : Int) ≤ 100000 ∧ 1 ≤ (IntKind.i64.wrap (d - 1)) ∧ (IntKind.i64.wrap (d - 1)) ≤ N))
                              (.leaf ((.agg [(.d (.int .i64 3)), (.d (.int .i64 0)), (.d (.str [98])), (.d (.int .i64 0)), (.d (.int .i64 0)), (.d (.sl 6 [(.agg [(.int .i64 (((drawX (IntKind.i64.wrap (d - 1)).toNat (s24.drop (atOf s22 (nx (2 : Int).toNat (s22.drop (atOf s1 (nx (12 : Int).toNat (s1.drop a.toNat)).2).toNat)).2).toNat)).1).op)), (.int .i64 (((drawX (IntKind.i64.wrap (d - 1)).toNat (s24.drop (atOf s22 (nx (2 : Int).toNat (s22.drop (atOf s1 (nx (12 : Int).toNat (s1.drop a.toNat)).2).toNat)).2).toNat)).1).value)), (.str (((drawX (IntKind.i64.wrap (d - 1)).toNat (s24.drop (atOf s22 (nx (2 : Int).toNat (s22.drop (atOf s1 (nx (12 : Int).toNat (s1.drop a.toNat)).2).toNat)).2).toNat)).1).name)), (.int .i64 (((drawX (IntKind.i64.wrap (d - 1)).toNat (s24.drop (atOf s22 (nx (2 : Int).toNat (s22.drop (atOf s1 (nx (12 : Int).toNat (s1.drop a.toNat)).2).toNat)).2).toNat)).1).slot)), (.int .i64 (((drawX (IntKind.i64.wrap (d - 1)).toNat (s24.drop (atOf s22 (nx (2 : Int).toNat (s22.drop (atOf s1 (nx (12 : Int).toNat (s1.drop a.toNat)).2).toNat)).2).toNat)).1).size)), (.sl 6 (((drawX (IntKind.i64.wrap (d - 1)).toNat (s24.drop (atOf s22 (nx (2 : Int).toNat (s22.drop (atOf s1 (nx (12 : Int).toNat (s1.drop a.toNat)).2).toNat)).2).toNat)).1).args))])]))]), [[(.d (.sl 1 xs)), (.d (.int .i64 (atOf s24 (drawX (IntKind.i64.wrap (d - 1)).toNat (s24.drop (atOf s22 (nx (2 : Int).toNat (s22.drop (atOf s1 (nx (12 : Int).toNat (s1.drop a.toNat)).2).toNat)).2).toNat)).2)))]]))
                              (.fail))
                            (.fail)))
                        (.fail))
                      (.br (decide (((nx (12 : Int).toNat (s1.drop a.toNat)).1 : Int) = 8))
                        (.opt (unL unU8 xs) fun s25 => .br (decide (0 ≤ (atOf s1 (nx (12 : Int).toNat (s1.drop a.toNat)).2) ∧ (atOf s1 (nx (12 : Int).toNat (s1.drop a.toNat)).2) ≤ s25.length ∧ (s25.length : Int) ≤ 100000 ∧ 0 < (2 : Int) ∧ (2 : Int) ≤ 256))
                          (.opt (unL unU8 xs) fun s26 => .br (decide (0 ≤ (atOf s25 (nx (2 : Int).toNat (s25.drop (atOf s1 (nx (12 : Int).toNat (s1.drop a.toNat)).2).toNat)).2) ∧ (atOf s25 (nx (2 : Int).toNat (s25.drop (atOf s1 (nx (12 : Int).toNat (s1.drop a.toNat)).2).toNat)).2) ≤ s26.length ∧ (s26.length : Int) ≤ 100000 ∧ 1 ≤ (IntKind.i64.wrap (d - 1)) ∧ (IntKind.i64.wrap (d - 1)) ≤ N))
                            (.leaf ((.agg [(.d (.int .i64 (IntKind.i64.wrap (8 + ((nx (2 : Int).toNat (s25.drop (atOf s1 (nx (12 : Int).toNat (s1.drop a.toNat)).2).toNat)).1 : Int))))), (.d (.int .i64 0)), (.d (.str [])), (.d (.int .i64 0)), (.d (.int .i64 0)), (.d (.sl 6 [(.agg [(.int .i64 (((drawX (IntKind.i64.wrap (d - 1)).toNat (s26.drop (atOf s25 (nx (2 : Int).toNat (s25.drop (atOf s1 (nx (12 : Int).toNat (s1.drop a.toNat)).2).toNat)).2).toNat)).1).op)), (.int .i64 (((drawX (IntKind.i64.wrap (d - 1)).toNat (s26.drop (atOf s25 (nx (2 : Int).toNat (s25.drop (atOf s1 (nx (12 : Int).toNat (s1.drop a.toNat)).2).toNat)).2).toNat)).1).value)), (.str (((drawX (IntKind.i64.wrap (d - 1)).toNat (s26.drop (atOf s25 (nx (2 : Int).toNat (s25.drop (atOf s1 (nx (12 : Int).toNat (s1.drop a.toNat)).2).toNat)).2).toNat)).1).name)), (.int .i64 (((drawX (IntKind.i64.wrap (d - 1)).toNat (s26.drop (atOf s25 (nx (2 : Int).toNat (s25.drop (atOf s1 (nx (12 : Int).toNat (s1.drop a.toNat)).2).toNat)).2).toNat)).1).slot)), (.int .i64 (((drawX (IntKind.i64.wrap (d - 1)).toNat (s26.drop (atOf s25 (nx (2 : Int).toNat (s25.drop (atOf s1 (nx (12 : Int).toNat (s1.drop a.toNat)).2).toNat)).2).toNat)).1).size)), (.sl 6 (((drawX (IntKind.i64.wrap (d - 1)).toNat (s26.drop (atOf s25 (nx (2 : Int).toNat (s25.drop (atOf s1 (nx (12 : Int).toNat (s1.drop a.toNat)).2).toNat)).2).toNat)).1).args))])]))]), [[(.d (.sl 1 xs)), (.d (.int .i64 (atOf s26 (drawX (IntKind.i64.wrap (d - 1)).toNat (s26.drop (atOf s25 (nx (2 : Int).toNat (s25.drop (atOf s1 (nx (12 : Int).toNat (s1.drop a.toNat)).2).toNat)).2).toNat)).2)))]]))
                            (.fail))
                          (.fail))
                        (.opt (unL unU8 xs) fun s27 => .br (decide (0 ≤ (atOf s1 (nx (12 : Int).toNat (s1.drop a.toNat)).2) ∧ (atOf s1 (nx (12 : Int).toNat (s1.drop a.toNat)).2) ≤ s27.length ∧ (s27.length : Int) ≤ 100000 ∧ 1 ≤ (IntKind.i64.wrap (d - 1)) ∧ (IntKind.i64.wrap (d - 1)) ≤ N))
                          (.opt (unL unU8 xs) fun s28 => .br (decide (0 ≤ (atOf s27 (drawX (IntKind.i64.wrap (d - 1)).toNat (s27.drop (atOf s1 (nx (12 : Int).toNat (s1.drop a.toNat)).2).toNat)).2) ∧ (atOf s27 (drawX (IntKind.i64.wrap (d - 1)).toNat (s27.drop (atOf s1 (nx (12 : Int).toNat (s1.drop a.toNat)).2).toNat)).2) ≤ s28.length ∧ (s28.length : Int) ≤ 100000 ∧ 0 < (13 : Int) ∧ (13 : Int) ≤ 256))
                            (.opt (unL unU8 xs) fun s29 => .br (decide (0 ≤ (atOf s28 (nx (13 : Int).toNat (s28.drop (atOf s27 (drawX (IntKind.i64.wrap (d - 1)).toNat (s27.drop (atOf s1 (nx (12 : Int).toNat (s1.drop a.toNat)).2).toNat)).2).toNat)).2) ∧ (atOf s28 (nx (13 : Int).toNat (s28.drop (atOf s27 (drawX (IntKind.i64.wrap (d - 1)).toNat (s27.drop (atOf s1 (nx (12 : Int).toNat (s1.drop a.toNat)).2).toNat)).2).toNat)).2) ≤ s29.length ∧ (s29.length : Int) ≤ 100000 ∧ 1 ≤ (IntKind.i64.wrap (d - 1)) ∧ (IntKind.i64.wrap (d - 1)) ≤ N))
                              (.leaf ((.agg [(.d (.int .i64 (IntKind.i64.wrap (10 + ((nx (13 : Int).toNat (s28.drop (atOf s27 (drawX (IntKind.i64.wrap (d - 1)).toNat (s27.drop (atOf s1 (nx (12 : Int).toNat (s1.drop a.toNat)).2).toNat)).2).toNat)).1 : Int))))), (.d (.int .i64 0)), (.d (.str [])), (.d (.int .i64 0)), (.d (.int .i64 0)), (.d (.sl 6 [(.agg [(.int .i64 (((drawX (IntKind.i64.wrap (d - 1)).toNat (s27.drop (atOf s1 (nx (12 : Int).toNat (s1.drop a.toNat)).2).toNat)).1).op)), (.int .i64 (((drawX (IntKind.i64.wrap (d - 1)).toNat (s27.drop (atOf s1 (nx (12 : Int).toNat (s1.drop a.toNat)).2).toNat)).1).value)), (.str (((drawX (IntKind.i64.wrap (d - 1)).toNat (s27.drop (atOf s1 (nx (12 : Int).toNat (s1.drop a.toNat)).2).toNat)).1).name)), (.int .i64 (((drawX (IntKind.i64.wrap (d - 1)).toNat (s27.drop (atOf s1 (nx (12 : Int).toNat (s1.drop a.toNat)).2).toNat)).1).slot)), (.int .i64 (((drawX (IntKind.i64.wrap (d - 1)).toNat (s27.drop (atOf s1 (nx (12 : Int).toNat (s1.drop a.toNat)).2).toNat)).1).size)), (.sl 6 (((drawX (IntKind.i64.wrap (d - 1)).toNat (s27.drop (atOf s1 (nx (12 : Int).toNat (s1.drop a.toNat)).2).toNat)).1).args))]), (.agg [(.int .i64 (((drawX (IntKind.i64.wrap (d - 1)).toNat (s29.drop (atOf s28 (nx (13 : Int).toNat (s28.drop (atOf s27 (drawX (IntKind.i64.wrap (d - 1)).toNat (s27.drop (atOf s1 (nx (12 : Int).toNat (s1.drop a.toNat)).2).toNat)).2).toNat)).2).toNat)).1).op)), (.int .i64 (((drawX (IntKind.i64.wrap (d - 1)).toNat (s29.drop (atOf s28 (nx (13 : Int).toNat (s28.drop (atOf s27 (drawX (IntKind.i64.wrap (d - 1)).toNat (s27.drop (atOf s1 (nx (12 : Int).toNat (s1.drop a.toNat)).2).toNat)).2).toNat)).2).toNat)).1).value)), (.str (((drawX (IntKind.i64.wrap (d - 1)).toNat (s29.drop (atOf s28 (nx (13 : Int).toNat (s28.drop (atOf s27 (drawX (IntKind.i64.wrap (d - 1)).toNat (s27.drop (atOf s1 (nx (12 : Int).toNat (s1.drop a.toNat)).2).toNat)).2).toNat)).2).toNat)).1).name)), (.int .i64 (((drawX (IntKind.i64.wrap (d - 1)).toNat (s29.drop (atOf s28 (nx (13 : Int).toNat (s28.drop (atOf s27 (drawX (IntKind.i64.wrap (d - 1)).toNat (s27.drop (atOf s1 (nx (12 : Int).toNat (s1.drop a.toNat)).2).toNat)).2).toNat)).2).toNat)).1).slot)), (.int .i64 (((drawX (IntKind.i64.wrap (d - 1)).toNat (s29.drop (atOf s28 (nx (13 : Int).toNat (s28.drop (atOf s27 (drawX (IntKind.i64.wrap (d - 1)).toNat (s27.drop (atOf s1 (nx (12 : Int).toNat (s1.drop a.toNat)).2).toNat)).2).toNat)).2).toNat)).1).size)), (.sl 6 (((drawX (IntKind.i64.wrap (d - 1)).toNat (s29.drop (atOf s28 (nx (13 : Int).toNat (s28.drop (atOf s27 (drawX (IntKind.i64.wrap (d - 1)).toNat (s27.drop (atOf s1 (nx (12 : Int).toNat (s1.drop a.toNat)).2).toNat)).2).toNat)).2).toNat)).1).args))])]))]), [[(.d (.sl 1 xs)), (.d (.int .i64 (atOf s29 (drawX (IntKind.i64.wrap (d - 1)).toNat (s29.drop (atOf s28 (nx (13 : Int).toNat (s28.drop (atOf s27 (drawX (IntKind.i64.wrap (d - 1)).toNat (s27.drop (atOf s1 (nx (12 : Int).toNat (s1.drop a.toNat)).2).toNat)).2).toNat)).2).toNat)).2)))]]))
                              (.fail))
                            (.fail))
                          (.fail)))))))))))
      (.br (decide (((nx (12 : Int).toNat (s1.drop a.toNat)).1 : Int) < 2))
        (.opt (unL unU8 xs) fun s30 => .br (decide (0 ≤ (atOf s1 (nx (12 : Int).toNat (s1.drop a.toNat)).2) ∧ (atOf s1 (nx (12 : Int).toNat (s1.drop a.toNat)).2) ≤ s30.length ∧ (s30.length : Int) ≤ 100000 ∧ 0 < (5 : Int) ∧ (5 : Int) ≤ 256))
          (.leaf ((.agg [(.d (.int .i64 1)), (.d (.int .i64 ((nx (5 : Int).toNat (s30.drop (atOf s1 (nx (12 : Int).toNat (s1.drop a.toNat)).2).toNat)).1 : Int))), (.d (.str [])), (.d (.int .i64 0)), (.d (.int .i64 0)), (.d (.sl 6 []))]), [[(.d (.sl 1 xs)), (.d (.int .i64 (atOf s30 (nx (5 : Int).toNat (s30.drop (atOf s1 (nx (12 : Int).toNat (s1.drop a.toNat)).2).toNat)).2)))]]))
          (.fail))
        (.br (decide (((nx (12 : Int).toNat (s1.drop a.toNat)).1 : Int) < 4))
          (.opt (unL unU8 xs) fun s31 => .br (decide (0 ≤ (atOf s1 (nx (12 : Int).toNat (s1.drop a.toNat)).2) ∧ (atOf s1 (nx (12 : Int).toNat (s1.drop a.toNat)).2) ≤ s31.length ∧ (s31.length : Int) ≤ 100000 ∧ 0 < (3 : Int) ∧ (3 : Int) ≤ 256))
            (.br (decide (((nx (3 : Int).toNat (s31.drop (atOf s1 (nx (12 : Int).toNat (s1.drop a.toNat)).2).toNat)).1 : Int) = ((0 : Nat) : Int)))
              (.leaf ((.agg [(.d (.int .i64 2)), (.d (.int .i64 0)), (.d (.str [120])), (.d (.int .i64 0)), (.d (.int .i64 0)), (.d (.sl 6 []))]), [[(.d (.sl 1 xs)), (.d (.int .i64 (atOf s31 (nx (3 : Int).toNat (s31.drop (atOf s1 (nx (12 : Int).toNat (s1.drop a.toNat)).2).toNat)).2)))]]))
              (.br (decide (((nx (3 : Int).toNat (s31.drop (atOf s1 (nx (12 : Int).toNat (s1.drop a.toNat)).2).toNat)).1 : Int) = ((1 : Nat) : Int)))
                (.leaf ((.agg [(.d (.int .i64 2)), (.d (.int .i64 0)), (.d (.str [121])), (.d (.int .i64 0)), (.d (.int .i64 0)), (.d (.sl 6 []))]), [[(.d (.sl 1 xs)), (.d (.int .i64 (atOf s31 (nx (3 : Int).toNat (s31.drop (atOf s1 (nx (12 : Int).toNat (s1.drop a.toNat)).2).toNat)).2)))]]))
                (.br (decide (((nx (3 : Int).toNat (s31.drop (atOf s1 (nx (12 : Int).toNat (s1.drop a.toNat)).2).toNat)).1 : Int) = ((2 : Nat) : Int)))
                  (.leaf ((.agg [(.d (.int .i64 2)), (.d (.int .i64 0)), (.d (.str [122])), (.d (.int .i64 0)), (.d (.int .i64 0)), (.d (.sl 6 []))]), [[(.d (.sl 1 xs)), (.d (.int .i64 (atOf s31 (nx (3 : Int).toNat (s31.drop (atOf s1 (nx (12 : Int).toNat (s1.drop a.toNat)).2).toNat)).2)))]]))
                  (.fail))))
            (.fail))
          (.br (decide (((nx (12 : Int).toNat (s1.drop a.toNat)).1 : Int) = 4))
            (.leaf ((.agg [(.d (.int .i64 7)), (.d (.int .i64 0)), (.d (.str [])), (.d (.int .i64 0)), (.d (.int .i64 0)), (.d (.sl 6 []))]), [[(.d (.sl 1 xs)), (.d (.int .i64 (atOf s1 (nx (12 : Int).toNat (s1.drop a.toNat)).2)))]]))
            (.br (decide (((nx (12 : Int).toNat (s1.drop a.toNat)).1 : Int) = 5))
              (.opt (unL unU8 xs) fun s32 => .br (decide (0 ≤ (atOf s1 (nx (12 : Int).toNat (s1.drop a.toNat)).2) ∧ (atOf s1 (nx (12 : Int).toNat (s1.drop a.toNat)).2) ≤ s32.length ∧ (s32.length : Int) ≤ 100000 ∧ 0 < (3 : Int) ∧ (3 : Int) ≤ 256))
                (.br (decide ((0 : Int) ≤ ((nx (3 : Int).toNat (s32.drop (atOf s1 (nx (12 : Int).toNat (s1.drop a.toNat)).2).toNat)).1 : Int)))
                  (.opt ((([(.int .i64 4), (.int .i64 5), (.int .i64 6)] : List DV)[(Int.toNat ((nx (3 : Int).toNat (s32.drop (atOf s1 (nx (12 : Int).toNat (s1.drop a.toNat)).2).toNat)).1 : Int))]?).bind (unInt .i64)) fun y33 => .leaf ((.agg [(.d (.int .i64 y33)), (.d (.int .i64 0)), (.d (.str [])), (.d (.int .i64 0)), (.d (.int .i64 0)), (.d (.sl 6 []))]), [[(.d (.sl 1 xs)), (.d (.int .i64 (atOf s32 (nx (3 : Int).toNat (s32.drop (atOf s1 (nx (12 : Int).toNat (s1.drop a.toNat)).2).toNat)).2)))]]))
                  (.fail))
                (.fail))
              (.br (decide (((nx (12 : Int).toNat (s1.drop a.toNat)).1 : Int) = 6))
                (.opt (unL unU8 xs) fun s34 => .br (decide (0 ≤ (atOf s1 (nx (12 : Int).toNat (s1.drop a.toNat)).2) ∧ (atOf s1 (nx (12 : Int).toNat (s1.drop a.toNat)).2) ≤ s34.length ∧ (s34.length : Int) ≤ 100000 ∧ 0 < (200 : Int) ∧ (200 : Int) ≤ 256))
                  (.leaf ((.agg [(.d (.int .i64 1)), (.d (.int .i64 (IntKind.i64.wrap (1 + ((nx (200 : Int).toNat (s34.drop (atOf s1 (nx (12 : Int).toNat (s1.drop a.toNat)).2).toNat)).1 : Int))))), (.d (.str [])), (.d (.int .i64 0)), (.d (.int .i64 0)), (.d (.sl 6 []))]), [[(.d (.sl 1 xs)), (.d (.int .i64 (atOf s34 (nx (200 : Int).toNat (s34.drop (atOf s1 (nx (12 : Int).toNat (s1.drop a.toNat)).2).toNat)).2)))]]))
                  (.fail))
                (.br (decide (d ≤ 1))
                  (.opt (unL unU8 xs) fun s35 => .br (decide (0 ≤ (atOf s1 (nx (12 : Int).toNat (s1.drop a.toNat)).2) ∧ (atOf s1 (nx (12 : Int).toNat (s1.drop a.toNat)).2) ≤ s35.length ∧ (s35.length : Int) ≤ 100000 ∧ 0 < (200 : Int) ∧ (200 : Int) ≤ 256))
                    (.leaf ((.agg [(.d (.int .i64 1)), (.d (.int .i64 (IntKind.i64.wrap (1 + ((nx (200 : Int).toNat (s35.drop (atOf s1 (nx (12 : Int).toNat (s1.drop a.toNat)).2).toNat)).1 : Int))))), (.d (.str [])), (.d (.int .i64 0)), (.d (.int .i64 0)), (.d (.sl 6 []))]), [[(.d (.sl 1 xs)), (.d (.int .i64 (atOf s35 (nx (200 : Int).toNat (s35.drop (atOf s1 (nx (12 : Int).toNat (s1.drop a.toNat)).2).toNat)).2)))]]))
                    (.fail))
                  (.br (decide (((nx (12 : Int).toNat (s1.drop a.toNat)).1 : Int) = 7))
                    (.opt (unL unU8 xs) fun s36 => .br (decide (0 ≤ (atOf s1 (nx (12 : Int).toNat (s1.drop a.toNat)).2) ∧ (atOf s1 (nx (12 : Int).toNat (s1.drop a.toNat)).2) ≤ s36.length ∧ (s36.length : Int) ≤ 100000 ∧ 0 < (2 : Int) ∧ (2 : Int) ≤ 256))
                      (.br (decide (((nx (2 : Int).toNat (s36.drop (atOf s1 (nx (12 : Int).toNat (s1.drop a.toNat)).2).toNat)).1 : Int) = ((0 : Nat) : Int)))
                        (.opt (unL unU8 xs) fun s37 => .br (decide (0 ≤ (atOf s36 (nx (2 : Int).toNat (s36.drop (atOf s1 (nx (12 : Int).toNat (s1.drop a.toNat)).2).toNat)).2) ∧ (atOf s36 (nx (2 : Int).toNat (s36.drop (atOf s1 (nx (12 : Int).toNat (s1.drop a.toNat)).2).toNat)).2) ≤ s37.length ∧ (s37.length : Int) ≤ 100000 ∧ 1 ≤ (IntKind.i64.wrap (d - 1)) ∧ (IntKind.i64.wrap (d - 1)) ≤ N))
                          (.leaf ((.agg [(.d (.int .i64 3)), (.d (.int .i64 0)), (.d (.str [97])), (.d (.int .i64 0)), (.d (.int .i64 0)), (.d (.sl 6 [(.agg [(.int .i64 (((drawX (IntKind.i64.wrap (d - 1)).toNat (s37.drop (atOf s36 (nx (2 : Int).toNat (s36.drop (atOf s1 (nx (12 : Int).toNat (s1.drop a.toNat)).2).toNat)).2).toNat)).1).op)), (.int .i64 (((drawX (IntKind.i64.wrap (d - 1)).toNat (s37.drop (atOf s36 (nx (2 : Int).toNat (s36.drop (atOf s1 (nx (12 : Int).toNat (s1.drop a.toNat)).2).toNat)).2).toNat)).1).value)), (.str (((drawX (IntKind.i64.wrap (d - 1)).toNat (s37.drop (atOf s36 (nx (2 : Int).toNat (s36.drop (atOf s1 (nx (12 : Int).toNat (s1.drop a.toNat)).2).toNat)).2).toNat)).1).name)), (.int .i64 (((drawX (IntKind.i64.wrap (d - 1)).toNat (s37.drop (atOf s36 (nx (2 : Int).toNat (s36.drop (atOf s1 (nx (12 : Int).toNat (s1.drop a.toNat)).2).toNat)).2).toNat)).1).slot)), (.int .i64 (((drawX (IntKind.i64.wrap (d - 1)).toNat (s37.drop (atOf s36 (nx (2 : Int).toNat (s36.drop (atOf s1 (nx (12 : Int).toNat (s1.drop a.toNat)).2).toNat)).2).toNat)).1).size)), (.sl 6 (((drawX (IntKind.i64.wrap (d - 1)).toNat (s37.drop (atOf s36 (nx (2 : Int).toNat (s36.drop (atOf s1 (nx (12 : Int).toNat (s1.drop a.toNat)).2).toNat)).2).toNat)).1).args))])]))]), [[(.d (.sl 1 xs)), (.d (.int .i64 (atOf s37 (drawX (IntKind.i64.wrap (d - 1)).toNat (s37.drop (atOf s36 (nx (2 : Int).toNat (s36.drop (atOf s1 (nx (12 : Int).toNat (s1.drop a.toNat)).2).toNat)).2).toNat)).2)))]]))
                          (.fail))
                        (.br (decide (((nx (2 : Int).toNat (s36.drop (atOf s1 (nx (12 : Int).toNat (s1.drop a.toNat)).2).toNat)).1 : Int) = ((1 : Nat) : Int)))
                          (.opt (unL unU8 xs) fun s38 => .br (decide (0 ≤ (atOf s36 (nx (2 : Int).toNat (s36.drop (atOf s1 (nx (12 : Int).toNat (s1.drop a.toNat)).2).toNat)).2) ∧ (atOf s36 (nx (2 : Int).toNat (s36.drop (atOf s1 (nx (12 : Int).toNat (s1.drop a.toNat)).2).toNat)).2) ≤ s38.length ∧ (s38.length : Int) ≤ 100000 ∧ 1 ≤ (IntKind.i64.wrap (d - 1)) ∧ (IntKind.i64.wrap (d - 1)) ≤ N))
                            (.leaf ((.agg [(.d (.int .i64 3)), (.d (.int .i64 0)), (.d (.str [98])), (.d (.int .i64 0)), (.d (.int .i64 0)), (.d (.sl 6 [(.agg [(.int .i64 (((drawX (IntKind.i64.wrap (d - 1)).toNat (s38.drop (atOf s36 (nx (2 : Int).toNat (s36.drop (atOf s1 (nx (12 : Int).toNat (s1.drop a.toNat)).2).toNat)).2).toNat)).1).op)), (.int .i64 (((drawX (IntKind.i64.wrap (d - 1)).toNat (s38.drop (atOf s36 (nx (2 : Int).toNat (s36.drop (atOf s1 (nx (12 : Int).toNat (s1.drop a.toNat)).2).toNat)).2).toNat)).1).value)), (.str (((drawX (IntKind.i64.wrap (d - 1)).toNat (s38.drop (atOf s36 (nx (2 : Int).toNat (s36.drop (atOf s1 (nx (12 : Int).toNat (s1.drop a.toNat)).2).toNat)).2).toNat)).1).name)), (.int .i64 (((drawX (IntKind.i64.wrap (d - 1)).toNat (s38.drop (atOf s36 (nx (2 : Int).toNat (s36.drop (atOf s1 (nx (12 : Int).toNat (s1.drop a.toNat)).2).toNat)).2).toNat)).1).slot)), (.int .i64 (((drawX (IntKind.i64.wrap (d - 1)).toNat (s38.drop (atOf s36 (nx (2 : Int).toNat (s36.drop (atOf s1 (nx (12 : Int).toNat (s1.drop a.toNat)).2).toNat)).2).toNat)).1).size)), (.sl 6 (((drawX (IntKind.i64.wrap (d - 1)).toNat (s38.drop (atOf s36 (nx (2 : Int).toNat (s36.drop (atOf s1 (nx (12 : Int).toNat (s1.drop a.toNat)).2).toNat)).2).toNat)).1).args))])]))]), [[(.d (.sl 1 xs)), (.d (.int .i64 (atOf s38 (drawX (IntKind.i64.wrap (d - 1)).toNat (s38.drop (atOf s36 (nx (2 : Int).toNat (s36.drop (atOf s1 (nx (12 : Int).toNat (s1.drop a.toNat)).2).toNat)).2).toNat)).2)))]]))
                            (.fail))
                          (.fail)))
                      (.fail))
                    (.br (decide (((nx (12 : Int).toNat (s1.drop a.toNat)).1 : Int) = 8))
                      (.opt (unL unU8 xs) fun s39 => .br (decide (0 ≤ (atOf s1 (nx (12 : Int).toNat (s1.drop a.toNat)).2) ∧ (atOf s1 (nx (12 : Int).toNat (s1.drop a.toNat)).2) ≤ s39.length ∧ (s39.length : Int) ≤ 100000 ∧ 0 < (2 : Int) ∧ (2 : Int) ≤ 256))
                        (.opt (unL unU8 xs) fun s40 => .br (decide (0 ≤ (atOf s39 (nx (2 : Int).toNat (s39.drop (atOf s1 (nx (12 : Int).toNat (s1.drop a.toNat)).2).toNat)).2) ∧ (atOf s39 (nx (2 : Int).toNat (s39.drop (atOf s1 (nx (12 : Int).toNat (s1.drop a.toNat)).2).toNat)).2) ≤ s40.length ∧ (s40.length : Int) ≤ 100000 ∧ 1 ≤ (IntKind.i64.wrap (d - 1)) ∧ (IntKind.i64.wrap (d - 1)) ≤ N))
                          (.leaf ((.agg [(.d (.int .i64 (IntKind.i64.wrap (8 + ((nx (2 : Int).toNat (s39.drop (atOf s1 (nx (12 : Int).toNat (s1.drop a.toNat)).2).toNat)).1 : Int))))), (.d (.int .i64 0)), (.d (.str [])), (.d (.int .i64 0)), (.d (.int .i64 0)), (.d (.sl 6 [(.agg [(.int .i64 (((drawX (IntKind.i64.wrap (d - 1)).toNat (s40.drop (atOf s39 (nx (2 : Int).toNat (s39.drop (atOf s1 (nx (12 : Int).toNat (s1.drop a.toNat)).2).toNat)).2).toNat)).1).op)), (.int .i64 (((drawX (IntKind.i64.wrap (d - 1)).toNat (s40.drop (atOf s39 (nx (2 : Int).toNat (s39.drop (atOf s1 (nx (12 : Int).toNat (s1.drop a.toNat)).2).toNat)).2).toNat)).1).value)), (.str (((drawX (IntKind.i64.wrap (d - 1)).toNat (s40.drop (atOf s39 (nx (2 : Int).toNat (s39.drop (atOf s1 (nx (12 : Int).toNat (s1.drop a.toNat)).2).toNat)).2).toNat)).1).name)), (.int .i64 (((drawX (IntKind.i64.wrap (d - 1)).toNat (s40.drop (atOf s39 (nx (2 : Int).toNat (s39.drop (atOf s1 (nx (12 : Int).toNat (s1.drop a.toNat)).2).toNat)).2).toNat)).1).slot)), (.int .i64 (((drawX (IntKind.i64.wrap (d - 1)).toNat (s40.drop (atOf s39 (nx (2 : Int).toNat (s39.drop (atOf s1 (nx (12 : Int).toNat (s1.drop a.toNat)).2).toNat)).2).toNat)).1).size)), (.sl 6 (((drawX (IntKind.i64.wrap (d - 1)).toNat (s40.drop (atOf s39 (nx (2 : Int).toNat (s39.drop (atOf s1 (nx (12 : Int).toNat (s1.drop a.toNat)).2).toNat)).2).toNat)).1).args))])]))]), [[(.d (.sl 1 xs)), (.d (.int .i64 (atOf s40 (drawX (IntKind.i64.wrap (d - 1)).toNat (s40.drop (atOf s39 (nx (2 : Int).toNat (s39.drop (atOf s1 (nx (12 : Int).toNat (s1.drop a.toNat)).2).toNat)).2).toNat)).2)))]]))
                          (.fail))
                        (.fail))
                      (.opt (unL unU8 xs) fun s41 => .br (decide (0 ≤ (atOf s1 (nx (12 : Int).toNat (s1.drop a.toNat)).2) ∧ (atOf s1 (nx (12 : Int).toNat (s1.drop a.toNat)).2) ≤ s41.length ∧ (s41.length : Int) ≤ 100000 ∧ 1 ≤ (IntKind.i64.wrap (d - 1)) ∧ (IntKind.i64.wrap (d - 1)) ≤ N))
                        (.opt (unL unU8 xs) fun s42 => .br (decide (0 ≤ (atOf s41 (drawX (IntKind.i64.wrap (d - 1)).toNat (s41.drop (atOf s1 (nx (12 : Int).toNat (s1.drop a.toNat)).2).toNat)).2) ∧ (atOf s41 (drawX (IntKind.i64.wrap (d - 1)).toNat (s41.drop (atOf s1 (nx (12 : Int).toNat (s1.drop a.toNat)).2).toNat)).2) ≤ s42.length ∧ (s42.length : Int) ≤ 100000 ∧ 0 < (13 : Int) ∧ (13 : Int) ≤ 256))
                          (.opt (unL unU8 xs) fun s43 => .br (decide (0 ≤ (atOf s42 (nx (13 : Int).toNat (s42.drop (atOf s41 (drawX (IntKind.i64.wrap (d - 1)).toNat (s41.drop (atOf s1 (nx (12 : Int).toNat (s1.drop a.toNat)).2).toNat)).2).toNat)).2) ∧ (atOf s42 (nx (13 : Int).toNat (s42.drop (atOf s41 (drawX (IntKind.i64.wrap (d - 1)).toNat (s41.drop (atOf s1 (nx (12 : Int).toNat (s1.drop a.toNat)).2).toNat)).2).toNat)).2) ≤ s43.length ∧ (s43.length : Int) ≤ 100000 ∧ 1 ≤ (IntKind.i64.wrap (d - 1)) ∧ (IntKind.i64.wrap (d - 1)) ≤ N))
                            (.leaf ((.agg [(.d (.int .i64 (IntKind.i64.wrap (10 + ((nx (13 : Int).toNat (s42.drop (atOf s41 (drawX (IntKind.i64.wrap (d - 1)).toNat (s41.drop (atOf s1 (nx (12 : Int).toNat (s1.drop a.toNat)).2).toNat)).2).toNat)).1 : Int))))), (.d (.int .i64 0)), (.d (.str [])), (.d (.int .i64 0)), (.d (.int .i64 0)), (.d (.sl 6 [(.agg [(.int .i64 (((drawX (IntKind.i64.wrap (d - 1)).toNat (s41.drop (atOf s1 (nx (12 : Int).toNat (s1.drop a.toNat)).2).toNat)).1).op)), (.int .i64 (((drawX (IntKind.i64.wrap (d - 1)).toNat (s41.drop (atOf s1 (nx (12 : Int).toNat (s1.drop a.toNat)).2).toNat)).1).value)), (.str (((drawX (IntKind.i64.wrap (d - 1)).toNat (s41.drop (atOf s1 (nx (12 : Int).toNat (s1.drop a.toNat)).2).toNat)).1).name)), (.int .i64 (((drawX (IntKind.i64.wrap (d - 1)).toNat (s41.drop (atOf s1 (nx (12 : Int).toNat (s1.drop a.toNat)).2).toNat)).1).slot)), (.int .i64 (((drawX (IntKind.i64.wrap (d - 1)).toNat (s41.drop (atOf s1 (nx (12 : Int).toNat (s1.drop a.toNat)).2).toNat)).1).size)), (.sl 6 (((drawX (IntKind.i64.wrap (d - 1)).toNat (s41.drop (atOf s1 (nx (12 : Int).toNat (s1.drop a.toNat)).2).toNat)).1).args))]), (.agg [(.int .i64 (((drawX (IntKind.i64.wrap (d - 1)).toNat (s43.drop (atOf s42 (nx (13 : Int).toNat (s42.drop (atOf s41 (drawX (IntKind.i64.wrap (d - 1)).toNat (s41.drop (atOf s1 (nx (12 : Int).toNat (s1.drop a.toNat)).2).toNat)).2).toNat)).2).toNat)).1).op)), (.int .i64 (((drawX (IntKind.i64.wrap (d - 1)).toNat (s43.drop (atOf s42 (nx (13 : Int).toNat (s42.drop (atOf s41 (drawX (IntKind.i64.wrap (d - 1)).toNat (s41.drop (atOf s1 (nx (12 : Int).toNat (s1.drop a.toNat)).2).toNat)).2).toNat)).2).toNat)).1).value)), (.str (((drawX (IntKind.i64.wrap (d - 1)).toNat (s43.drop (atOf s42 (nx (13 : Int).toNat (s42.drop (atOf s41 (drawX (IntKind.i64.wrap (d - 1)).toNat (s41.drop (atOf s1 (nx (12 : Int).toNat (s1.drop a.toNat)).2).toNat)).2).toNat)).2).toNat)).1).name)), (.int .i64 (((drawX (IntKind.i64.wrap (d - 1)).toNat (s43.drop (atOf s42 (nx (13 : Int).toNat (s42.drop (atOf s41 (drawX (IntKind.i64.wrap (d - 1)).toNat (s41.drop (atOf s1 (nx (12 : Int).toNat (s1.drop a.toNat)).2).toNat)).2).toNat)).2).toNat)).1).slot)), (.int .i64 (((drawX (IntKind.i64.wrap (d - 1)).toNat (s43.drop (atOf s42 (nx (13 : Int).toNat (s42.drop (atOf s41 (drawX (IntKind.i64.wrap (d - 1)).toNat (s41.drop (atOf s1 (nx (12 : Int).toNat (s1.drop a.toNat)).2).toNat)).2).toNat)).2).toNat)).1).size)), (.sl 6 (((drawX (IntKind.i64.wrap (d - 1)).toNat (s43.drop (atOf s42 (nx (13 : Int).toNat (s42.drop (atOf s41 (drawX (IntKind.i64.wrap (d - 1)).toNat (s41.drop (atOf s1 (nx (12 : Int).toNat (s1.drop a.toNat)).2).toNat)).2).toNat)).2).toNat)).1).args))])]))]), [[(.d (.sl 1 xs)), (.d (.int .i64 (atOf s43 (drawX (IntKind.i64.wrap (d - 1)).toNat (s43.drop (atOf s42 (nx (13 : Int).toNat (s42.drop (atOf s41 (drawX (IntKind.i64.wrap (d - 1)).toNat (s41.drop (atOf s1 (nx (12 : Int).toNat (s1.drop a.toNat)).2).toNat)).2).toNat)).2).toNat)).2)))]]))
                            (.fail))
                          (.fail))
                        (.fail)))))))))))
    (.fail) : Tr (AV × Hp)) := by kernel_rfl

abbrev tailT (N : Nat) (s : List UInt8) (xs : List DV) (d : Int) (k : Nat) (r : List UInt8) : Tr (AV × Hp) :=
    .br (decide ((k : Int) < 2))
    (.opt (unL unU8 xs) fun s30 => .br (decide (0 ≤ (atOf s r) ∧ (atOf s r) ≤ s30.length ∧ (s30.length : Int) ≤ 100000 ∧ 0 < (5 : Int) ∧ (5 : Int) ≤ 256))
      (.leaf ((.agg [(.d (.int .i64 1)), (.d (.int .i64 ((nx (5 : Int).toNat (s30.drop (atOf s r).toNat)).1 : Int))), (.d (.str [])), (.d (.int .i64 0)), (.d (.int .i64 0)), (.d (.sl 6 []))]), [[(.d (.sl 1 xs)), (.d (.int .i64 (atOf s30 (nx (5 : Int).toNat (s30.drop (atOf s r).toNat)).2)))]]))
      (.fail))
    (.br (decide ((k : Int) < 4))
      (.opt (unL unU8 xs) fun s31 => .br (decide (0 ≤ (atOf s r) ∧ (atOf s r) ≤ s31.length ∧ (s31.length : Int) ≤ 100000 ∧ 0 < (3 : Int) ∧ (3 : Int) ≤ 256))
        (.br (decide (((nx (3 : Int).toNat (s31.drop (atOf s r).toNat)).1 : Int) = ((0 : Nat) : Int)))
          (.leaf ((.agg [(.d (.int .i64 2)), (.d (.int .i64 0)), (.d (.str [120])), (.d (.int .i64 0)), (.d (.int .i64 0)), (.d (.sl 6 []))]), [[(.d (.sl 1 xs)), (.d (.int .i64 (atOf s31 (nx (3 : Int).toNat (s31.drop (atOf s r).toNat)).2)))]]))
          (.br (decide (((nx (3 : Int).toNat (s31.drop (atOf s r).toNat)).1 : Int) = ((1 : Nat) : Int)))
            (.leaf ((.agg [(.d (.int .i64 2)), (.d (.int .i64 0)), (.d (.str [121])), (.d (.int .i64 0)), (.d (.int .i64 0)), (.d (.sl 6 []))]), [[(.d (.sl 1 xs)), (.d (.int .i64 (atOf s31 (nx (3 : Int).toNat (s31.drop (atOf s r).toNat)).2)))]]))
            (.br (decide (((nx (3 : Int).toNat (s31.drop (atOf s r).toNat)).1 : Int) = ((2 : Nat) : Int)))
              (.leaf ((.agg [(.d (.int .i64 2)), (.d (.int .i64 0)), (.d (.str [122])), (.d (.int .i64 0)), (.d (.int .i64 0)), (.d (.sl 6 []))]), [[(.d (.sl 1 xs)), (.d (.int .i64 (atOf s31 (nx (3 : Int).toNat (s31.drop (atOf s r).toNat)).2)))]]))
              (.fail))))
        (.fail))
      (.br (decide ((k : Int) = 4))
        (.leaf ((.agg [(.d (.int .i64 7)), (.d (.int .i64 0)), (.d (.str [])), (.d (.int .i64 0)), (.d (.int .i64 0)), (.d (.sl 6 []))]), [[(.d (.sl 1 xs)), (.d (.int .i64 (atOf s r)))]]))
        (.br (decide ((k : Int) = 5))
          (.opt (unL unU8 xs) fun s32 => .br (decide (0 ≤ (atOf s r) ∧ (atOf s r) ≤ s32.length ∧ (s32.length : Int) ≤ 100000 ∧ 0 < (3 : Int) ∧ (3 : Int) ≤ 256))
            (.br (decide ((0 : Int) ≤ ((nx (3 : Int).toNat (s32.drop (atOf s r).toNat)).1 : Int)))
              (.opt ((([(.int .i64 4), (.int .i64 5), (.int .i64 6)] : List DV)[(Int.toNat ((nx (3 : Int).toNat (s32.drop (atOf s r).toNat)).1 : Int))]?).bind (unInt .i64)) fun y33 => .leaf ((.agg [(.d (.int .i64 y33)), (.d (.int .i64 0)), (.d (.str [])), (.d (.int .i64 0)), (.d (.int .i64 0)), (.d (.sl 6 []))]), [[(.d (.sl 1 xs)), (.d (.int .i64 (atOf s32 (nx (3 : Int).toNat (s32.drop (atOf s r).toNat)).2)))]]))
              (.fail))
            (.fail))
          (.br (decide ((k : Int) = 6))
            (.opt (unL unU8 xs) fun s34 => .br (decide (0 ≤ (atOf s r) ∧ (atOf s r) ≤ s34.length ∧ (s34.length : Int) ≤ 100000 ∧ 0 < (200 : Int) ∧ (200 : Int) ≤ 256))
              (.leaf ((.agg [(.d (.int .i64 1)), (.d (.int .i64 (IntKind.i64.wrap (1 + ((nx (200 : Int).toNat (s34.drop (atOf s r).toNat)).1 : Int))))), (.d (.str [])), (.d (.int .i64 0)), (.d (.int .i64 0)), (.d (.sl 6 []))]), [[(.d (.sl 1 xs)), (.d (.int .i64 (atOf s34 (nx (200 : Int).toNat (s34.drop (atOf s r).toNat)).2)))]]))
              (.fail))
            (.br (decide (d ≤ 1))
              (.opt (unL unU8 xs) fun s35 => .br (decide (0 ≤ (atOf s r) ∧ (atOf s r) ≤ s35.length ∧ (s35.length : Int) ≤ 100000 ∧ 0 < (200 : Int) ∧ (200 : Int) ≤ 256))
                (.leaf ((.agg [(.d (.int .i64 1)), (.d (.int .i64 (IntKind.i64.wrap (1 + ((nx (200 : Int).toNat (s35.drop (atOf s r).toNat)).1 : Int))))), (.d (.str [])), (.d (.int .i64 0)), (.d (.int .i64 0)), (.d (.sl 6 []))]), [[(.d (.sl 1 xs)), (.d (.int .i64 (atOf s35 (nx (200 : Int).toNat (s35.drop (atOf s r).toNat)).2)))]]))
                (.fail))
              (.br (decide ((k : Int) = 7))
                (.opt (unL unU8 xs) fun s36 => .br (decide (0 ≤ (atOf s r) ∧ (atOf s r) ≤ s36.length ∧ (s36.length : Int) ≤ 100000 ∧ 0 < (2 : Int) ∧ (2 : Int) ≤ 256))
                  (.br (decide (((nx (2 : Int).toNat (s36.drop (atOf s r).toNat)).1 : Int) = ((0 : Nat) : Int)))
                    (.opt (unL unU8 xs) fun s37 => .br (decide (0 ≤ (atOf s36 (nx (2 : Int).toNat (s36.drop (atOf s r).toNat)).2) ∧ (atOf s36 (nx (2 : Int).toNat (s36.drop (atOf s r).toNat)).2) ≤ s37.length ∧ (s37.length : Int) ≤ 100000 ∧ 1 ≤ (IntKind.i64.wrap (d - 1)) ∧ (IntKind.i64.wrap (d - 1)) ≤ N))
                      (.leaf ((.agg [(.d (.int .i64 3)), (.d (.int .i64 0)), (.d (.str [97])), (.d (.int .i64 0)), (.d (.int .i64 0)), (.d (.sl 6 [(.agg [(.int .i64 (((drawX (IntKind.i64.wrap (d - 1)).toNat (s37.drop (atOf s36 (nx (2 : Int).toNat (s36.drop (atOf s r).toNat)).2).toNat)).1).op)), (.int .i64 (((drawX (IntKind.i64.wrap (d - 1)).toNat (s37.drop (atOf s36 (nx (2 : Int).toNat (s36.drop (atOf s r).toNat)).2).toNat)).1).value)), (.str (((drawX (IntKind.i64.wrap (d - 1)).toNat (s37.drop (atOf s36 (nx (2 : Int).toNat (s36.drop (atOf s r).toNat)).2).toNat)).1).name)), (.int .i64 (((drawX (IntKind.i64.wrap (d - 1)).toNat (s37.drop (atOf s36 (nx (2 : Int).toNat (s36.drop (atOf s r).toNat)).2).toNat)).1).slot)), (.int .i64 (((drawX (IntKind.i64.wrap (d - 1)).toNat (s37.drop (atOf s36 (nx (2 : Int).toNat (s36.drop (atOf s r).toNat)).2).toNat)).1).size)), (.sl 6 (((drawX (IntKind.i64.wrap (d - 1)).toNat (s37.drop (atOf s36 (nx (2 : Int).toNat (s36.drop (atOf s r).toNat)).2).toNat)).1).args))])]))]), [[(.d (.sl 1 xs)), (.d (.int .i64 (atOf s37 (drawX (IntKind.i64.wrap (d - 1)).toNat (s37.drop (atOf s36 (nx (2 : Int).toNat (s36.drop (atOf s r).toNat)).2).toNat)).2)))]]))
                      (.fail))
                    (.br (decide (((nx (2 : Int).toNat (s36.drop (atOf s r).toNat)).1 : Int) = ((1 : Nat) : Int)))
                      (.opt (unL unU8 xs) fun s38 => .br (decide (0 ≤ (atOf s36 (nx (2 : Int).toNat (s36.drop (atOf s r).toNat)).2) ∧ (atOf s36 (nx (2 : Int).toNat (s36.drop (atOf s r).toNat)).2) ≤ s38.length ∧ (s38.length : Int) ≤ 100000 ∧ 1 ≤ (IntKind.i64.wrap (d - 1)) ∧ (IntKind.i64.wrap (d - 1)) ≤ N))
                        (.leaf ((.agg [(.d (.int .i64 3)), (.d (.int .i64 0)), (.d (.str [98])), (.d (.int .i64 0)), (.d (.int .i64 0)), (.d (.sl 6 [(.agg [(.int .i64 (((drawX (IntKind.i64.wrap (d - 1)).toNat (s38.drop (atOf s36 (nx (2 : Int).toNat (s36.drop (atOf s r).toNat)).2).toNat)).1).op)), (.int .i64 (((drawX (IntKind.i64.wrap (d - 1)).toNat (s38.drop (atOf s36 (nx (2 : Int).toNat (s36.drop (atOf s r).toNat)).2).toNat)).1).value)), (.str (((drawX (IntKind.i64.wrap (d - 1)).toNat (s38.drop (atOf s36 (nx (2 : Int).toNat (s36.drop (atOf s r).toNat)).2).toNat)).1).name)), (.int .i64 (((drawX (IntKind.i64.wrap (d - 1)).toNat (s38.drop (atOf s36 (nx (2 : Int).toNat (s36.drop (atOf s r).toNat)).2).toNat)).1).slot)), (.int .i64 (((drawX (IntKind.i64.wrap (d - 1)).toNat (s38.drop (atOf s36 (nx (2 : Int).toNat (s36.drop (atOf s r).toNat)).2).toNat)).1).size)), (.sl 6 (((drawX (IntKind.i64.wrap (d - 1)).toNat (s38.drop (atOf s36 (nx (2 : Int).toNat (s36.drop (atOf s r).toNat)).2).toNat)).1).args))])]))]), [[(.d (.sl 1 xs)), (.d (.int .i64 (atOf s38 (drawX (IntKind.i64.wrap (d - 1)).toNat (s38.drop (atOf s36 (nx (2 : Int).toNat (s36.drop (atOf s r).toNat)).2).toNat)).2)))]]))
                        (.fail))
                      (.fail)))
                  (.fail))
                (.br (decide ((k : Int) = 8))
                  (.opt (unL unU8 xs) fun s39 => .br (decide (0 ≤ (atOf s r) ∧ (atOf s r) ≤ s39.length ∧ (s39.length : Int) ≤ 100000 ∧ 0 < (2 : Int) ∧ (2 : Int) ≤ 256))
                    (.opt (unL unU8 xs) fun s40 => .br (decide (0 ≤ (atOf s39 (nx (2 : Int).toNat (s39.drop (atOf s r).toNat)).2) ∧ (atOf s39 (nx (2 : Int).toNat (s39.drop (atOf s r).toNat)).2) ≤ s40.length ∧ (s40.length : Int) ≤ 100000 ∧ 1 ≤ (IntKind.i64.wrap (d - 1)) ∧ (IntKind.i64.wrap (d - 1)) ≤ N))
                      (.leaf ((.agg [(.d (.int .i64 (IntKind.i64.wrap (8 + ((nx (2 : Int).toNat (s39.drop (atOf s r).toNat)).1 : Int))))), (.d (.int .i64 0)), (.d (.str [])), (.d (.int .i64 0)), (.d (.int .i64 0)), (.d (.sl 6 [(.agg [(.int .i64 (((drawX (IntKind.i64.wrap (d - 1)).toNat (s40.drop (atOf s39 (nx (2 : Int).toNat (s39.drop (atOf s r).toNat)).2).toNat)).1).op)), (.int .i64 (((drawX (IntKind.i64.wrap (d - 1)).toNat (s40.drop (atOf s39 (nx (2 : Int).toNat (s39.drop (atOf s r).toNat)).2).toNat)).1).value)), (.str (((drawX (IntKind.i64.wrap (d - 1)).toNat (s40.drop (atOf s39 (nx (2 : Int).toNat (s39.drop (atOf s r).toNat)).2).toNat)).1).name)), (.int .i64 (((drawX (IntKind.i64.wrap (d - 1)).toNat (s40.drop (atOf s39 (nx (2 : Int).toNat (s39.drop (atOf s r).toNat)).2).toNat)).1).slot)), (.int .i64 (((drawX (IntKind.i64.wrap (d - 1)).toNat (s40.drop (atOf s39 (nx (2 : Int).toNat (s39.drop (atOf s r).toNat)).2).toNat)).1).size)), (.sl 6 (((drawX (IntKind.i64.wrap (d - 1)).toNat (s40.drop (atOf s39 (nx (2 : Int).toNat (s39.drop (atOf s r).toNat)).2).toNat)).1).args))])]))]), [[(.d (.sl 1 xs)), (.d (.int .i64 (atOf s40 (drawX (IntKind.i64.wrap (d - 1)).toNat (s40.drop (atOf s39 (nx (2 : Int).toNat (s39.drop (atOf s r).toNat)).2).toNat)).2)))]]))
                      (.fail))
                    (.fail))
                  (.opt (unL unU8 xs) fun s41 => .br (decide (0 ≤ (atOf s r) ∧ (atOf s r) ≤ s41.length ∧ (s41.length : Int) ≤ 100000 ∧ 1 ≤ (IntKind.i64.wrap (d - 1)) ∧ (IntKind.i64.wrap (d - 1)) ≤ N))
                    (.opt (unL unU8 xs) fun s42 => .br (decide (0 ≤ (atOf s41 (drawX (IntKind.i64.wrap (d - 1)).toNat (s41.drop (atOf s r).toNat)).2) ∧ (atOf s41 (drawX (IntKind.i64.wrap (d - 1)).toNat (s41.drop (atOf s r).toNat)).2) ≤ s42.length ∧ (s42.length : Int) ≤ 100000 ∧ 0 < (13 : Int) ∧ (13 : Int) ≤ 256))
                      (.opt (unL unU8 xs) fun s43 => .br (decide (0 ≤ (atOf s42 (nx (13 : Int).toNat (s42.drop (atOf s41 (drawX (IntKind.i64.wrap (d - 1)).toNat (s41.drop (atOf s r).toNat)).2).toNat)).2) ∧ (atOf s42 (nx (13 : Int).toNat (s42.drop (atOf s41 (drawX (IntKind.i64.wrap (d - 1)).toNat (s41.drop (atOf s r).toNat)).2).toNat)).2) ≤ s43.length ∧ (s43.length : Int) ≤ 100000 ∧ 1 ≤ (IntKind.i64.wrap (d - 1)) ∧ (IntKind.i64.wrap (d - 1)) ≤ N))
                        (.leaf ((.agg [(.d (.int .i64 (IntKind.i64.wrap (10 + ((nx (13 : Int).toNat (s42.drop (atOf s41 (drawX (IntKind.i64.wrap (d - 1)).toNat (s41.drop (atOf s r).toNat)).2).toNat)).1 : Int))))), (.d (.int .i64 0)), (.d (.str [])), (.d (.int .i64 0)), (.d (.int .i64 0)), (.d (.sl 6 [(.agg [(.int .i64 (((drawX (IntKind.i64.wrap (d - 1)).toNat (s41.drop (atOf s r).toNat)).1).op)), (.int .i64 (((drawX (IntKind.i64.wrap (d - 1)).toNat (s41.drop (atOf s r).toNat)).1).value)), (.str (((drawX (IntKind.i64.wrap (d - 1)).toNat (s41.drop (atOf s r).toNat)).1).name)), (.int .i64 (((drawX (IntKind.i64.wrap (d - 1)).toNat (s41.drop (atOf s r).toNat)).1).slot)), (.int .i64 (((drawX (IntKind.i64.wrap (d - 1)).toNat (s41.drop (atOf s r).toNat)).1).size)), (.sl 6 (((drawX (IntKind.i64.wrap (d - 1)).toNat (s41.drop (atOf s r).toNat)).1).args))]), (.agg [(.int .i64 (((drawX (IntKind.i64.wrap (d - 1)).toNat (s43.drop (atOf s42 (nx (13 : Int).toNat (s42.drop (atOf s41 (drawX (IntKind.i64.wrap (d - 1)).toNat (s41.drop (atOf s r).toNat)).2).toNat)).2).toNat)).1).op)), (.int .i64 (((drawX (IntKind.i64.wrap (d - 1)).toNat (s43.drop (atOf s42 (nx (13 : Int).toNat (s42.drop (atOf s41 (drawX (IntKind.i64.wrap (d - 1)).toNat (s41.drop (atOf s r).toNat)).2).toNat)).2).toNat)).1).value)), (.str (((drawX (IntKind.i64.wrap (d - 1)).toNat (s43.drop (atOf s42 (nx (13 : Int).toNat (s42.drop (atOf s41 (drawX (IntKind.i64.wrap (d - 1)).toNat (s41.drop (atOf s r).toNat)).2).toNat)).2).toNat)).1).name)), (.int .i64 (((drawX (IntKind.i64.wrap (d - 1)).toNat (s43.drop (atOf s42 (nx (13 : Int).toNat (s42.drop (atOf s41 (drawX (IntKind.i64.wrap (d - 1)).toNat (s41.drop (atOf s r).toNat)).2).toNat)).2).toNat)).1).slot)), (.int .i64 (((drawX (IntKind.i64.wrap (d - 1)).toNat (s43.drop (atOf s42 (nx (13 : Int).toNat (s42.drop (atOf s41 (drawX (IntKind.i64.wrap (d - 1)).toNat (s41.drop (atOf s r).toNat)).2).toNat)).2).toNat)).1).size)), (.sl 6 (((drawX (IntKind.i64.wrap (d - 1)).toNat (s43.drop (atOf s42 (nx (13 : Int).toNat (s42.drop (atOf s41 (drawX (IntKind.i64.wrap (d - 1)).toNat (s41.drop (atOf s r).toNat)).2).toNat)).2).toNat)).1).args))])]))]), [[(.d (.sl 1 xs)), (.d (.int .i64 (atOf s43 (drawX (IntKind.i64.wrap (d - 1)).toNat (s43.drop (atOf s42 (nx (13 : Int).toNat (s42.drop (atOf s41 (drawX (IntKind.i64.wrap (d - 1)).toNat (s41.drop (atOf s r).toNat)).2).toNat)).2).toNat)).2)))]]))
                        (.fail))
                      (.fail))
                    (.fail)))))))))


def outX (xs : List DV) (s : List UInt8) (p : Xp × List UInt8) : AV × Hp :=
  (.agg [.d (.int .i64 p.1.op), .d (.int .i64 p.1.value), .d (.str p.1.name), .d (.int .i64 p.1.slot), .d (.int .i64 p.1.size), .d (.sl 6 p.1.args)], [[.d (.sl 1 xs), .d (.int .i64 (atOf s p.2))]])

theorem tail_ok {N D k : Nat} {s : List UInt8} {xs : List DV} {r : List UInt8} (hs : unL unU8 xs = some s) (hl : (s.length : Int) ≤ 100000) (hr : r <:+ s) (hD : D ≤ N) (hD2 : D ≤ 1000) :
    (tailT N s xs ((D + 1 : Nat) : Int) k r).run = some (outX xs s (drawT (drawX D) D k r)) := by
  have g0 := at_ge hr
  have g1 := at_le (s := s) (r := r)
  have e0 := dropAt hr
  have b2 := nx_lt (n := 2) (by omega) r
  have b3 := nx_lt (n := 3) (by omega) r
  have b200 := nx_lt (n := 200) (by omega) r
  have hw : IntKind.i64.wrap (((D + 1 : Nat) : Int) - 1) = (D : Int) := by
    rw [wrap_in] <;> omega
  by_cases k2 : k < 2
  · simp [tailT, Tr.run_br, Tr.run_leaf, Tr.run_opt_, hs, hl, e0, g0, g1, k2, drawT, outX, show (k : Int) < 2 by omega]
  by_cases k4 : k < 4
  · have hsc : (nx 3 r).1 = 0 ∨ (nx 3 r).1 = 1 ∨ (nx 3 r).1 = 2 := by omega
    rcases hsc with h | h | h <;>
    simp [tailT, Tr.run_br, Tr.run_leaf, Tr.run_opt_, hs, hl, e0, g0, g1, k2, k4, h, drawT, outX, scName, show ¬ (k : Int) < 2 by omega, show (k : Int) < 4 by omega]
  by_cases k5 : k = 4
  · subst k5
    simp [tailT, Tr.run_br, Tr.run_leaf, Tr.run_opt_, hs, hl, e0, g0, g1, drawT, outX]
  by_cases k6 : k = 5
  · subst k6
    have hsc : (nx 3 r).1 = 0 ∨ (nx 3 r).1 = 1 ∨ (nx 3 r).1 = 2 := by omega
    rcases hsc with h | h | h <;>
    simp [tailT, Tr.run_br, Tr.run_leaf, Tr.run_opt_, hs, hl, e0, g0, g1, h, drawT, outX, unInt]
  have w200 : IntKind.i64.wrap (1 + ((nx 200 r).1 : Int)) = 1 + ((nx 200 r).1 : Int) := by rw [wrap_in] <;> omega
  by_cases k7 : k = 6
  · subst k7
    simp [tailT, Tr.run_br, Tr.run_leaf, Tr.run_opt_, hs, hl, e0, g0, g1, drawT, outX, w200]
  by_cases hD0 : D = 0
  · subst hD0
    simp [tailT, Tr.run_br, Tr.run_leaf, Tr.run_opt_, hs, hl, e0, g0, g1, drawT, outX, w200, k5, k6, k7, show ¬ (k : Int) < 2 by omega, show ¬ (k : Int) < 4 by omega, show ¬ (k : Int) = 4 by omega, show ¬ (k : Int) = 5 by omega, show ¬ (k : Int) = 6 by omega, k2, k4]
  have s2 := (nx_suf 2 r).trans hr
  have e2 := dropAt s2
  have g2 := at_ge s2
  have g3 := at_le (s := s) (r := (nx 2 r).2)
  have hD1 : (1 : Int) ≤ (D : Int) := by omega
  have hD3 : (D : Int) ≤ (N : Int) := by omega
  have hd1 : ¬ (((D + 1 : Nat) : Int) ≤ 1) := by omega
  have hd2 : (1 : Int) < (D : Int) + 1 := by omega
  have q2 : ¬ (k : Int) < 2 := by omega
  have q4 : ¬ (k : Int) < 4 := by omega
  have q5 : ¬ (k : Int) = 4 := by omega
  have q6 : ¬ (k : Int) = 5 := by omega
  have q7 : ¬ (k : Int) = 6 := by omega
  by_cases k8 : k = 7
  · subst k8
    have hsc : (nx 2 r).1 = 0 ∨ (nx 2 r).1 = 1 := by omega
    unfold tailT
    rw [hw]
    rcases hsc with h | h <;>
    simp [Tr.run_br, Tr.run_leaf, Tr.run_opt_, hs, hl, e0, g0, g1, e2, g2, g3, h, drawT, outX, hD0, hD1, hD3, hd1, hd2, arName, encXp, encX]
  have w8 : IntKind.i64.wrap (8 + ((nx 2 r).1 : Int)) = 8 + ((nx 2 r).1 : Int) := by rw [wrap_in] <;> omega
  by_cases k9 : k = 8
  · subst k9
    unfold tailT
    rw [hw]
    simp [Tr.run_br, Tr.run_leaf, Tr.run_opt_, hs, hl, e0, g0, g1, e2, g2, g3, drawT, outX, hD0, hD1, hD3, hd1, hd2, w8, encXp, encX]
  have q8 : ¬ (k : Int) = 7 := by omega
  have q9 : ¬ (k : Int) = 8 := by omega
  have s3 := (drawX_suf D r).trans hr
  have e3 := dropAt s3
  have g4 := at_ge s3
  have g5 := at_le (s := s) (r := (drawX D r).2)
  have b13 := nx_lt (n := 13) (by omega) (drawX D r).2
  have s4 := (nx_suf 13 (drawX D r).2).trans s3
  have e4 := dropAt s4
  have g6 := at_ge s4
  have g7 := at_le (s := s) (r := (nx 13 (drawX D r).2).2)
  have w13 : IntKind.i64.wrap (10 + ((nx 13 (drawX D r).2).1 : Int)) = 10 + ((nx 13 (drawX D r).2).1 : Int) := by rw [wrap_in] <;> omega
  unfold tailT
  rw [hw]
  simp [Tr.run_br, Tr.run_leaf, Tr.run_opt_, hs, hl, e0, g0, g1, e3, g4, g5, e4, g6, g7, drawT, outX, hD0, hD1, hD3, hd1, hd2, w13, encXp, encX, k2, k4, k5, k6, k7, k8, k9, q2, q4, q5, q6, q7, q8, q9]

theorem ok_dexpr : ∀ N : Nat, N ≤ 1000 → FnOK Tryd.prog gl 21 (dexprT N)
  | 0, _ => by
    refine ⟨⟨_, Tryd.func21, rfl⟩, fun ar H v H' h => ?_⟩
    unfold dexprT at h
    split at h
    · obtain ⟨s, hs, h⟩ := Tr.opt_some h
      rcases Tr.br_some h with ⟨h1, h2⟩ | ⟨_, h2⟩
      · have := of_decide_eq_true h1
        exfalso
        obtain ⟨_, _, _, h4, h5⟩ := this
        have : ((0 : Nat) : Int) = 0 := rfl
        omega
      · exact Tr.fail_some h2
    · exact Tr.fail_some h
  | N + 1, hN => by
    refine fn_of (X := Xe N) (xok_Xe N (ok_dexpr N (by omega)) 21) Tryd.func21 c_dexpr_eq (by kernel_rfl) (by simp only [Sums, c_dexpr, and_true]) ?_
    intro ar H o h
    unfold dexprT at h
    split at h
    · rename_i d xs a
      rw [tree_dexpr]
      obtain ⟨s, hs, h⟩ := Tr.opt_some h
      rcases Tr.br_some h with ⟨h1, h2⟩ | ⟨_, h2⟩
      · obtain ⟨h3, h4, h5, h6, h7⟩ := of_decide_eq_true h1
        obtain rfl := Tr.leaf_some h2
        obtain ⟨m, rfl⟩ := Int.eq_ofNat_of_zero_le (Int.le_trans (by omega) h6)
        obtain ⟨D, rfl⟩ : ∃ D, m = D + 1 := ⟨m - 1, by omega⟩
        refine Tr.opt_to hs (Tr.dec_yes ⟨h3, h4, h5, by omega, by omega⟩ ?_)
        have hr : (nx 12 (s.drop a.toNat)).2 <:+ s := (nx_suf _ _).trans (List.drop_suffix _ _)
        have b12 := nx_lt (n := 12) (by omega) (s.drop a.toNat)
        have go := fun k => tail_ok (k := k) hs h5 hr (show D ≤ N by omega) (by omega)
        show _ = some (outX xs s (drawX (D + 1) (s.drop a.toNat)))
        by_cases hD : D = 0
        · subst hD
          refine Tr.dec_yes (by omega) ?_
          by_cases h8 : 8 ≤ (nx 12 (s.drop a.toNat)).1
          · refine Tr.dec_yes (by show (8 : Int) ≤ ((nx 12 (s.drop a.toNat)).1 : Int); omega) ?_
            have hw : IntKind.i64.wrap (((nx (12 : Int).toNat (s.drop a.toNat)).1 : Int) - 8) = (((nx 12 (s.drop a.toNat)).1 - 8 : Nat) : Int) := by
              rw [show (12 : Int).toNat = 12 from rfl, wrap_in] <;> omega
            rw [hw]
            have := go ((nx 12 (s.drop a.toNat)).1 - 8)
            simp only [drawX, h8, and_self, if_true]
            exact this
          · refine Tr.dec_no (by show ¬ (8 : Int) ≤ ((nx 12 (s.drop a.toNat)).1 : Int); omega) ?_
            have := go ((nx 12 (s.drop a.toNat)).1)
            simp only [drawX, h8, and_false, if_false]
            exact this
        · refine Tr.dec_no (by omega) ?_
          have := go ((nx 12 (s.drop a.toNat)).1)
          simp only [drawX, hD, false_and, if_false]
          exact this
      · exact Tr.fail_some h2
    · exact Tr.fail_some h
end Go.AI.RD

/- Codes.Stmts, in sum. -/
namespace Go.AI.RD
open Go Go.Proofs
set_option maxRecDepth 10000
set_option linter.unusedVariables false
set_option linter.unusedSimpArgs false

theorem ok_dexpr3 : FnOK Tryd.prog gl 21 (dexprT 3) := ok_dexpr 3 (by decide)

def x0 : Xp := ⟨0, 0, [], 0, 0, []⟩

/-- A statement that is drawn, once its kind is. -/
def oneK (rec : Nat → List UInt8 → List St × List UInt8) (k : Nat) (r : List UInt8) : St × List UInt8 :=
  if k < 3 then (⟨1, scName (nx 3 r).1, 0, 0, x0, (drawX 3 (nx 3 r).2).1, [], []⟩, (drawX 3 (nx 3 r).2).2)
  else if k = 3 then (⟨2, arName (nx 2 r).1, 0, 0, (drawX 2 (nx 2 r).2).1, (drawX 2 (drawX 2 (nx 2 r).2).2).1, [], []⟩, (drawX 2 (drawX 2 (nx 2 r).2).2).2)
  else if k < 6 then (⟨5, [], 0, 0, (drawX 2 r).1, (drawX 2 (drawX 2 r).2).1, [], []⟩, (drawX 2 (drawX 2 r).2).2)
  else if k = 6 then (⟨6, [], 0, 0, x0, (drawX 2 r).1, [], []⟩, (drawX 2 r).2)
  else if k < 9 then (⟨3, [], 0, 0, x0, (drawX 2 r).1, (rec 2 (drawX 2 r).2).1.map encSt, (rec 1 (rec 2 (drawX 2 r).2).2).1.map encSt⟩, (rec 1 (rec 2 (drawX 2 r).2).2).2)
  else (⟨4, [], 0, 0, x0, (drawX 2 r).1, (rec 2 (drawX 2 r).2).1.map encSt, []⟩, (rec 2 (drawX 2 r).2).2)

def draw1 (rec : Nat → List UInt8 → List St × List UInt8) (d : Nat) (r : List UInt8) : St × List UInt8 :=
  oneK rec (if d = 0 ∧ 7 ≤ (nx 10 r).1 then (nx 10 r).1 - 7 else (nx 10 r).1) (nx 10 r).2

def drawL (rec : Nat → List UInt8 → List St × List UInt8) (d : Nat) : Nat → List UInt8 → List St × List UInt8
  | 0, r => ([], r)
  | n + 1, r => ((draw1 rec d r).1 :: (drawL rec d n (draw1 rec d r).2).1, (drawL rec d n (draw1 rec d r).2).2)

def drawS : Nat → Nat → List UInt8 → List St × List UInt8
  | 0, _, r => ([], r)
  | d + 1, m, r => drawL (drawS d) d (nx (m + 1) r).1 (nx (m + 1) r).2

theorem oneK_suf {rec : Nat → List UInt8 → List St × List UInt8} (h : ∀ m r, (rec m r).2 <:+ r) (k : Nat) (r : List UInt8) : (oneK rec k r).2 <:+ r := by
  unfold oneK
  split; · exact (drawX_suf _ _).trans (nx_suf _ _)
  split; · exact (drawX_suf _ _).trans ((drawX_suf _ _).trans (nx_suf _ _))
  split; · exact (drawX_suf _ _).trans (drawX_suf _ _)
  split; · exact drawX_suf _ _
  split; · exact (h _ _).trans ((h _ _).trans (drawX_suf _ _))
  exact (h _ _).trans (drawX_suf _ _)
theorem draw1_suf {rec : Nat → List UInt8 → List St × List UInt8} (h : ∀ m r, (rec m r).2 <:+ r) (d : Nat) (r : List UInt8) : (draw1 rec d r).2 <:+ r := (oneK_suf h _ _).trans (nx_suf _ _)
theorem drawL_suf {rec : Nat → List UInt8 → List St × List UInt8} (h : ∀ m r, (rec m r).2 <:+ r) (d : Nat) : ∀ (n : Nat) (r : List UInt8), (drawL rec d n r).2 <:+ r
  | 0, r => List.suffix_refl _
  | n + 1, r => (drawL_suf h d n _).trans (draw1_suf h d r)
theorem drawS_suf : ∀ (d m : Nat) (r : List UInt8), (drawS d m r).2 <:+ r
  | 0, _, r => List.suffix_refl _
  | d + 1, m, r => (drawL_suf (drawS_suf d) d _ _).trans (nx_suf _ _)

def dstmtsT (N : Nat) : FT
  | [.hp 0 0, .d (.int .i64 m), .d (.int .i64 d)], [[.d (.sl 1 xs), .d (.int .i64 a)]] => .opt (unL unU8 xs) fun s => .br (decide (0 ≤ a ∧ a ≤ s.length ∧ (s.length : Int) ≤ 100000 ∧ 0 ≤ m ∧ m ≤ 255 ∧ 1 ≤ d ∧ d ≤ N)) (.leaf (.d (.sl 18 ((drawS d.toNat m.toNat (s.drop a.toNat)).1.map encSt)), [[.d (.sl 1 xs), .d (.int .i64 (atOf s (drawS d.toNat m.toNat (s.drop a.toNat)).2))]])) .fail
  | _, _ => .fail

def L_dstmts_0 (N : Nat) : ST → Tr (Ex × ST)
  | ⟨[(0, .hp 0 0), (2, .d (.int .i64 d)), (7, .osl 18 ys), (8, .d (.int .i64 n))], [[.d (.sl 1 xs), .d (.int .i64 a)]]⟩ => .opt (unL unU8 xs) fun s => .br (decide (0 ≤ a ∧ a ≤ s.length ∧ (s.length : Int) ≤ 100000 ∧ 1 ≤ d ∧ d ≤ N + 1 ∧ 0 ≤ n ∧ n ≤ 256 ∧ ys.length + n ≤ 100000)) (.leaf ((.ext 0), ⟨[(7, .osl 18 (ys ++ (drawL (drawS (d.toNat - 1)) (d.toNat - 1) n.toNat (s.drop a.toNat)).1.map encSt))], [[.d (.sl 1 xs), .d (.int .i64 (atOf s (drawL (drawS (d.toNat - 1)) (d.toNat - 1) n.toNat (s.drop a.toNat)).2))]]⟩)) .fail
  | _ => .fail

noncomputable abbrev Xs (N : Nat) : TX := ⟨Tryd.prog, tbl [(18, nextT), (21, (dexprT 3)), (19, dstmtsT N)], iso, gl, vw⟩

theorem xok_Xs (N : Nat) (h_dstmts : FnOK Tryd.prog gl 19 (dstmtsT N)) (f : Nat) : XOK (Xs N) (ann f) gl := XOK.of base (l := [(18, nextT), (21, (dexprT 3)), (19, dstmtsT N)]) ⟨ok_next, ok_dexpr3, h_dstmts, trivial⟩ f

def l_dstmts_0 : CC := .seq (.seq (.region [
    ⟨.yes, (some 14), .move (.tmp 8), false, false, []⟩,
    ⟨.yes, (some 15), .binOp .gtr 3 (.tmp 14) (.const (.int .i64 (0))) 3, false, false, []⟩] [0, 2, 7, 8, 15]) <|
  .cond (.tmp 15)
    (.skip)
    (.exit 0)) <|
  .seq (.block 1 <| .seq (.region [
    ⟨.yes, (some 18), .move (.tmp 0), false, false, []⟩,
    ⟨.yes, (some 19), .call ⟨.value (.func 18), #[(.tmp 18), (.const (.int .i64 (10)))], #[24, 3]⟩, false, false, []⟩,
    ⟨.yes, (some 9), .assign (.tmp 19), true, false, []⟩] [0, 2, 7, 8, 9]) <|
  .seq (.seq (.region [
    ⟨.yes, (some 20), .move (.tmp 2), false, false, []⟩,
    ⟨.yes, (some 21), .binOp .leq 3 (.tmp 20) (.const (.int .i64 (1))) 3, false, false, []⟩,
    ⟨.yes, (some 22), .move (.tmp 21), true, false, []⟩,
    ⟨(.on 22 true), (some 23), .move (.tmp 9), false, false, []⟩,
    ⟨(.on 22 true), (some 24), .binOp .geq 3 (.tmp 23) (.const (.int .i64 (7))) 3, false, false, []⟩,
    ⟨.yes, (some 25), .pick (.tmp 22) (.tmp 24) (.const (.bool false)), false, false, []⟩] [0, 2, 7, 8, 9, 25]) <|
  .cond (.tmp 25)
    (.region [
      ⟨.yes, (some 26), .move (.tmp 9), true, false, []⟩,
      ⟨.yes, (some 27), .binOp .sub 3 (.tmp 26) (.const (.int .i64 (7))) 3, false, false, []⟩,
      ⟨.yes, (some 9), .assign (.tmp 27), true, false, []⟩] [0, 2, 7, 8, 9])
    (.skip)) <|
  .block 2 <| .seq (.region [
    ⟨.yes, (some 39), .move (.tmp 9), false, false, []⟩,
    ⟨.yes, (some 40), .binOp .lss 3 (.tmp 39) (.const (.int .i64 (3))) 3, false, false, []⟩,
    ⟨.yes, (some 38), .assign (.tmp 40), true, false, []⟩] [0, 2, 7, 8, 9, 38]) <|
  .cond (.tmp 38)
    (.drawn ⟨[0, 7, 9, 10], [], [0, 2, 7, 8]⟩ [
      ⟨(some 41), .move (.tmp 7), 27, "make.go:104", #[], none⟩,
      ⟨(some 42), .move (.tmp 0), 24, "make.go:104", #[], none⟩,
      ⟨(some 43), .call ⟨.value (.func 18), #[(.tmp 42), (.const (.int .i64 (3)))], #[24, 3]⟩, 3, "make.go:104", #[⟨1, .data⟩], none⟩,
      ⟨(some 44), .indexAddr 76 (.global 0) (.tmp 43), 0, "make.go:104", #[⟨2, .data⟩], none⟩,
      ⟨(some 45), .load 9 (.tmp 44), 9, "make.go:104", #[⟨3, .data⟩], none⟩,
      ⟨(some 46), .move (.tmp 0), 24, "make.go:104", #[], none⟩,
      ⟨(some 47), .call ⟨.value (.func 21), #[(.tmp 46), (.const (.int .i64 (3)))], #[24, 3]⟩, 56, "make.go:104", #[⟨5, .data⟩, ⟨2, .chain⟩], none⟩,
      ⟨(some 48), .build 59 #[(0, (.const (.int .i64 (1)))), (1, (.tmp 45)), (5, (.tmp 47))], 59, "make.go:104", #[⟨4, .data⟩, ⟨6, .data⟩], none⟩,
      ⟨(some 49), .buildSlice 27 1 #[(0, (.tmp 48))], 27, "make.go:104", #[⟨7, .data⟩], none⟩,
      ⟨(some 50), .call ⟨.builtin .append, #[(.tmp 41), (.tmp 49)], #[27, 27]⟩, 27, "make.go:104", #[⟨0, .data⟩, ⟨8, .data⟩, ⟨6, .chain⟩], none⟩,
      ⟨(some 7), .assign (.tmp 50), 27, "make.go:104", #[⟨9, .data⟩, ⟨9, .chain⟩, ⟨0, .phase⟩, ⟨1, .phase⟩, ⟨2, .phase⟩, ⟨3, .phase⟩, ⟨4, .phase⟩, ⟨5, .phase⟩, ⟨6, .phase⟩, ⟨7, .phase⟩, ⟨8, .phase⟩, ⟨9, .phase⟩], none⟩])
    (.seq (.region [
      ⟨.yes, (some 52), .move (.tmp 9), false, false, []⟩,
      ⟨.yes, (some 53), .binOp .eql 3 (.tmp 52) (.const (.int .i64 (3))) 3, false, false, []⟩,
      ⟨.yes, (some 51), .assign (.tmp 53), true, false, []⟩] [0, 2, 7, 8, 9, 51]) <|
    .cond (.tmp 51)
      (.drawn ⟨[0, 9, 11, 12], [], [0, 2, 7, 8]⟩ [
        ⟨(some 54), .move (.tmp 7), 27, "make.go:106", #[], none⟩,
        ⟨(some 55), .move (.tmp 0), 24, "make.go:106", #[], none⟩,
        ⟨(some 56), .call ⟨.value (.func 18), #[(.tmp 55), (.const (.int .i64 (2)))], #[24, 3]⟩, 3, "make.go:106", #[⟨1, .data⟩], none⟩,
        ⟨(some 57), .indexAddr 77 (.global 1) (.tmp 56), 0, "make.go:106", #[⟨2, .data⟩], none⟩,
        ⟨(some 58), .load 9 (.tmp 57), 9, "make.go:106", #[⟨3, .data⟩], none⟩,
        ⟨(some 59), .move (.tmp 0), 24, "make.go:106", #[], none⟩,
        ⟨(some 60), .call ⟨.value (.func 21), #[(.tmp 59), (.const (.int .i64 (2)))], #[24, 3]⟩, 56, "make.go:106", #[⟨5, .data⟩, ⟨2, .chain⟩], none⟩,
        ⟨(some 61), .move (.tmp 0), 24, "make.go:106", #[], none⟩,
        ⟨(some 62), .call ⟨.value (.func 21), #[(.tmp 61), (.const (.int .i64 (2)))], #[24, 3]⟩, 56, "make.go:106", #[⟨7, .data⟩, ⟨6, .chain⟩], none⟩,
        ⟨(some 63), .build 59 #[(0, (.const (.int .i64 (2)))), (1, (.tmp 58)), (4, (.tmp 60)), (5, (.tmp 62))], 59, "make.go:106", #[⟨4, .data⟩, ⟨6, .data⟩, ⟨8, .data⟩], none⟩,
        ⟨(some 64), .buildSlice 27 1 #[(0, (.tmp 63))], 27, "make.go:106", #[⟨9, .data⟩], none⟩,
        ⟨(some 65), .call ⟨.builtin .append, #[(.tmp 54), (.tmp 64)], #[27, 27]⟩, 27, "make.go:106", #[⟨0, .data⟩, ⟨10, .data⟩, ⟨8, .chain⟩], none⟩,
        ⟨(some 7), .assign (.tmp 65), 27, "make.go:106", #[⟨11, .data⟩, ⟨11, .chain⟩, ⟨0, .phase⟩, ⟨1, .phase⟩, ⟨2, .phase⟩, ⟨3, .phase⟩, ⟨4, .phase⟩, ⟨5, .phase⟩, ⟨6, .phase⟩, ⟨7, .phase⟩, ⟨8, .phase⟩, ⟨9, .phase⟩, ⟨10, .phase⟩, ⟨11, .phase⟩], none⟩])
      (.seq (.region [
        ⟨.yes, (some 67), .move (.tmp 9), false, false, []⟩,
        ⟨.yes, (some 68), .binOp .lss 3 (.tmp 67) (.const (.int .i64 (6))) 3, false, false, []⟩,
        ⟨.yes, (some 66), .assign (.tmp 68), true, false, []⟩] [0, 2, 7, 8, 9, 66]) <|
      .cond (.tmp 66)
        (.region [
          ⟨.yes, (some 69), .move (.tmp 7), true, false, [(some 18)]⟩,
          ⟨.yes, (some 70), .move (.tmp 0), false, false, []⟩,
          ⟨.yes, (some 71), .call ⟨.value (.func 21), #[(.tmp 70), (.const (.int .i64 (2)))], #[24, 3]⟩, false, false, [none, none, none, none, none, (some 6)]⟩,
          ⟨.yes, (some 72), .move (.tmp 0), false, false, []⟩,
          ⟨.yes, (some 73), .call ⟨.value (.func 21), #[(.tmp 72), (.const (.int .i64 (2)))], #[24, 3]⟩, false, false, [none, none, none, none, none, (some 6)]⟩,
          ⟨.yes, (some 74), .build 59 #[(0, (.const (.int .i64 (5)))), (4, (.tmp 71)), (5, (.tmp 73))], true, false, [none, none, none, none, none, none, none, none, none, (some 6), none, none, none, none, none, (some 6), (some 18), (some 18)]⟩,
          ⟨.yes, (some 75), .buildSlice 27 1 #[(0, (.tmp 74))], false, false, [(some 18)]⟩,
          ⟨.yes, (some 76), .call ⟨.builtin .append, #[(.tmp 69), (.tmp 75)], #[27, 27]⟩, true, false, [(some 18)]⟩,
          ⟨.yes, (some 7), .assign (.tmp 76), true, false, [(some 18)]⟩] [0, 2, 7, 8])
        (.seq (.region [
          ⟨.yes, (some 78), .move (.tmp 9), false, false, []⟩,
          ⟨.yes, (some 79), .binOp .eql 3 (.tmp 78) (.const (.int .i64 (6))) 3, false, false, []⟩,
          ⟨.yes, (some 77), .assign (.tmp 79), true, false, []⟩] [0, 2, 7, 8, 9, 77]) <|
        .cond (.tmp 77)
          (.region [
            ⟨.yes, (some 80), .move (.tmp 7), true, false, [(some 18)]⟩,
            ⟨.yes, (some 81), .move (.tmp 0), false, false, []⟩,
            ⟨.yes, (some 82), .call ⟨.value (.func 21), #[(.tmp 81), (.const (.int .i64 (2)))], #[24, 3]⟩, false, false, [none, none, none, none, none, (some 6)]⟩,
            ⟨.yes, (some 83), .build 59 #[(0, (.const (.int .i64 (6)))), (5, (.tmp 82))], true, false, [none, none, none, none, none, none, none, none, none, (some 6), none, none, none, none, none, (some 6), (some 18), (some 18)]⟩,
            ⟨.yes, (some 84), .buildSlice 27 1 #[(0, (.tmp 83))], false, false, [(some 18)]⟩,
            ⟨.yes, (some 85), .call ⟨.builtin .append, #[(.tmp 80), (.tmp 84)], #[27, 27]⟩, true, false, [(some 18)]⟩,
            ⟨.yes, (some 7), .assign (.tmp 85), true, false, [(some 18)]⟩] [0, 2, 7, 8])
          (.seq (.region [
            ⟨.yes, (some 87), .move (.tmp 9), true, false, []⟩,
            ⟨.yes, (some 88), .binOp .lss 3 (.tmp 87) (.const (.int .i64 (9))) 3, false, false, []⟩,
            ⟨.yes, (some 86), .assign (.tmp 88), true, false, []⟩] [0, 2, 7, 8, 86]) <|
          .cond (.tmp 86)
            (.region [
              ⟨.yes, (some 89), .move (.tmp 7), true, false, [(some 18)]⟩,
              ⟨.yes, (some 90), .move (.tmp 0), false, false, []⟩,
              ⟨.yes, (some 91), .call ⟨.value (.func 21), #[(.tmp 90), (.const (.int .i64 (2)))], #[24, 3]⟩, false, false, [none, none, none, none, none, (some 6)]⟩,
              ⟨.yes, (some 92), .move (.tmp 0), false, false, []⟩,
              ⟨.yes, (some 93), .move (.tmp 2), false, false, []⟩,
              ⟨.yes, (some 94), .binOp .sub 3 (.tmp 93) (.const (.int .i64 (1))) 3, false, false, []⟩,
              ⟨.yes, (some 95), .call ⟨.value (.func 19), #[(.tmp 92), (.const (.int .i64 (2))), (.tmp 94)], #[24, 3, 3]⟩, false, false, [(some 18)]⟩,
              ⟨.yes, (some 96), .move (.tmp 0), false, false, []⟩,
              ⟨.yes, (some 97), .move (.tmp 2), false, false, []⟩,
              ⟨.yes, (some 98), .binOp .sub 3 (.tmp 97) (.const (.int .i64 (1))) 3, false, false, []⟩,
              ⟨.yes, (some 99), .call ⟨.value (.func 19), #[(.tmp 96), (.const (.int .i64 (1))), (.tmp 98)], #[24, 3, 3]⟩, false, false, [(some 18)]⟩,
              ⟨.yes, (some 100), .build 59 #[(0, (.const (.int .i64 (3)))), (5, (.tmp 91)), (6, (.tmp 95)), (7, (.tmp 99))], true, false, [none, none, none, none, none, none, none, none, none, (some 6), none, none, none, none, none, (some 6), (some 18), (some 18)]⟩,
              ⟨.yes, (some 101), .buildSlice 27 1 #[(0, (.tmp 100))], false, false, [(some 18)]⟩,
              ⟨.yes, (some 102), .call ⟨.builtin .append, #[(.tmp 89), (.tmp 101)], #[27, 27]⟩, true, false, [(some 18)]⟩,
              ⟨.yes, (some 7), .assign (.tmp 102), true, false, [(some 18)]⟩] [0, 2, 7, 8])
            (.region [
              ⟨.yes, (some 28), .move (.tmp 7), true, false, [(some 18)]⟩,
              ⟨.yes, (some 29), .move (.tmp 0), false, false, []⟩,
              ⟨.yes, (some 30), .call ⟨.value (.func 21), #[(.tmp 29), (.const (.int .i64 (2)))], #[24, 3]⟩, false, false, [none, none, none, none, none, (some 6)]⟩,
              ⟨.yes, (some 31), .move (.tmp 0), false, false, []⟩,
              ⟨.yes, (some 32), .move (.tmp 2), false, false, []⟩,
              ⟨.yes, (some 33), .binOp .sub 3 (.tmp 32) (.const (.int .i64 (1))) 3, false, false, []⟩,
              ⟨.yes, (some 34), .call ⟨.value (.func 19), #[(.tmp 31), (.const (.int .i64 (2))), (.tmp 33)], #[24, 3, 3]⟩, false, false, [(some 18)]⟩,
              ⟨.yes, (some 35), .build 59 #[(0, (.const (.int .i64 (4)))), (5, (.tmp 30)), (6, (.tmp 34))], true, false, [none, none, none, none, none, none, none, none, none, (some 6), none, none, none, none, none, (some 6), (some 18), (some 18)]⟩,
              ⟨.yes, (some 36), .buildSlice 27 1 #[(0, (.tmp 35))], false, false, [(some 18)]⟩,
              ⟨.yes, (some 37), .call ⟨.builtin .append, #[(.tmp 28), (.tmp 36)], #[27, 27]⟩, true, false, [(some 18)]⟩,
              ⟨.yes, (some 7), .assign (.tmp 37), true, false, [(some 18)]⟩] [0, 2, 7, 8])))))) <|
  .region [
    ⟨.yes, (some 16), .move (.tmp 8), true, false, []⟩,
    ⟨.yes, (some 17), .binOp .sub 3 (.tmp 16) (.const (.int .i64 (1))) 3, false, false, []⟩,
    ⟨.yes, (some 8), .assign (.tmp 17), true, false, []⟩] [0, 2, 7, 8]

def c_dstmts (N : Nat) : CC := .seq (.region [
    ⟨.yes, (some 6), .assign (.const (.slice none 0 0)), false, false, [(some 18)]⟩] [0, 1, 2]) <|
  .seq (.region [
    ⟨.yes, (some 7), .assign (.const (.slice none 0 0)), false, false, [(some 18)]⟩] [0, 1, 2, 7]) <|
  .seq (.seq (.region [
    ⟨.yes, (some 10), .move (.tmp 0), false, false, []⟩,
    ⟨.yes, (some 11), .move (.tmp 1), true, false, []⟩,
    ⟨.yes, (some 12), .binOp .add 3 (.tmp 11) (.const (.int .i64 (1))) 3, false, false, []⟩,
    ⟨.yes, (some 13), .call ⟨.value (.func 18), #[(.tmp 10), (.tmp 12)], #[24, 3]⟩, false, false, []⟩,
    ⟨.yes, (some 8), .assign (.tmp 13), true, false, []⟩] [0, 2, 7, 8]) <|
  .block 0 <| .keep [0, 2, 7, 8] <| .sum (L_dstmts_0 N) (.loop l_dstmts_0)) <|
  .seq (.region [
    ⟨.yes, (some 103), .move (.tmp 7), true, false, [(some 18)]⟩,
    ⟨.yes, (some 6), .assign (.tmp 103), true, false, [(some 18)]⟩] [6]) <|
  .ret

theorem c_dstmts_eq (N : Nat) : ∃ c, Tryd.f19.body = some c ∧ codeOK Tryd.f19.ntmps c = true ∧ comp Tryd.prog (ann 19) c = erase (c_dstmts N) := ⟨_, rfl, by kernel_rfl, by kernel_rfl⟩

theorem body_dstmts_0 (N : Nat) (xs ys : List DV) (d n a : Int) : bodyT (Xs N) [0, 2, 7, 8] [6] [(0, [7])] l_dstmts_0 ⟨[(0, .hp 0 0), (2, .d (.int .i64 d)), (7, .osl 18 ys), (8, .d (.int .i64 n))], [[.d (.sl 1 xs), .d (.int .i64 a)]]⟩ = (
    .br (decide ((0 : Int) < n))
    (.opt (unL unU8 xs) fun s1 => .br (decide (0 ≤ a ∧ a ≤ s1.length ∧ (s1.length : Int) ≤ 100000 ∧ 0 < (10 : Int) ∧ (10 : Int) ≤ 256))
      (.br (decide (d ≤ 1))
        (.br (decide ((7 : Int) ≤ ((nx (10 : Int).toNat (s1.drop a.toNat)).1 : Int)))
          (.br (decide ((IntKind.i64.wrap (((nx (10 : Int).toNat (s1.drop a.toNat)).1 : Int) - 7)) < 3))
            (.opt (unL unU8 xs) fun s2 => .br (decide (0 ≤ (atOf s1 (nx (10 : Int).toNat (s1.drop a.toNat)).2) ∧ (atOf s1 (nx (10 : Int).toNat (s1.drop a.toNat)).2) ≤ s2.length ∧ (s2.length : Int) ≤ 100000 ∧ 0 < (3 : Int) ∧ (3 : Int) ≤ 256))
              (.br (decide (((nx (3 : Int).toNat (s2.drop (atOf s1 (nx (10 : Int).toNat (s1.drop a.toNat)).2).toNat)).1 : Int) = ((0 : Nat) : Int)))
                (.opt (unL unU8 xs) fun s3 => .br (decide (0 ≤ (atOf s2 (nx (3 : Int).toNat (s2.drop (atOf s1 (nx (10 : Int).toNat (s1.drop a.toNat)).2).toNat)).2) ∧ (atOf s2 (nx (3 : Int).toNat (s2.drop (atOf s1 (nx (10 : Int).toNat (s1.drop a.toNat)).2).toNat)).2) ≤ s3.length ∧ (s3.length : Int) ≤ 100000 ∧ 1 ≤ (3 : Int) ∧ (3 : Int) ≤ ((3 : Nat) : Int)))
                  (.br (decide ((ys.length + ([(.agg [(.int .i64 1), (.str [120]), (.int .i64 0), (.int .i64 0), (.int .i64 0), (.int .i64 0), (.str []), (.int .i64 0), (.int .i64 0), (.sl 6 []), (.int .i64 (((drawX (3 : Int).toNat (s3.drop (atOf s2 (nx (3 : Int).toNat (s2.drop (atOf s1 (nx (10 : Int).toNat (s1.drop a.toNat)).2).toNat)).2).toNat)).1).op)), (.int .i64 (((drawX (3 : Int).toNat (s3.drop (atOf s2 (nx (3 : Int).toNat (s2.drop (atOf s1 (nx (10 : Int).toNat (s1.drop a.toNat)).2).toNat)).2).toNat)).1).value)), (.str (((drawX (3 : Int).toNat (s3.drop (atOf s2 (nx (3 : Int).toNat (s2.drop (atOf s1 (nx (10 : Int).toNat (s1.drop a.toNat)).2).toNat)).2).toNat)).1).name)), (.int .i64 (((drawX (3 : Int).toNat (s3.drop (atOf s2 (nx (3 : Int).toNat (s2.drop (atOf s1 (nx (10 : Int).toNat (s1.drop a.toNat)).2).toNat)).2).toNat)).1).slot)), (.int .i64 (((drawX (3 : Int).toNat (s3.drop (atOf s2 (nx (3 : Int).toNat (s2.drop (atOf s1 (nx (10 : Int).toNat (s1.drop a.toNat)).2).toNat)).2).toNat)).1).size)), (.sl 6 (((drawX (3 : Int).toNat (s3.drop (atOf s2 (nx (3 : Int).toNat (s2.drop (atOf s1 (nx (10 : Int).toNat (s1.drop a.toNat)).2).toNat)).2).toNat)).1).args)), (.sl 18 []), (.sl 18 [])])] : List DV).length) * 232 ≤ 70368744177664))
                    (.leaf (.nrm, ⟨[(0, (.hp 0 0)), (2, (.d (.int .i64 d))), (7, (.osl 18 (ys ++ [(.agg [(.int .i64 1), (.str [120]), (.int .i64 0), (.int .i64 0), (.int .i64 0), (.int .i64 0), (.str []), (.int .i64 0), (.int .i64 0), (.sl 6 []), (.int .i64 (((drawX (3 : Int).toNat (s3.drop (atOf s2 (nx (3 : Int).toNat (s2.drop (atOf s1 (nx (10 : Int).toNat (s1.drop a.toNat)).2).toNat)).2).toNat)).1).op)), (.int .i64 (((drawX (3 : Int).toNat (s3.drop (atOf s2 (nx (3 : Int).toNat (s2.drop (atOf s1 (nx (10 : Int).toNat (s1.drop a.toNat)).2).toNat)).2).toNat)).1).value)), (.str (((drawX (3 : Int).toNat (s3.drop (atOf s2 (nx (3 : Int).toNat (s2.drop (atOf s1 (nx (10 : Int).toNat (s1.drop a.toNat)).2).toNat)).2).toNat)).1).name)), (.int .i64 (((drawX (3 : Int).toNat (s3.drop (atOf s2 (nx (3 : Int).toNat (s2.drop (atOf s1 (nx (10 : Int).toNat (s1.drop a.toNat)).2).toNat)).2).toNat)).1).slot)), (.int .i64 (((drawX (3 : Int).toNat (s3.drop (atOf s2 (nx (3 : Int).toNat (s2.drop (atOf s1 (nx (10 : Int).toNat (s1.drop a.toNat)).2).toNat)).2).toNat)).1).size)), (.sl 6 (((drawX (3 : Int).toNat (s3.drop (atOf s2 (nx (3 : Int).toNat (s2.drop (atOf s1 (nx (10 : Int).toNat (s1.drop a.toNat)).2).toNat)).2).toNat)).1).args)), (.sl 18 []), (.sl 18 [])])]))), (8, (.d (.int .i64 (IntKind.i64.wrap (n - 1)))))], [[(.d (.sl 1 xs)), (.d (.int .i64 (atOf s3 (drawX (3 : Int).toNat (s3.drop (atOf s2 (nx (3 : Int).toNat (s2.drop (atOf s1 (nx (10 : Int).toNat (s1.drop a.toNat)).2).toNat)).2).toNat)).2)))]]⟩))
                    (.fail))
                  (.fail))
                (.br (decide (((nx (3 : Int).toNat (s2.drop (atOf s1 (nx (10 : Int).toNat (s1.drop a.toNat)).2).toNat)).1 : Int) = ((1 : Nat) : Int)))
                  (.opt (unL unU8 xs) fun s4 => .br (decide (0 ≤ (atOf s2 (nx (3 : Int).toNat (s2.drop (atOf s1 (nx (10 : Int).toNat (s1.drop a.toNat)).2).toNat)).2) ∧ (atOf s2 (nx (3 : Int).toNat (s2.drop (atOf s1 (nx (10 : Int).toNat (s1.drop a.toNat)).2).toNat)).2) ≤ s4.length ∧ (s4.length : Int) ≤ 100000 ∧ 1 ≤ (3 : Int) ∧ (3 : Int) ≤ ((3 : Nat) : Int)))
                    (.br (decide ((ys.length + ([(.agg [(.int .i64 1), (.str [121]), (.int .i64 0), (.int .i64 0), (.int .i64 0), (.int .i64 0), (.str []), (.int .i64 0), (.int .i64 0), (.sl 6 []), (.int .i64 (((drawX (3 : Int).toNat (s4.drop (atOf s2 (nx (3 : Int).toNat (s2.drop (atOf s1 (nx (10 : Int).toNat (s1.drop a.toNat)).2).toNat)).2).toNat)).1).op)), (.int .i64 (((drawX (3 : Int).toNat (s4.drop (atOf s2 (nx (3 : Int).toNat (s2.drop (atOf s1 (nx (10 : Int).toNat (s1.drop a.toNat)).2).toNat)).2).toNat)).1).value)), (.str (((drawX (3 : Int).toNat (s4.drop (atOf s2 (nx (3 : Int).toNat (s2.drop (atOf s1 (nx (10 : Int).toNat (s1.drop a.toNat)).2).toNat)).2).toNat)).1).name)), (.int .i64 (((drawX (3 : Int).toNat (s4.drop (atOf s2 (nx (3 : Int).toNat (s2.drop (atOf s1 (nx (10 : Int).toNat (s1.drop a.toNat)).2).toNat)).2).toNat)).1).slot)), (.int .i64 (((drawX (3 : Int).toNat (s4.drop (atOf s2 (nx (3 : Int).toNat (s2.drop (atOf s1 (nx (10 : Int).toNat (s1.drop a.toNat)).2).toNat)).2).toNat)).1).size)), (.sl 6 (((drawX (3 : Int).toNat (s4.drop (atOf s2 (nx (3 : Int).toNat (s2.drop (atOf s1 (nx (10 : Int).toNat (s1.drop a.toNat)).2).toNat)).2).toNat)).1).args)), (.sl 18 []), (.sl 18 [])])] : List DV).length) * 232 ≤ 70368744177664))
                      (.leaf (.nrm, ⟨[(0, (.hp 0 0)), (2, (.d (.int .i64 d))), (7, (.osl 18 (ys ++ [(.agg [(.int .i64 1), (.str [121]), (.int .i64 0), (.int .i64 0), (.int .i64 0), (.int .i64 0), (.str []), (.int .i64 0), (.int .i64 0), (.sl 6 []), (.int .i64 (((drawX (3 : Int).toNat (s4.drop (atOf s2 (nx (3 : Int).toNat (s2.drop (atOf s1 (nx (10 : Int).toNat (s1.drop a.toNat)).2).toNat)).2).toNat)).1).op)), (.int .i64 (((drawX (3 : Int).toNat (s4.drop (atOf s2 (nx (3 : Int).toNat (s2.drop (atOf s1 (nx (10 : Int).toNat (s1.drop a.toNat)).2).toNat)).2).toNat)).1).value)), (.str (((drawX (3 : Int).toNat (s4.drop (atOf s2 (nx (3 : Int).toNat (s2.drop (atOf s1 (nx (10 : Int).toNat (s1.drop a.toNat)).2).toNat)).2).toNat)).1).name)), (.int .i64 (((drawX (3 : Int).toNat (s4.drop (atOf s2 (nx (3 : Int).toNat (s2.drop (atOf s1 (nx (10 : Int).toNat (s1.drop a.toNat)).2).toNat)).2).toNat)).1).slot)), (.int .i64 (((drawX (3 : Int).toNat (s4.drop (atOf s2 (nx (3 : Int).toNat (s2.drop (atOf s1 (nx (10 : Int).toNat (s1.drop a.toNat)).2).toNat)).2).toNat)).1).size)), (.sl 6 (((drawX (3 : Int).toNat (s4.drop (atOf s2 (nx (3 : Int).toNat (s2.drop (atOf s1 (nx (10 : Int).toNat (s1.drop a.toNat)).2).toNat)).2).toNat)).1).args)), (.sl 18 []), (.sl 18 [])])]))), (8, (.d (.int .i64 (IntKind.i64.wrap (n - 1)))))], [[(.d (.sl 1 xs)), (.d (.int .i64 (atOf s4 (drawX (3 : Int).toNat (s4.drop (atOf s2 (nx (3 : Int).toNat (s2.drop (atOf s1 (nx (10 : Int).toNat (s1.drop a.toNat)).2).toNat)).2).toNat)).2)))]]⟩))
                      (.fail))
                    (.fail))
                  (.br (decide (((nx (3 : Int).toNat (s2.drop (atOf s1 (nx (10 : Int).toNat (s1.drop a.toNat)).2).toNat)).1 : Int) = ((2 : Nat) : Int)))
                    (.opt (unL unU8 xs) fun s5 => .br (decide (0 ≤ (atOf s2 (nx (3 : Int).toNat (s2.drop (atOf s1 (nx (10 : Int).toNat (s1.drop a.toNat)).2).toNat)).2) ∧ (atOf s2 (nx (3 : Int).toNat (s2.drop (atOf s1 (nx (10 : Int).toNat (s1.drop a.toNat)).2).toNat)).2) ≤ s5.length ∧ (s5.length : Int) ≤ 100000 ∧ 1 ≤ (3 : Int) ∧ (3 : Int) ≤ ((3 : Nat) : Int)))
                      (.br (decide ((ys.length + ([(.agg [(.int .i64 1), (.str [122]), (.int .i64 0), (.int .i64 0), (.int .i64 0), (.int .i64 0), (.str []), (.int .i64 0), (.int .i64 0), (.sl 6 []), (.int .i64 (((drawX (3 : Int).toNat (s5.drop (atOf s2 (nx (3 : Int).toNat (s2.drop (atOf s1 (nx (10 : Int).toNat (s1.drop a.toNat)).2).toNat)).2).toNat)).1).op)), (.int .i64 (((drawX (3 : Int).toNat (s5.drop (atOf s2 (nx (3 : Int).toNat (s2.drop (atOf s1 (nx (10 : Int).toNat (s1.drop a.toNat)).2).toNat)).2).toNat)).1).value)), (.str (((drawX (3 : Int).toNat (s5.drop (atOf s2 (nx (3 : Int).toNat (s2.drop (atOf s1 (nx (10 : Int).toNat (s1.drop a.toNat)).2).toNat)).2).toNat)).1).name)), (.int .i64 (((drawX (3 : Int).toNat (s5.drop (atOf s2 (nx (3 : Int).toNat (s2.drop (atOf s1 (nx (10 : Int).toNat (s1.drop a.toNat)).2).toNat)).2).toNat)).1).slot)), (.int .i64 (((drawX (3 : Int).toNat (s5.drop (atOf s2 (nx (3 : Int).toNat (s2.drop (atOf s1 (nx (10 : Int).toNat (s1.drop a.toNat)).2).toNat)).2).toNat)).1).size)), (.sl 6 (((drawX (3 : Int).toNat (s5.drop (atOf s2 (nx (3 : Int).toNat (s2.drop (atOf s1 (nx (10 : Int).toNat (s1.drop a.toNat)).2).toNat)).2).toNat)).1).args)), (.sl 18 []), (.sl 18 [])])] : List DV).length) * 232 ≤ 70368744177664))
                        (.leaf (.nrm, ⟨[(0, (.hp 0 0)), (2, (.d (.int .i64 d))), (7, (.osl 18 (ys ++ [(.agg [(.int .i64 1), (.str [122]), (.int .i64 0), (.int .i64 0), (.int .i64 0), (.int .i64 0), (.str []), (.int .i64 0), (.int .i64 0), (.sl 6 []), (.int .i64 (((drawX (3 : Int).toNat (s5.drop (atOf s2 (nx (3 : Int).toNat (s2.drop (atOf s1 (nx (10 : Int).toNat (s1.drop a.toNat)).2).toNat)).2).toNat)).1).op)), (.int .i64 (((drawX (3 : Int).toNat (s5.drop (atOf s2 (nx (3 : Int).toNat (s2.drop (atOf s1 (nx (10 : Int).toNat (s1.drop a.toNat)).2).toNat)).2).toNat)).1).value)), (.str (((drawX (3 : Int).toNat (s5.drop (atOf s2 (nx (3 : Int).toNat (s2.drop (atOf s1 (nx (10 : Int).toNat (s1.drop a.toNat)).2).toNat)).2).toNat)).1).name)), (.int .i64 (((drawX (3 : Int).toNat (s5.drop (atOf s2 (nx (3 : Int).toNat (s2.drop (atOf s1 (nx (10 : Int).toNat (s1.drop a.toNat)).2).toNat)).2).toNat)).1).slot)), (.int .i64 (((drawX (3 : Int).toNat (s5.drop (atOf s2 (nx (3 : Int).toNat (s2.drop (atOf s1 (nx (10 : Int).toNat (s1.drop a.toNat)).2).toNat)).2).toNat)).1).size)), (.sl 6 (((drawX (3 : Int).toNat (s5.drop (atOf s2 (nx (3 : Int).toNat (s2.drop (atOf s1 (nx (10 : Int).toNat (s1.drop a.toNat)).2).toNat)).2).toNat)).1).args)), (.sl 18 []), (.sl 18 [])])]))), (8, (.d (.int .i64 (IntKind.i64.wrap (n - 1)))))], [[(.d (.sl 1 xs)), (.d (.int .i64 (atOf s5 (drawX (3 : Int).toNat (s5.drop (atOf s2 (nx (3 : Int).toNat (s2.drop (atOf s1 (nx (10 : Int).toNat (s1.drop a.toNat)).2).toNat)).2).toNat)).2)))]]⟩))
                        (.fail))
                      (.fail))
                    (.fail))))
              (.fail))
            (.br (decide ((IntKind.i64.wrap (((nx (10 : Int).toNat (s1.drop a.toNat)).1 : Int) - 7)) = 3))
              (.opt (unL unU8 xs) fun s6 => .br (decide (0 ≤ (atOf s1 (nx (10 : Int).toNat (s1.drop a.toNat)).2) ∧ (atOf s1 (nx (10 : Int).toNat (s1.drop a.toNat)).2) ≤ s6.length ∧ (s6.length : Int) ≤ 100000 ∧ 0 < (2 : Int) ∧ (2 : Int) ≤ 256))
                (.br (decide (((nx (2 : Int).toNat (s6.drop (atOf s1 (nx (10 : Int).toNat (s1.drop a.toNat)).2).toNat)).1 : Int) = ((0 : Nat) : Int)))
                  (.opt (unL unU8 xs) fun s7 => .br (decide (0 ≤ (atOf s6 (nx (2 : Int).toNat (s6.drop (atOf s1 (nx (10 : Int).toNat (s1.drop a.toNat)).2).toNat)).2) ∧ (atOf s6 (nx (2 : Int).toNat (s6.drop (atOf s1 (nx (10 : Int).toNat (s1.drop a.toNat)).2).toNat)).2) ≤ s7.length ∧ (s7.length : Int) ≤ 100000 ∧ 1 ≤ (2 : Int) ∧ (2 : Int) ≤ ((3 : Nat) : Int)))
                    (.opt (unL unU8 xs) fun s8 => .br (decide (0 ≤ (atOf s7 (drawX (2 : Int).toNat (s7.drop (atOf s6 (nx (2 : Int).toNat (s6.drop (atOf s1 (nx (10 : Int).toNat (s1.drop a.toNat)).2).toNat)).2).toNat)).2) ∧ (atOf s7 (drawX (2 : Int).toNat (s7.drop (atOf s6 (nx (2 : Int).toNat (s6.drop (atOf s1 (nx (10 : Int).toNat (s1.drop a.toNat)).2).toNat)).2).toNat)).2) ≤ s8.length ∧ (s8.length : Int) ≤ 100000 ∧ 1 ≤ (2 : Int) ∧ (2 : Int) ≤ ((3 : Nat) : Int)))
                      (.br (decide ((ys.length + ([(.agg [(.int .i64 2), (.str [97]), (.int .i64 0), (.int .i64 0), (.int .i64 (((drawX (2 : Int).toNat (s7.drop (atOf s6 (nx (2 : Int).toNat (s6.drop (atOf s1 (nx (10 : Int).toNat (s1.drop a.toNat)).2).toNat)).2).toNat)).1).op)), (.int .i64 (((drawX (2 : Int).toNat (s7.drop (atOf s6 (nx (2 : Int).toNat (s6.drop (atOf s1 (nx (10 : Int).toNat (s1.drop a.toNat)).2).toNat)).2).toNat)).1).value)), (.str (((drawX (2 : Int).toNat (s7.drop (atOf s6 (nx (2 : Int).toNat (s6.drop (atOf s1 (nx (10 : Int).toNat (s1.drop a.toNat)).2).toNat)).2).toNat)).1).name)), (.int .i64 (((drawX (2 : Int).toNat (s7.drop (atOf s6 (nx (2 : Int).toNat (s6.drop (atOf s1 (nx (10 : Int).toNat (s1.drop a.toNat)).2).toNat)).2).toNat)).1).slot)), (.int .i64 (((drawX (2 : Int).toNat (s7.drop (atOf s6 (nx (2 : Int).toNat (s6.drop (atOf s1 (nx (10 : Int).toNat (s1.drop a.toNat)).2).toNat)).2).toNat)).1).size)), (.sl 6 (((drawX (2 : Int).toNat (s7.drop (atOf s6 (nx (2 : Int).toNat (s6.drop (atOf s1 (nx (10 : Int).toNat (s1.drop a.toNat)).2).toNat)).2).toNat)).1).args)), (.int .i64 (((drawX (2 : Int).toNat (s8.drop (atOf s7 (drawX (2 : Int).toNat (s7.drop (atOf s6 (nx (2 : Int).toNat (s6.drop (atOf s1 (nx (10 : Int).toNat (s1.drop a.toNat)).2).toNat)).2).toNat)).2).toNat)).1).op)), (.int .i64 (((drawX (2 : Int).toNat (s8.drop (atOf s7 (drawX (2 : Int).toNat (s7.drop (atOf s6 (nx (2 : Int).toNat (s6.drop (atOf s1 (nx (10 : Int).toNat (s1.drop a.toNat)).2).toNat)).2).toNat)).2).toNat)).1).value)), (.str (((drawX (2 : Int).toNat (s8.drop (atOf s7 (drawX (2 : Int).toNat (s7.drop (atOf s6 (nx (2 : Int).toNat (s6.drop (atOf s1 (nx (10 : Int).toNat (s1.drop a.toNat)).2).toNat)).2).toNat)).2).toNat)).1).name)), (.int .i64 (((drawX (2 : Int).toNat (s8.drop (atOf s7 (drawX (2 : Int).toNat (s7.drop (atOf s6 (nx (2 : Int).toNat (s6.drop (atOf s1 (nx (10 : Int).toNat (s1.drop a.toNat)).2).toNat)).2).toNat)).2).toNat)).1).slot)), (.int .i64 (((drawX (2 : Int).toNat (s8.drop (atOf s7 (drawX (2 : Int).toNat (s7.drop (atOf s6 (nx (2 : Int).toNat (s6.drop (atOf s1 (nx (10 : Int).toNat (s1.drop a.toNat)).2).toNat)).2).toNat)).2).toNat)).1).size)), (.sl 6 (((drawX (2 : Int).toNat (s8.drop (atOf s7 (drawX (2 : Int).toNat (s7.drop (atOf s6 (nx (2 : Int).toNat (s6.drop (atOf s1 (nx (10 : Int).toNat (s1.drop a.toNat)).2).toNat)).2).toNat)).2).toNat)).1).args)), (.sl 18 []), (.sl 18 [])])] : List DV).length) * 232 ≤ 70368744177664))
                        (.leaf (.nrm, ⟨[(0, (.hp 0 0)), (2, (.d (.int .i64 d))), (7, (.osl 18 (ys ++ [(.agg [(.int .i64 2), (.str [97]), (.int .i64 0), (.int .i64 0), (.int .i64 (((drawX (2 : Int).toNat (s7.drop (atOf s6 (nx (2 : Int).toNat (s6.drop (atOf s1 (nx (10 : Int).toNat (s1.drop a.toNat)).2).toNat)).2).toNat)).1).op)), (.int .i64 (((drawX (2 : Int).toNat (s7.drop (atOf s6 (nx (2 : Int).toNat (s6.drop (atOf s1 (nx (10 : Int).toNat (s1.drop a.toNat)).2).toNat)).2).toNat)).1).value)), (.str (((drawX (2 : Int).toNat (s7.drop (atOf s6 (nx (2 : Int).toNat (s6.drop (atOf s1 (nx (10 : Int).toNat (s1.drop a.toNat)).2).toNat)).2).toNat)).1).name)), (.int .i64 (((drawX (2 : Int).toNat (s7.drop (atOf s6 (nx (2 : Int).toNat (s6.drop (atOf s1 (nx (10 : Int).toNat (s1.drop a.toNat)).2).toNat)).2).toNat)).1).slot)), (.int .i64 (((drawX (2 : Int).toNat (s7.drop (atOf s6 (nx (2 : Int).toNat (s6.drop (atOf s1 (nx (10 : Int).toNat (s1.drop a.toNat)).2).toNat)).2).toNat)).1).size)), (.sl 6 (((drawX (2 : Int).toNat (s7.drop (atOf s6 (nx (2 : Int).toNat (s6.drop (atOf s1 (nx (10 : Int).toNat (s1.drop a.toNat)).2).toNat)).2).toNat)).1).args)), (.int .i64 (((drawX (2 : Int).toNat (s8.drop (atOf s7 (drawX (2 : Int).toNat (s7.drop (atOf s6 (nx (2 : Int).toNat (s6.drop (atOf s1 (nx (10 : Int).toNat (s1.drop a.toNat)).2).toNat)).2).toNat)).2).toNat)).1).op)), (.int .i64 (((drawX (2 : Int).toNat (s8.drop (atOf s7 (drawX (2 : Int).toNat (s7.drop (atOf s6 (nx (2 : Int).toNat (s6.drop (atOf s1 (nx (10 : Int).toNat (s1.drop a.toNat)).2).toNat)).2).toNat)).2).toNat)).1).value)), (.str (((drawX (2 : Int).toNat (s8.drop (atOf s7 (drawX (2 : Int).toNat (s7.drop (atOf s6 (nx (2 : Int).toNat (s6.drop (atOf s1 (nx (10 : Int).toNat (s1.drop a.toNat)).2).toNat)).2).toNat)).2).toNat)).1).name)), (.int .i64 (((drawX (2 : Int).toNat (s8.drop (atOf s7 (drawX (2 : Int).toNat (s7.drop (atOf s6 (nx (2 : Int).toNat (s6.drop (atOf s1 (nx (10 : Int).toNat (s1.drop a.toNat)).2).toNat)).2).toNat)).2).toNat)).1).slot)), (.int .i64 (((drawX (2 : Int).toNat (s8.drop (atOf s7 (drawX (2 : Int).toNat (s7.drop (atOf s6 (nx (2 : Int).toNat (s6.drop (atOf s1 (nx (10 : Int).toNat (s1.drop a.toNat)).2).toNat)).2).toNat)).2).toNat)).1).size)), (.sl 6 (((drawX (2 : Int).toNat (s8.drop (atOf s7 (drawX (2 : Int).toNat (s7.drop (atOf s6 (nx (2 : Int).toNat (s6.drop (atOf s1 (nx (10 : Int).toNat (s1.drop a.toNat)).2).toNat)).2).toNat)).2).toNat)).1).args)), (.sl 18 []), (.sl 18 [])])]))), (8, (.d (.int .i64 (IntKind.i64.wrap (n - 1)))))], [[(.d (.sl 1 xs)), (.d (.int .i64 (atOf s8 (drawX (2 : Int).toNat (s8.drop (atOf s7 (drawX (2 : Int).toNat (s7.drop (atOf s6 (nx (2 : Int).toNat (s6.drop (atOf s1 (nx (10 : Int).toNat (s1.drop a.toNat)).2).toNat)).2).toNat)).2).toNat)).2)))]]⟩))
                        (.fail))
                      (.fail))
                    (.fail))
                  (.br (decide (((nx (2 : Int).toNat (s6.drop (atOf s1 (nx (10 : Int).toNat (s1.drop a.toNat)).2).toNat)).1 : Int) = ((1 : Nat) : Int)))
                    (.opt (unL unU8 xs) fun s9 => .br (decide (0 ≤ (atOf s6 (nx (2 : Int).toNat (s6.drop (atOf s1 (nx (10 : Int).toNat (s1.drop a.toNat)).2).toNat)).2) ∧ (atOf s6 (nx (2 : Int).toNat (s6.drop (atOf s1 (nx (10 : Int).toNat (s1.drop a.toNat)).2).toNat)).2) ≤ s9.length ∧ (s9.length : Int) ≤ 100000 ∧ 1 ≤ (2 : Int) ∧ (2 : Int) ≤ ((3 : Nat) : Int)))
                      (.opt (unL unU8 xs) fun s10 => .br (decide (0 ≤ (atOf s9 (drawX (2 : Int).toNat (s9.drop (atOf s6 (nx (2 : Int).toNat (s6.drop (atOf s1 (nx (10 : Int).toNat (s1.drop a.toNat)).2).toNat)).2).toNat)).2) ∧ (atOf s9 (drawX (2 : Int).toNat (s9.drop (atOf s6 (nx (2 : Int).toNat (s6.drop (atOf s1 (nx (10 : Int).toNat (s1.drop a.toNat)).2).toNat)).2).toNat)).2) ≤ s10.length ∧ (s10.length : Int) ≤ 100000 ∧ 1 ≤ (2 : Int) ∧ (2 : Int) ≤ ((3 : Nat) : Int)))
                        (.br (decide ((ys.length + ([(.agg [(.int .i64 2), (.str [98]), (.int .i64 0), (.int .i64 0), (.int .i64 (((drawX (2 : Int).toNat (s9.drop (atOf s6 (nx (2 : Int).toNat (s6.drop (atOf s1 (nx (10 : Int).toNat (s1.drop a.toNat)).2).toNat)).2).toNat)).1).op)), (.int .i64 (((drawX (2 : Int).toNat (s9.drop (atOf s6 (nx (2 : Int).toNat (s6.drop (atOf s1 (nx (10 : Int).toNat (s1.drop a.toNat)).2).toNat)).2).toNat)).1).value)), (.str (((drawX (2 : Int).toNat (s9.drop (atOf s6 (nx (2 : Int).toNat (s6.drop (atOf s1 (nx (10 : Int).toNat (s1.drop a.toNat)).2).toNat)).2).toNat)).1).name)), (.int .i64 (((drawX (2 : Int).toNat (s9.drop (atOf s6 (nx (2 : Int).toNat (s6.drop (atOf s1 (nx (10 : Int).toNat (s1.drop a.toNat)).2).toNat)).2).toNat)).1).slot)), (.int .i64 (((drawX (2 : Int).toNat (s9.drop (atOf s6 (nx (2 : Int).toNat (s6.drop (atOf s1 (nx (10 : Int).toNat (s1.drop a.toNat)).2).toNat)).2).toNat)).1).size)), (.sl 6 (((drawX (2 : Int).toNat (s9.drop (atOf s6 (nx (2 : Int).toNat (s6.drop (atOf s1 (nx (10 : Int).toNat (s1.drop a.toNat)).2).toNat)).2).toNat)).1).args)), (.int .i64 (((drawX (2 : Int).toNat (s10.drop (atOf s9 (drawX (2 : Int).toNat (s9.drop (atOf s6 (nx (2 : Int).toNat (s6.drop (atOf s1 (nx (10 : Int).toNat (s1.drop a.toNat)).2).toNat)).2).toNat)).2).toNat)).1).op)), (.int .i64 (((drawX (2 : Int).toNat (s10.drop (atOf s9 (drawX (2 : Int).toNat (s9.drop (atOf s6 (nx (2 : Int).toNat (s6.drop (atOf s1 (nx (10 : Int).toNat (s1.drop a.toNat)).2).toNat)).2).toNat)).2).toNat)).1).value)), (.str (((drawX (2 : Int).toNat (s10.drop (atOf s9 (drawX (2 : Int).toNat (s9.drop (atOf s6 (nx (2 : Int).toNat (s6.drop (atOf s1 (nx (10 : Int).toNat (s1.drop a.toNat)).2).toNat)).2).toNat)).2).toNat)).1).name)), (.int .i64 (((drawX (2 : Int).toNat (s10.drop (atOf s9 (drawX (2 : Int).toNat (s9.drop (atOf s6 (nx (2 : Int).toNat (s6.drop (atOf s1 (nx (10 : Int).toNat (s1.drop a.toNat)).2).toNat)).2).toNat)).2).toNat)).1).slot)), (.int .i64 (((drawX (2 : Int).toNat (s10.drop (atOf s9 (drawX (2 : Int).toNat (s9.drop (atOf s6 (nx (2 : Int).toNat (s6.drop (atOf s1 (nx (10 : Int).toNat (s1.drop a.toNat)).2).toNat)).2).toNat)).2).toNat)).1).size)), (.sl 6 (((drawX (2 : Int).toNat (s10.drop (atOf s9 (drawX (2 : Int).toNat (s9.drop (atOf s6 (nx (2 : Int).toNat (s6.drop (atOf s1 (nx (10 : Int).toNat (s1.drop a.toNat)).2).toNat)).2).toNat)).2).toNat)).1).args)), (.sl 18 []), (.sl 18 [])])] : List DV).length) * 232 ≤ 70368744177664))
                          (.leaf (.nrm, ⟨[(0, (.hp 0 0)), (2, (.d (.int .i64 d))), (7, (.osl 18 (ys ++ [(.agg [(.int .i64 2), (.str [98]), (.int .i64 0), (.int .i64 0), (.int .i64 (((drawX (2 : Int).toNat (s9.drop (atOf s6 (nx (2 : Int).toNat (s6.drop (atOf s1 (nx (10 : Int).toNat (s1.drop a.toNat)).2).toNat)).2).toNat)).1).op)), (.int .i64 (((drawX (2 : Int).toNat (s9.drop (atOf s6 (nx (2 : Int).toNat (s6.drop (atOf s1 (nx (10 : Int).toNat (s1.drop a.toNat)).2).toNat)).2).toNat)).1).value)), (.str (((drawX (2 : Int).toNat (s9.drop (atOf s6 (nx (2 : Int).toNat (s6.drop (atOf s1 (nx (10 : Int).toNat (s1.drop a.toNat)).2).toNat)).2).toNat)).1).name)), (.int .i64 (((drawX (2 : Int).toNat (s9.drop (atOf s6 (nx (2 : Int).toNat (s6.drop (atOf s1 (nx (10 : Int).toNat (s1.drop a.toNat)).2).toNat)).2).toNat)).1).slot)), (.int .i64 (((drawX (2 : Int).toNat (s9.drop (atOf s6 (nx (2 : Int).toNat (s6.drop (atOf s1 (nx (10 : Int).toNat (s1.drop a.toNat)).2).toNat)).2).toNat)).1).size)), (.sl 6 (((drawX (2 : Int).toNat (s9.drop (atOf s6 (nx (2 : Int).toNat (s6.drop (atOf s1 (nx (10 : Int).toNat (s1.drop a.toNat)).2).toNat)).2).toNat)).1).args)), (.int .i64 (((drawX (2 : Int).toNat (s10.drop (atOf s9 (drawX (2 : Int).toNat (s9.drop (atOf s6 (nx (2 : Int).toNat (s6.drop (atOf s1 (nx (10 : Int).toNat (s1.drop a.toNat)).2).toNat)).2).toNat)).2).toNat)).1).op)), (.int .i64 (((drawX (2 : Int).toNat (s10.drop (atOf s9 (drawX (2 : Int).toNat (s9.drop (atOf s6 (nx (2 : Int).toNat (s6.drop (atOf s1 (nx (10 : Int).toNat (s1.drop a.toNat)).2).toNat)).2).toNat)).2).toNat)).1).value)), (.str (((drawX (2 : Int).toNat (s10.drop (atOf s9 (drawX (2 : Int).toNat (s9.drop (atOf s6 (nx (2 : Int).toNat (s6.drop (atOf s1 (nx (10 : Int).toNat (s1.drop a.toNat)).2).toNat)).2).toNat)).2).toNat)).1).name)), (.int .i64 (((drawX (2 : Int).toNat (s10.drop (atOf s9 (drawX (2 : Int).toNat (s9.drop (atOf s6 (nx (2 : Int).toNat (s6.drop (atOf s1 (nx (10 : Int).toNat (s1.drop a.toNat)).2).toNat)).2).toNat)).2).toNat)).1).slot)), (.int .i64 (((drawX (2 : Int).toNat (s10.drop (atOf s9 (drawX (2 : Int).toNat (s9.drop (atOf s6 (nx (2 : Int).toNat (s6.drop (atOf s1 (nx (10 : Int).toNat (s1.drop a.toNat)).2).toNat)).2).toNat)).2).toNat)).1).size)), (.sl 6 (((drawX (2 : Int).toNat (s10.drop (atOf s9 (drawX (2 : Int).toNat (s9.drop (atOf s6 (nx (2 : Int).toNat (s6.drop (atOf s1 (nx (10 : Int).toNat (s1.drop a.toNat)).2).toNat)).2).toNat)).2).toNat)).1).args)), (.sl 18 []), (.sl 18 [])])]))), (8, (.d (.int .i64 (IntKind.i64.wrap (n - 1)))))], [[(.d (.sl 1 xs)), (.d (.int .i64 (atOf s10 (drawX (2 : Int).toNat (s10.drop (atOf s9 (drawX (2 : Int).toNat (s9.drop (atOf s6 (nx (2 : Int).toNat (s6.drop (atOf s1 (nx (10 : Int).toNat (s1.drop a.toNat)).2).toNat)).2).toNat)).2).toNat)).2)))]]⟩))
                          (.fail))
                        (.fail))
                      (.fail))
                    (.fail)))
                (.fail))
              (.br (decide ((IntKind.i64.wrap (((nx (10 : Int).toNat (s1.drop a.toNat)).1 : Int) - 7)) < 6))
                (.opt (unL unU8 xs) fun s11 => .br (decide (0 ≤ (atOf s1 (nx (10 : Int).toNat (s1.drop a.toNat)).2) ∧ (atOf s1 (nx (10 : Int).toNat (s1.drop a.toNat)).2) ≤ s11.length ∧ (s11.length : Int) ≤ 100000 ∧ 1 ≤ (2 : Int) ∧ (2 : Int) ≤ ((3 : Nat) : Int)))
                  (.opt (unL unU8 xs) fun s12 => .br (decide (0 ≤ (atOf s11 (drawX (2 : Int).toNat (s11.drop (atOf s1 (nx (10 : Int).toNat (s1.drop a.toNat)).2).toNat)).2) ∧ (atOf s11 (drawX (2 : Int).toNat (s11.drop (atOf s1 (nx (10 : Int).toNat (s1.drop a.toNat)).2).toNat)).2) ≤ s12.length ∧ (s12.length : Int) ≤ 100000 ∧ 1 ≤ (2 : Int) ∧ (2 : Int) ≤ ((3 : Nat) : Int)))
                    (.br (decide ((ys.length + ([(.agg [(.int .i64 5), (.str []), (.int .i64 0), (.int .i64 0), (.int .i64 (((drawX (2 : Int).toNat (s11.drop (atOf s1 (nx (10 : Int).toNat (s1.drop a.toNat)).2).toNat)).1).op)), (.int .i64 (((drawX (2 : Int).toNat (s11.drop (atOf s1 (nx (10 : Int).toNat (s1.drop a.toNat)).2).toNat)).1).value)), (.str (((drawX (2 : Int).toNat (s11.drop (atOf s1 (nx (10 : Int).toNat (s1.drop a.toNat)).2).toNat)).1).name)), (.int .i64 (((drawX (2 : Int).toNat (s11.drop (atOf s1 (nx (10 : Int).toNat (s1.drop a.toNat)).2).toNat)).1).slot)), (.int .i64 (((drawX (2 : Int).toNat (s11.drop (atOf s1 (nx (10 : Int).toNat (s1.drop a.toNat)).2).toNat)).1).size)), (.sl 6 (((drawX (2 : Int).toNat (s11.drop (atOf s1 (nx (10 : Int).toNat (s1.drop a.toNat)).2).toNat)).1).args)), (.int .i64 (((drawX (2 : Int).toNat (s12.drop (atOf s11 (drawX (2 : Int).toNat (s11.drop (atOf s1 (nx (10 : Int).toNat (s1.drop a.toNat)).2).toNat)).2).toNat)).1).op)), (.int .i64 (((drawX (2 : Int).toNat (s12.drop (atOf s11 (drawX (2 : Int).toNat (s11.drop (atOf s1 (nx (10 : Int).toNat (s1.drop a.toNat)).2).toNat)).2).toNat)).1).value)), (.str (((drawX (2 : Int).toNat (s12.drop (atOf s11 (drawX (2 : Int).toNat (s11.drop (atOf s1 (nx (10 : Int).toNat (s1.drop a.toNat)).2).toNat)).2).toNat)).1).name)), (.int .i64 (((drawX (2 : Int).toNat (s12.drop (atOf s11 (drawX (2 : Int).toNat (s11.drop (atOf s1 (nx (10 : Int).toNat (s1.drop a.toNat)).2).toNat)).2).toNat)).1).slot)), (.int .i64 (((drawX (2 : Int).toNat (s12.drop (atOf s11 (drawX (2 : Int).toNat (s11.drop (atOf s1 (nx (10 : Int).toNat (s1.drop a.toNat)).2).toNat)).2).toNat)).1).size)), (.sl 6 (((drawX (2 : Int).toNat (s12.drop (atOf s11 (drawX (2 : Int).toNat (s11.drop (atOf s1 (nx (10 : Int).toNat (s1.drop a.toNat)).2).toNat)).2).toNat)).1).args)), (.sl 18 []), (.sl 18 [])])] : List DV).length) * 232 ≤ 70368744177664))
                      (.leaf (.nrm, ⟨[(0, (.hp 0 0)), (2, (.d (.int .i64 d))), (7, (.osl 18 (ys ++ [(.agg [(.int .i64 5), (.str []), (.int .i64 0), (.int .i64 0), (.int .i64 (((drawX (2 : Int).toNat (s11.drop (atOf s1 (nx (10 : Int).toNat (s1.drop a.toNat)).2).toNat)).1).op)), (.int .i64 (((drawX (2 : Int).toNat (s11.drop (atOf s1 (nx (10 : Int).toNat (s1.drop a.toNat)).2).toNat)).1).value)), (.str (((drawX (2 : Int).toNat (s11.drop (atOf s1 (nx (10 : Int).toNat (s1.drop a.toNat)).2).toNat)).1).name)), (.int .i64 (((drawX (2 : Int).toNat (s11.drop (atOf s1 (nx (10 : Int).toNat (s1.drop a.toNat)).2).toNat)).1).slot)), (.int .i64 (((drawX (2 : Int).toNat (s11.drop (atOf s1 (nx (10 : Int).toNat (s1.drop a.toNat)).2).toNat)).1).size)), (.sl 6 (((drawX (2 : Int).toNat (s11.drop (atOf s1 (nx (10 : Int).toNat (s1.drop a.toNat)).2).toNat)).1).args)), (.int .i64 (((drawX (2 : Int).toNat (s12.drop (atOf s11 (drawX (2 : Int).toNat (s11.drop (atOf s1 (nx (10 : Int).toNat (s1.drop a.toNat)).2).toNat)).2).toNat)).1).op)), (.int .i64 (((drawX (2 : Int).toNat (s12.drop (atOf s11 (drawX (2 : Int).toNat (s11.drop (atOf s1 (nx (10 : Int).toNat (s1.drop a.toNat)).2).toNat)).2).toNat)).1).value)), (.str (((drawX (2 : Int).toNat (s12.drop (atOf s11 (drawX (2 : Int).toNat (s11.drop (atOf s1 (nx (10 : Int).toNat (s1.drop a.toNat)).2).toNat)).2).toNat)).1).name)), (.int .i64 (((drawX (2 : Int).toNat (s12.drop (atOf s11 (drawX (2 : Int).toNat (s11.drop (atOf s1 (nx (10 : Int).toNat (s1.drop a.toNat)).2).toNat)).2).toNat)).1).slot)), (.int .i64 (((drawX (2 : Int).toNat (s12.drop (atOf s11 (drawX (2 : Int).toNat (s11.drop (atOf s1 (nx (10 : Int).toNat (s1.drop a.toNat)).2).toNat)).2).toNat)).1).size)), (.sl 6 (((drawX (2 : Int).toNat (s12.drop (atOf s11 (drawX (2 : Int).toNat (s11.drop (atOf s1 (nx (10 : Int).toNat (s1.drop a.toNat)).2).toNat)).2).toNat)).1).args)), (.sl 18 []), (.sl 18 [])])]))), (8, (.d (.int .i64 (IntKind.i64.wrap (n - 1)))))], [[(.d (.sl 1 xs)), (.d (.int .i64 (atOf s12 (drawX (2 : Int).toNat (s12.drop (atOf s11 (drawX (2 : Int).toNat (s11.drop (atOf s1 (nx (10 : Int).toNat (s1.drop a.toNat)).2).toNat)).2).toNat)).2)))]]⟩))
                      (.fail))
                    (.fail))
                  (.fail))
                (.br (decide ((IntKind.i64.wrap (((nx (10 : Int).toNat (s1.drop a.toNat)).1 : Int) - 7)) = 6))
                  (.opt (unL unU8 xs) fun s13 => .br (decide (0 ≤ (atOf s1 (nx (10 : Int).toNat (s1.drop a.toNat)).2) ∧ (atOf s1 (nx (10 : Int).toNat (s1.drop a.toNat)).2) ≤ s13.length ∧ (s13.length : Int) ≤ 100000 ∧ 1 ≤ (2 : Int) ∧ (2 : Int) ≤ ((3 : Nat) : Int)))
                    (.br (decide ((ys.length + ([(.agg [(.int .i64 6), (.str []), (.int .i64 0), (.int .i64 0), (.int .i64 0), (.int .i64 0), (.str []), (.int .i64 0), (.int .i64 0), (.sl 6 []), (.int .i64 (((drawX (2 : Int).toNat (s13.drop (atOf s1 (nx (10 : Int).toNat (s1.drop a.toNat)).2).toNat)).1).op)), (.int .i64 (((drawX (2 : Int).toNat (s13.drop (atOf s1 (nx (10 : Int).toNat (s1.drop a.toNat)).2).toNat)).1).value)), (.str (((drawX (2 : Int).toNat (s13.drop (atOf s1 (nx (10 : Int).toNat (s1.drop a.toNat)).2).toNat)).1).name)), (.int .i64 (((drawX (2 : Int).toNat (s13.drop (atOf s1 (nx (10 : Int).toNat (s1.drop a.toNat)).2).toNat)).1).slot)), (.int .i64 (((drawX (2 : Int).toNat (s13.drop (atOf s1 (nx (10 : Int).toNat (s1.drop a.toNat)).2).toNat)).1).size)), (.sl 6 (((drawX (2 : Int).toNat (s13.drop (atOf s1 (nx (10 : Int).toNat (s1.drop a.toNat)).2).toNat)).1).args)), (.sl 18 []), (.sl 18 [])])] : List DV).length) * 232 ≤ 70368744177664))
                      (.leaf (.nrm, ⟨[(0, (.hp 0 0)), (2, (.d (.int .i64 d))), (7, (.osl 18 (ys ++ [(.agg [(.int .i64 6), (.str []), (.int .i64 0), (.int .i64 0), (.int .i64 0), (.int .i64 0), (.str []), (.int .i64 0), (.int .i64 0), (.sl 6 []), (.int .i64 (((drawX (2 : Int).toNat (s13.drop (atOf s1 (nx (10 : Int).toNat (s1.drop a.toNat)).2).toNat)).1).op)), (.int .i64 (((drawX (2 : Int).toNat (s13.drop (atOf s1 (nx (10 : Int).toNat (s1.drop a.toNat)).2).toNat)).1).value)), (.str (((drawX (2 : Int).toNat (s13.drop (atOf s1 (nx (10 : Int).toNat (s1.drop a.toNat)).2).toNat)).1).name)), (.int .i64 (((drawX (2 : Int).toNat (s13.drop (atOf s1 (nx (10 : Int).toNat (s1.drop a.toNat)).2).toNat)).1).slot)), (.int .i64 (((drawX (2 : Int).toNat (s13.drop (atOf s1 (nx (10 : Int).toNat (s1.drop a.toNat)).2).toNat)).1).size)), (.sl 6 (((drawX (2 : Int).toNat (s13.drop (atOf s1 (nx (10 : Int).toNat (s1.drop a.toNat)).2).toNat)).1).args)), (.sl 18 []), (.sl 18 [])])]))), (8, (.d (.int .i64 (IntKind.i64.wrap (n - 1)))))], [[(.d (.sl 1 xs)), (.d (.int .i64 (atOf s13 (drawX (2 : Int).toNat (s13.drop (atOf s1 (nx (10 : Int).toNat (s1.drop a.toNat)).2).toNat)).2)))]]⟩))
                      (.fail))
                    (.fail))
                  (.br (decide ((IntKind.i64.wrap (((nx (10 : Int).toNat (s1.drop a.toNat)).1 : Int) - 7)) < 9))
                    (.opt (unL unU8 xs) fun s14 => .br (decide (0 ≤ (atOf s1 (nx (10 : Int).toNat (s1.drop a.toNat)).2) ∧ (atOf s1 (nx (10 : Int).toNat (s1.drop a.toNat)).2) ≤ s14.length ∧ (s14.length : Int) ≤ 100000 ∧ 1 ≤ (2 : Int) ∧ (2 : Int) ≤ ((3 : Nat) : Int)))
                      (.opt (unL unU8 xs) fun s15 => .br (decide (0 ≤ (atOf s14 (drawX (2 : Int).toNat (s14.drop (atOf s1 (nx (10 : Int).toNat (s1.drop a.toNat)).2).toNat)).2) ∧ (atOf s14 (drawX (2 : Int).toNat (s14.drop (atOf s1 (nx (10 : Int).toNat (s1.drop a.toNat)).2).toNat)).2) ≤ s15.length ∧ (s15.length : Int) ≤ 100000 ∧ 0 ≤ (2 : Int) ∧ (2 : Int) ≤ 255 ∧ 1 ≤ (IntKind.i64.wrap (d - 1)) ∧ (IntKind.i64.wrap (d - 1)) ≤ N))
                        (.opt (unL unU8 xs) fun s16 => .br (decide (0 ≤ (atOf s15 (drawS (IntKind.i64.wrap (d - 1)).toNat (2 : Int).toNat (s15.drop (atOf s14 (drawX (2 : Int).toNat (s14.drop (atOf s1 (nx (10 : Int).toNat (s1.drop a.toNat)).2).toNat)).2).toNat)).2) ∧ (atOf s15 (drawS (IntKind.i64.wrap (d - 1)).toNat (2 : Int).toNat (s15.drop (atOf s14 (drawX (2 : Int).toNat (s14.drop (atOf s1 (nx (10 : Int).toNat (s1.drop a.toNat)).2).toNat)).2).toNat)).2) ≤ s16.length ∧ (s16.length : Int) ≤ 100000 ∧ 0 ≤ (1 : Int) ∧ (1 : Int) ≤ 255 ∧ 1 ≤ (IntKind.i64.wrap (d - 1)) ∧ (IntKind.i64.wrap (d - 1)) ≤ N))
                          (.br (decide ((ys.length + ([(.agg [(.int .i64 3), (.str []), (.int .i64 0), (.int .i64 0), (.int .i64 0), (.int .i64 0), (.str []), (.int .i64 0), (.int .i64 0), (.sl 6 []), (.int .i64 (((drawX (2 : Int).toNat (s14.drop (atOf s1 (nx (10 : Int).toNat (s1.drop a.toNat)).2).toNat)).1).op)), (.int .i64 (((drawX (2 : Int).toNat (s14.drop (atOf s1 (nx (10 : Int).toNat (s1.drop a.toNat)).2).toNat)).1).value)), (.str (((drawX (2 : Int).toNat (s14.drop (atOf s1 (nx (10 : Int).toNat (s1.drop a.toNat)).2).toNat)).1).name)), (.int .i64 (((drawX (2 : Int).toNat (s14.drop (atOf s1 (nx (10 : Int).toNat (s1.drop a.toNat)).2).toNat)).1).slot)), (.int .i64 (((drawX (2 : Int).toNat (s14.drop (atOf s1 (nx (10 : Int).toNat (s1.drop a.toNat)).2).toNat)).1).size)), (.sl 6 (((drawX (2 : Int).toNat (s14.drop (atOf s1 (nx (10 : Int).toNat (s1.drop a.toNat)).2).toNat)).1).args)), (.sl 18 ((drawS (IntKind.i64.wrap (d - 1)).toNat (2 : Int).toNat (s15.drop (atOf s14 (drawX (2 : Int).toNat (s14.drop (atOf s1 (nx (10 : Int).toNat (s1.drop a.toNat)).2).toNat)).2).toNat)).1.map encSt)), (.sl 18 ((drawS (IntKind.i64.wrap (d - 1)).toNat (1 : Int).toNat (s16.drop (atOf s15 (drawS (IntKind.i64.wrap (d - 1)).toNat (2 : Int).toNat (s15.drop (atOf s14 (drawX (2 : Int).toNat (s14.drop (atOf s1 (nx (10 : Int).toNat (s1.drop a.toNat)).2).toNat)).2).toNat)).2).toNat)).1.map encSt))])] : List DV).length) * 232 ≤ 70368744177664))
                            (.leaf (.nrm, ⟨[(0, (.hp 0 0)), (2, (.d (.int .i64 d))), (7, (.osl 18 (ys ++ [(.agg [(.int .i64 3), (.str []), (.int .i64 0), (.int .i64 0), (.int .i64 0), (.int .i64 0), (.str []), (.int .i64 0), (.int .i64 0), (.sl 6 []), (.int .i64 (((drawX (2 : Int).toNat (s14.drop (atOf s1 (nx (10 : Int).toNat (s1.drop a.toNat)).2).toNat)).1).op)), (.int .i64 (((drawX (2 : Int).toNat (s14.drop (atOf s1 (nx (10 : Int).toNat (s1.drop a.toNat)).2).toNat)).1).value)), (.str (((drawX (2 : Int).toNat (s14.drop (atOf s1 (nx (10 : Int).toNat (s1.drop a.toNat)).2).toNat)).1).name)), (.int .i64 (((drawX (2 : Int).toNat (s14.drop (atOf s1 (nx (10 : Int).toNat (s1.drop a.toNat)).2).toNat)).1).slot)), (.int .i64 (((drawX (2 : Int).toNat (s14.drop (atOf s1 (nx (10 : Int).toNat (s1.drop a.toNat)).2).toNat)).1).size)), (.sl 6 (((drawX (2 : Int).toNat (s14.drop (atOf s1 (nx (10 : Int).toNat (s1.drop a.toNat)).2).toNat)).1).args)), (.sl 18 ((drawS (IntKind.i64.wrap (d - 1)).toNat (2 : Int).toNat (s15.drop (atOf s14 (drawX (2 : Int).toNat (s14.drop (atOf s1 (nx (10 : Int).toNat (s1.drop a.toNat)).2).toNat)).2).toNat)).1.map encSt)), (.sl 18 ((drawS (IntKind.i64.wrap (d - 1)).toNat (1 : Int).toNat (s16.drop (atOf s15 (drawS (IntKind.i64.wrap (d - 1)).toNat (2 : Int).toNat (s15.drop (atOf s14 (drawX (2 : Int).toNat (s14.drop (atOf s1 (nx (10 : Int).toNat (s1.drop a.toNat)).2).toNat)).2).toNat)).2).toNat)).1.map encSt))])]))), (8, (.d (.int .i64 (IntKind.i64.wrap (n - 1)))))], [[(.d (.sl 1 xs)), (.d (.int .i64 (atOf s16 (drawS (IntKind.i64.wrap (d - 1)).toNat (1 : Int).toNat (s16.drop (atOf s15 (drawS (IntKind.i64.wrap (d - 1)).toNat (2 : Int).toNat (s15.drop (atOf s14 (drawX (2 : Int).toNat (s14.drop (atOf s1 (nx (10 : Int).toNat (s1.drop a.toNat)).2).toNat)).2).toNat)).2).toNat)).2)))]]⟩))
                            (.fail))
                          (.fail))
                        (.fail))
                      (.fail))
                    (.opt (unL unU8 xs) fun s17 => .br (decide (0 ≤ (atOf s1 (nx (10 : Int).toNat (s1.drop a.toNat)).2) ∧ (atOf s1 (nx (10 : Int).toNat (s1.drop a.toNat)).2) ≤ s17.length ∧ (s17.length : Int) ≤ 100000 ∧ 1 ≤ (2 : Int) ∧ (2 : Int) ≤ ((3 : Nat) : Int)))
                      (.opt (unL unU8 xs) fun s18 => .br (decide (0 ≤ (atOf s17 (drawX (2 : Int).toNat (s17.drop (atOf s1 (nx (10 : Int).toNat (s1.drop a.toNat)).2).toNat)).2) ∧ (atOf s17 (drawX (2 : Int).toNat (s17.drop (atOf s1 (nx (10 : Int).toNat (s1.drop a.toNat)).2).toNat)).2) ≤ s18.length ∧ (s18.length : Int) ≤ 100000 ∧ 0 ≤ (2 : Int) ∧ (2 : Int) ≤ 255 ∧ 1 ≤ (IntKind.i64.wrap (d - 1)) ∧ (IntKind.i64.wrap (d - 1)) ≤ N))
                        (.br (decide ((ys.length + ([(.agg [(.int .i64 4), (.str []), (.int .i64 0), (.int .i64 0), (.int .i64 0), (.int .i64 0), (.str []), (.int .i64 0), (.int .i64 0), (.sl 6 []), (.int .i64 (((drawX (2 : Int).toNat (s17.drop (atOf s1 (nx (10 : Int).toNat (s1.drop a.toNat)).2).toNat)).1).op)), (.int .i64 (((drawX (2 : Int).toNat (s17.drop (atOf s1 (nx (10 : Int).toNat (s1.drop a.toNat)).2).toNat)).1).value)), (.str (((drawX (2 : Int).toNat (s17.drop (atOf s1 (nx (10 : Int).toNat (s1.drop a.toNat)).2).toNat)).1).name)), (.int .i64 (((drawX (2 : Int).toNat (s17.drop (atOf s1 (nx (10 : Int).toNat (s1.drop a.toNat)).2).toNat)).1).slot)), (.int .i64 (((drawX (2 : Int).toNat (s17.drop (atOf s1 (nx (10 : Int).toNat (s1.drop a.toNat)).2).toNat)).1).size)), (.sl 6 (((drawX (2 : Int).toNat (s17.drop (atOf s1 (nx (10 : Int).toNat (s1.drop a.toNat)).2).toNat)).1).args)), (.sl 18 ((drawS (IntKind.i64.wrap (d - 1)).toNat (2 : Int).toNat (s18.drop (atOf s17 (drawX (2 : Int).toNat (s17.drop (atOf s1 (nx (10 : Int).toNat (s1.drop a.toNat)).2).toNat)).2).toNat)).1.map encSt)), (.sl 18 [])])] : List DV).length) * 232 ≤ 70368744177664))
                          (.leaf (.nrm, ⟨[(0, (.hp 0 0)), (2, (.d (.int .i64 d))), (7, (.osl 18 (ys ++ [(.agg [(.int .i64 4), (.str []), (.int .i64 0), (.int .i64 0), (.int .i64 0), (.int .i64 0), (.str []), (.int .i64 0), (.int .i64 0), (.sl 6 []), (.int .i64 (((drawX (2 : Int).toNat (s17.drop (atOf s1 (nx (10 : Int).toNat (s1.drop a.toNat)).2).toNat)).1).op)), (.int .i64 (((drawX (2 : Int).toNat (s17.drop (atOf s1 (nx (10 : Int).toNat (s1.drop a.toNat)).2).toNat)).1).value)), (.str (((drawX (2 : Int).toNat (s17.drop (atOf s1 (nx (10 : Int).toNat (s1.drop a.toNat)).2).toNat)).1).name)), (.int .i64 (((drawX (2 : Int).toNat (s17.drop (atOf s1 (nx (10 : Int).toNat (s1.drop a.toNat)).2).toNat)).1).slot)), (.int .i64 (((drawX (2 : Int).toNat (s17.drop (atOf s1 (nx (10 : Int).toNat (s1.drop a.toNat)).2).toNat)).1).size)), (.sl 6 (((drawX (2 : Int).toNat (s17.drop (atOf s1 (nx (10 : Int).toNat (s1.drop a.toNat)).2).toNat)).1).args)), (.sl 18 ((drawS (IntKind.i64.wrap (d - 1)).toNat (2 : Int).toNat (s18.drop (atOf s17 (drawX (2 : Int).toNat (s17.drop (atOf s1 (nx (10 : Int).toNat (s1.drop a.toNat)).2).toNat)).2).toNat)).1.map encSt)), (.sl 18 [])])]))), (8, (.d (.int .i64 (IntKind.i64.wrap (n - 1)))))], [[(.d (.sl 1 xs)), (.d (.int .i64 (atOf s18 (drawS (IntKind.i64.wrap (d - 1)).toNat (2 : Int).toNat (s18.drop (atOf s17 (drawX (2 : Int).toNat (s17.drop (atOf s1 (nx (10 : Int).toNat (s1.drop a.toNat)).2).toNat)).2).toNat)).2)))]]⟩))
                          (.fail))
                        (.fail))
                      (.fail)))))))
          (.br (decide (((nx (10 : Int).toNat (s1.drop a.toNat)).1 : Int) < 3))
            (.opt (unL unU8 xs) fun s19 => .br (decide (0 ≤ (atOf s1 (nx (10 : Int).toNat (s1.drop a.toNat)).2) ∧ (atOf s1 (nx (10 : Int).toNat (s1.drop a.toNat)).2) ≤ s19.length ∧ (s19.length : Int) ≤ 100000 ∧ 0 < (3 : Int) ∧ (3 : Int) ≤ 256))
              (.br (decide (((nx (3 : Int).toNat (s19.drop (atOf s1 (nx (10 : Int).toNat (s1.drop a.toNat)).2).toNat)).1 : Int) = ((0 : Nat) : Int)))
                (.opt (unL unU8 xs) fun s20 => .br (decide (0 ≤ (atOf s19 (nx (3 : Int).toNat (s19.drop (atOf s1 (nx (10 : Int).toNat (s1.drop a.toNat)).2).toNat)).2) ∧ (atOf s19 (nx (3 : Int).toNat (s19.drop (atOf s1 (nx (10 : Int).toNat (s1.drop a.toNat)).2).toNat)).2) ≤ s20.length ∧ (s20.length : Int) ≤ 100000 ∧ 1 ≤ (3 : Int) ∧ (3 : Int) ≤ ((3 : Nat) : Int)))
                  (.br (decide ((ys.length + ([(.agg [(.int .i64 1), (.str [120]), (.int .i64 0), (.int .i64 0), (.int .i64 0), (.int .i64 0), (.str []), (.int .i64 0), (.int .i64 0), (.sl 6 []), (.int .i64 (((drawX (3 : Int).toNat (s20.drop (atOf s19 (nx (3 : Int).toNat (s19.drop (atOf s1 (nx (10 : Int).toNat (s1.drop a.toNat)).2).toNat)).2).toNat)).1).op)), (.int .i64 (((drawX (3 : Int).toNat (s20.drop (atOf s19 (nx (3 : Int).toNat (s19.drop (atOf s1 (nx (10 : Int).toNat (s1.drop a.toNat)).2).toNat)).2).toNat)).1).value)), (.str (((drawX (3 : Int).toNat (s20.drop (atOf s19 (nx (3 : Int).toNat (s19.drop (atOf s1 (nx (10 : Int).toNat (s1.drop a.toNat)).2).toNat)).2).toNat)).1).name)), (.int .i64 (((drawX (3 : Int).toNat (s20.drop (atOf s19 (nx (3 : Int).toNat (s19.drop (atOf s1 (nx (10 : Int).toNat (s1.drop a.toNat)).2).toNat)).2).toNat)).1).slot)), (.int .i64 (((drawX (3 : Int).toNat (s20.drop (atOf s19 (nx (3 : Int).toNat (s19.drop (atOf s1 (nx (10 : Int).toNat (s1.drop a.toNat)).2).toNat)).2).toNat)).1).size)), (.sl 6 (((drawX (3 : Int).toNat (s20.drop (atOf s19 (nx (3 : Int).toNat (s19.drop (atOf s1 (nx (10 : Int).toNat (s1.drop a.toNat)).2).toNat)).2).toNat)).1).args)), (.sl 18 []), (.sl 18 [])])] : List DV).length) * 232 ≤ 70368744177664))
                    (.leaf (.nrm, ⟨[(0, (.hp 0 0)), (2, (.d (.int .i64 d))), (7, (.osl 18 (ys ++ [(.agg [(.int .i64 1), (.str [120]), (.int .i64 0), (.int .i64 0), (.int .i64 0), (.int .i64 0), (.str []), (.int .i64 0), (.int .i64 0), (.sl 6 []), (.int .i64 (((drawX (3 : Int).toNat (s20.drop (atOf s19 (nx (3 : Int).toNat (s19.drop (atOf s1 (nx (10 : Int).toNat (s1.drop a.toNat)).2).toNat)).2).toNat)).1).op)), (.int .i64 (((drawX (3 : Int).toNat (s20.drop (atOf s19 (nx (3 : Int).toNat (s19.drop (atOf s1 (nx (10 : Int).toNat (s1.drop a.toNat)).2).toNat)).2).toNat)).1).value)), (.str (((drawX (3 : Int).toNat (s20.drop (atOf s19 (nx (3 : Int).toNat (s19.drop (atOf s1 (nx (10 : Int).toNat (s1.drop a.toNat)).2).toNat)).2).toNat)).1).name)), (.int .i64 (((drawX (3 : Int).toNat (s20.drop (atOf s19 (nx (3 : Int).toNat (s19.drop (atOf s1 (nx (10 : Int).toNat (s1.drop a.toNat)).2).toNat)).2).toNat)).1).slot)), (.int .i64 (((drawX (3 : Int).toNat (s20.drop (atOf s19 (nx (3 : Int).toNat (s19.drop (atOf s1 (nx (10 : Int).toNat (s1.drop a.toNat)).2).toNat)).2).toNat)).1).size)), (.sl 6 (((drawX (3 : Int).toNat (s20.drop (atOf s19 (nx (3 : Int).toNat (s19.drop (atOf s1 (nx (10 : Int).toNat (s1.drop a.toNat)).2).toNat)).2).toNat)).1).args)), (.sl 18 []), (.sl 18 [])])]))), (8, (.d (.int .i64 (IntKind.i64.wrap (n - 1)))))], [[(.d (.sl 1 xs)), (.d (.int .i64 (atOf s20 (drawX (3 : Int).toNat (s20.drop (atOf s19 (nx (3 : Int).toNat (s19.drop (atOf s1 (nx (10 : Int).toNat (s1.drop a.toNat)).2).toNat)).2).toNat)).2)))]]⟩))
                    (.fail))
                  (.fail))
                (.br (decide (((nx (3 : Int).toNat (s19.drop (atOf s1 (nx (10 : Int).toNat (s1.drop a.toNat)).2).toNat)).1 : Int) = ((1 : Nat) : Int)))
                  (.opt (unL unU8 xs) fun s21 => .br (decide (0 ≤ (atOf s19 (nx (3 : Int).toNat (s19.drop (atOf s1 (nx (10 : Int).toNat (s1.drop a.toNat)).2).toNat)).2) ∧ (atOf s19 (nx (3 : Int).toNat (s19.drop (atOf s1 (nx (10 : Int).toNat (s1.drop a.toNat)).2).toNat)).2) ≤ s21.length ∧ (s21.length : Int) ≤ 100000 ∧ 1 ≤ (3 : Int) ∧ (3 : Int) ≤ ((3 : Nat) : Int)))
                    (.br (decide ((ys.length + ([(.agg [(.int .i64 1), (.str [121]), (.int .i64 0), (.int .i64 0), (.int .i64 0), (.int .i64 0), (.str []), (.int .i64 0), (.int .i64 0), (.sl 6 []), (.int .i64 (((drawX (3 : Int).toNat (s21.drop (atOf s19 (nx (3 : Int).toNat (s19.drop (atOf s1 (nx (10 : Int).toNat (s1.drop a.toNat)).2).toNat)).2).toNat)).1).op)), (.int .i64 (((drawX (3 : Int).toNat (s21.drop (atOf s19 (nx (3 : Int).toNat (s19.drop (atOf s1 (nx (10 : Int).toNat (s1.drop a.toNat)).2).toNat)).2).toNat)).1).value)), (.str (((drawX (3 : Int).toNat (s21.drop (atOf s19 (nx (3 : Int).toNat (s19.drop (atOf s1 (nx (10 : Int).toNat (s1.drop a.toNat)).2).toNat)).2).toNat)).1).name)), (.int .i64 (((drawX (3 : Int).toNat (s21.drop (atOf s19 (nx (3 : Int).toNat (s19.drop (atOf s1 (nx (10 : Int).toNat (s1.drop a.toNat)).2).toNat)).2).toNat)).1).slot)), (.int .i64 (((drawX (3 : Int).toNat (s21.drop (atOf s19 (nx (3 : Int).toNat (s19.drop (atOf s1 (nx (10 : Int).toNat (s1.drop a.toNat)).2).toNat)).2).toNat)).1).size)), (.sl 6 (((drawX (3 : Int).toNat (s21.drop (atOf s19 (nx (3 : Int).toNat (s19.drop (atOf s1 (nx (10 : Int).toNat (s1.drop a.toNat)).2).toNat)).2).toNat)).1).args)), (.sl 18 []), (.sl 18 [])])] : List DV).length) * 232 ≤ 70368744177664))
                      (.leaf (.nrm, ⟨[(0, (.hp 0 0)), (2, (.d (.int .i64 d))), (7, (.osl 18 (ys ++ [(.agg [(.int .i64 1), (.str [121]), (.int .i64 0), (.int .i64 0), (.int .i64 0), (.int .i64 0), (.str []), (.int .i64 0), (.int .i64 0), (.sl 6 []), (.int .i64 (((drawX (3 : Int).toNat (s21.drop (atOf s19 (nx (3 : Int).toNat (s19.drop (atOf s1 (nx (10 : Int).toNat (s1.drop a.toNat)).2).toNat)).2).toNat)).1).op)), (.int .i64 (((drawX (3 : Int).toNat (s21.drop (atOf s19 (nx (3 : Int).toNat (s19.drop (atOf s1 (nx (10 : Int).toNat (s1.drop a.toNat)).2).toNat)).2).toNat)).1).value)), (.str (((drawX (3 : Int).toNat (s21.drop (atOf s19 (nx (3 : Int).toNat (s19.drop (atOf s1 (nx (10 : Int).toNat (s1.drop a.toNat)).2).toNat)).2).toNat)).1).name)), (.int .i64 (((drawX (3 : Int).toNat (s21.drop (atOf s19 (nx (3 : Int).toNat (s19.drop (atOf s1 (nx (10 : Int).toNat (s1.drop a.toNat)).2).toNat)).2).toNat)).1).slot)), (.int .i64 (((drawX (3 : Int).toNat (s21.drop (atOf s19 (nx (3 : Int).toNat (s19.drop (atOf s1 (nx (10 : Int).toNat (s1.drop a.toNat)).2).toNat)).2).toNat)).1).size)), (.sl 6 (((drawX (3 : Int).toNat (s21.drop (atOf s19 (nx (3 : Int).toNat (s19.drop (atOf s1 (nx (10 : Int).toNat (s1.drop a.toNat)).2).toNat)).2).toNat)).1).args)), (.sl 18 []), (.sl 18 [])])]))), (8, (.d (.int .i64 (IntKind.i64.wrap (n - 1)))))], [[(.d (.sl 1 xs)), (.d (.int .i64 (atOf s21 (drawX (3 : Int).toNat (s21.drop (atOf s19 (nx (3 : Int).toNat (s19.drop (atOf s1 (nx (10 : Int).toNat (s1.drop a.toNat)).2).toNat)).2).toNat)).2)))]]⟩))
                      (.fail))
                    (.fail))
                  (.br (decide (((nx (3 : Int).toNat (s19.drop (atOf s1 (nx (10 : Int).toNat (s1.drop a.toNat)).2).toNat)).1 : Int) = ((2 : Nat) : Int)))
                    (.opt (unL unU8 xs) fun s22 => .br (decide (0 ≤ (atOf s19 (nx (3 : Int).toNat (s19.drop (atOf s1 (nx (10 : Int).toNat (s1.drop a.toNat)).2).toNat)).2) ∧ (atOf s19 (nx (3 : Int).toNat (s19.drop (atOf s1 (nx (10 : Int).toNat (s1.drop a.toNat)).2).toNat)).2) ≤ s22.length ∧ (s22.length : Int) ≤ 100000 ∧ 1 ≤ (3 : Int) ∧ (3 : Int) ≤ ((3 : Nat) : Int)))
                      (.br (decide ((ys.length + ([(.agg [(.int .i64 1), (.str [122]), (.int .i64 0), (.int .i64 0), (.int .i64 0), (.int .i64 0), (.str []), (.int .i64 0), (.int .i64 0), (.sl 6 []), (.int .i64 (((drawX (3 : Int).toNat (s22.drop (atOf s19 (nx (3 : Int).toNat (s19.drop (atOf s1 (nx (10 : Int).toNat (s1.drop a.toNat)).2).toNat)).2).toNat)).1).op)), (.int .i64 (((drawX (3 : Int).toNat (s22.drop (atOf s19 (nx (3 : Int).toNat (s19.drop (atOf s1 (nx (10 : Int).toNat (s1.drop a.toNat)).2).toNat)).2).toNat)).1).value)), (.str (((drawX (3 : Int).toNat (s22.drop (atOf s19 (nx (3 : Int).toNat (s19.drop (atOf s1 (nx (10 : Int).toNat (s1.drop a.toNat)).2).toNat)).2).toNat)).1).name)), (.int .i64 (((drawX (3 : Int).toNat (s22.drop (atOf s19 (nx (3 : Int).toNat (s19.drop (atOf s1 (nx (10 : Int).toNat (s1.drop a.toNat)).2).toNat)).2).toNat)).1).slot)), (.int .i64 (((drawX (3 : Int).toNat (s22.drop (atOf s19 (nx (3 : Int).toNat (s19.drop (atOf s1 (nx (10 : Int).toNat (s1.drop a.toNat)).2).toNat)).2).toNat)).1).size)), (.sl 6 (((drawX (3 : Int).toNat (s22.drop (atOf s19 (nx (3 : Int).toNat (s19.drop (atOf s1 (nx (10 : Int).toNat (s1.drop a.toNat)).2).toNat)).2).toNat)).1).args)), (.sl 18 []), (.sl 18 [])])] : List DV).length) * 232 ≤ 70368744177664))
                        (.leaf (.nrm, ⟨[(0, (.hp 0 0)), (2, (.d (.int .i64 d))), (7, (.osl 18 (ys ++ [(.agg [(.int .i64 1), (.str [122]), (.int .i64 0), (.int .i64 0), (.int .i64 0), (.int .i64 0), (.str []), (.int .i64 0), (.int .i64 0), (.sl 6 []), (.int .i64 (((drawX (3 : Int).toNat (s22.drop (atOf s19 (nx (3 : Int).toNat (s19.drop (atOf s1 (nx (10 : Int).toNat (s1.drop a.toNat)).2).toNat)).2).toNat)).1).op)), (.int .i64 (((drawX (3 : Int).toNat (s22.drop (atOf s19 (nx (3 : Int).toNat (s19.drop (atOf s1 (nx (10 : Int).toNat (s1.drop a.toNat)).2).toNat)).2).toNat)).1).value)), (.str (((drawX (3 : Int).toNat (s22.drop (atOf s19 (nx (3 : Int).toNat (s19.drop (atOf s1 (nx (10 : Int).toNat (s1.drop a.toNat)).2).toNat)).2).toNat)).1).name)), (.int .i64 (((drawX (3 : Int).toNat (s22.drop (atOf s19 (nx (3 : Int).toNat (s19.drop (atOf s1 (nx (10 : Int).toNat (s1.drop a.toNat)).2).toNat)).2).toNat)).1).slot)), (.int .i64 (((drawX (3 : Int).toNat (s22.drop (atOf s19 (nx (3 : Int).toNat (s19.drop (atOf s1 (nx (10 : Int).toNat (s1.drop a.toNat)).2).toNat)).2).toNat)).1).size)), (.sl 6 (((drawX (3 : Int).toNat (s22.drop (atOf s19 (nx (3 : Int).toNat (s19.drop (atOf s1 (nx (10 : Int).toNat (s1.drop a.toNat)).2).toNat)).2).toNat)).1).args)), (.sl 18 []), (.sl 18 [])])]))), (8, (.d (.int .i64 (IntKind.i64.wrap (n - 1)))))], [[(.d (.sl 1 xs)), (.d (.int .i64 (atOf s22 (drawX (3 : Int).toNat (s22.drop (atOf s19 (nx (3 : Int).toNat (s19.drop (atOf s1 (nx (10 : Int).toNat (s1.drop a.toNat)).2).toNat)).2).toNat)).2)))]]⟩))
                        (.fail))
                      (.fail))
                    (.fail))))
              (.fail))
            (.br (decide (((nx (10 : Int).toNat (s1.drop a.toNat)).1 : Int) = 3))
              (.opt (unL unU8 xs) fun s23 => .br (decide (0 ≤ (atOf s1 (nx (10 : Int).toNat (s1.drop a.toNat)).2) ∧ (atOf s1 (nx (10 : Int).toNat (s1.drop a.toNat)).2) ≤ s23.length ∧ (s23.length : Int) ≤ 100000 ∧ 0 < (2 : Int) ∧ (2 : Int) ≤ 256))
                (.br (decide (((nx (2 : Int).toNat (s23.drop (atOf s1 (nx (10 : Int).toNat (s1.drop a.toNat)).2).toNat)).1 : Int) = ((0 : Nat) : Int)))
                  (.opt (unL unU8 xs) fun s24 => .br (decide (0 ≤ (atOf s23 (nx (2 : Int).toNat (s23.drop (atOf s1 (nx (10 : Int).toNat (s1.drop a.toNat)).2).toNat)).2) ∧ (atOf s23 (nx (2 : Int).toNat (s23.drop (atOf s1 (nx (10 : Int).toNat (s1.drop a.toNat)).2).toNat)).2) ≤ s24.length ∧ (s24.length : Int) ≤ 100000 ∧ 1 ≤ (2 : Int) ∧ (2 : Int) ≤ ((3 : Nat) : Int)))
                    (.opt (unL unU8 xs) fun s25 => .br (decide (0 ≤ (atOf s24 (drawX (2 : Int).toNat (s24.drop (atOf s23 (nx (2 : Int).toNat (s23.drop (atOf s1 (nx (10 : Int).toNat (s1.drop a.toNat)).2).toNat)).2).toNat)).2) ∧ (atOf s24 (drawX (2 : Int).toNat (s24.drop (atOf s23 (nx (2 : Int).toNat (s23.drop (atOf s1 (nx (10 : Int).toNat (s1.drop a.toNat)).2).toNat)).2).toNat)).2) ≤ s25.length ∧ (s25.length : Int) ≤ 100000 ∧ 1 ≤ (2 : Int) ∧ (2 : Int) ≤ ((3 : Nat) : Int)))
                      (.br (decide ((ys.length + ([(.agg [(.int .i64 2), (.str [97]), (.int .i64 0), (.int .i64 0), (.int .i64 (((drawX (2 : Int).toNat (s24.drop (atOf s23 (nx (2 : Int).toNat (s23.drop (atOf s1 (nx (10 : Int).toNat (s1.drop a.toNat)).2).toNat)).2).toNat)).1).op)), (.int .i64 (((drawX (2 : Int).toNat (s24.drop (atOf s23 (nx (2 : Int).toNat (s23.drop (atOf s1 (nx (10 : Int).toNat (s1.drop a.toNat)).2).toNat)).2).toNat)).1).value)), (.str (((drawX (2 : Int).toNat (s24.drop (atOf s23 (nx (2 : Int).toNat (s23.drop (atOf s1 (nx (10 : Int).toNat (s1.drop a.toNat)).2).toNat)).2).toNat)).1).name)), (.int .i64 (((drawX (2 : Int).toNat (s24.drop (atOf s23 (nx (2 : Int).toNat (s23.drop (atOf s1 (nx (10 : Int).toNat (s1.drop a.toNat)).2).toNat)).2).toNat)).1).slot)), (.int .i64 (((drawX (2 : Int).toNat (s24.drop (atOf s23 (nx (2 : Int).toNat (s23.drop (atOf s1 (nx (10 : Int).toNat (s1.drop a.toNat)).2).toNat)).2).toNat)).1).size)), (.sl 6 (((drawX (2 : Int).toNat (s24.drop (atOf s23 (nx (2 : Int).toNat (s23.drop (atOf s1 (nx (10 : Int).toNat (s1.drop a.toNat)).2).toNat)).2).toNat)).1).args)), (.int .i64 (((drawX (2 : Int).toNat (s25.drop (atOf s24 (drawX (2 : Int).toNat (s24.drop (atOf s23 (nx (2 : Int).toNat (s23.drop (atOf s1 (nx (10 : Int).toNat (s1.drop a.toNat)).2).toNat)).2).toNat)).2).toNat)).1).op)), (.int .i64 (((drawX (2 : Int).toNat (s25.drop (atOf s24 (drawX (2 : Int).toNat (s24.drop (atOf s23 (nx (2 : Int).toNat (s23.drop (atOf s1 (nx (10 : Int).toNat (s1.drop a.toNat)).2).toNat)).2).toNat)).2).toNat)).1).value)), (.str (((drawX (2 : Int).toNat (s25.drop (atOf s24 (drawX (2 : Int).toNat (s24.drop (atOf s23 (nx (2 : Int).toNat (s23.drop (atOf s1 (nx (10 : Int).toNat (s1.drop a.toNat)).2).toNat)).2).toNat)).2).toNat)).1).name)), (.int .i64 (((drawX (2 : Int).toNat (s25.drop (atOf s24 (drawX (2 : Int).toNat (s24.drop (atOf s23 (nx (2 : Int).toNat (s23.drop (atOf s1 (nx (10 : Int).toNat (s1.drop a.toNat)).2).toNat)).2).toNat)).2).toNat)).1).slot)), (.int .i64 (((drawX (2 : Int).toNat (s25.drop (atOf s24 (drawX (2 : Int).toNat (s24.drop (atOf s23 (nx (2 : Int).toNat (s23.drop (atOf s1 (nx (10 : Int).toNat (s1.drop a.toNat)).2).toNat)).2).toNat)).2).toNat)).1).size)), (.sl 6 (((drawX (2 : Int).toNat (s25.drop (atOf s24 (drawX (2 : Int).toNat (s24.drop (atOf s23 (nx (2 : Int).toNat (s23.drop (atOf s1 (nx (10 : Int).toNat (s1.drop a.toNat)).2).toNat)).2).toNat)).2).toNat)).1).args)), (.sl 18 []), (.sl 18 [])])] : List DV).length) * 232 ≤ 70368744177664))
                        (.leaf (.nrm, ⟨[(0, (.hp 0 0)), (2, (.d (.int .i64 d))), (7, (.osl 18 (ys ++ [(.agg [(.int .i64 2), (.str [97]), (.int .i64 0), (.int .i64 0), (.int .i64 (((drawX (2 : Int).toNat (s24.drop (atOf s23 (nx (2 : Int).toNat (s23.drop (atOf s1 (nx (10 : Int).toNat (s1.drop a.toNat)).2).toNat)).2).toNat)).1).op)), (.int .i64 (((drawX (2 : Int).toNat (s24.drop (atOf s23 (nx (2 : Int).toNat (s23.drop (atOf s1 (nx (10 : Int).toNat (s1.drop a.toNat)).2).toNat)).2).toNat)).1).value)), (.str (((drawX (2 : Int).toNat (s24.drop (atOf s23 (nx (2 : Int).toNat (s23.drop (atOf s1 (nx (10 : Int).toNat (s1.drop a.toNat)).2).toNat)).2).toNat)).1).name)), (.int .i64 (((drawX (2 : Int).toNat (s24.drop (atOf s23 (nx (2 : Int).toNat (s23.drop (atOf s1 (nx (10 : Int).toNat (s1.drop a.toNat)).2).toNat)).2).toNat)).1).slot)), (.int .i64 (((drawX (2 : Int).toNat (s24.drop (atOf s23 (nx (2 : Int).toNat (s23.drop (atOf s1 (nx (10 : Int).toNat (s1.drop a.toNat)).2).toNat)).2).toNat)).1).size)), (.sl 6 (((drawX (2 : Int).toNat (s24.drop (atOf s23 (nx (2 : Int).toNat (s23.drop (atOf s1 (nx (10 : Int).toNat (s1.drop a.toNat)).2).toNat)).2).toNat)).1).args)), (.int .i64 (((drawX (2 : Int).toNat (s25.drop (atOf s24 (drawX (2 : Int).toNat (s24.drop (atOf s23 (nx (2 : Int).toNat (s23.drop (atOf s1 (nx (10 : Int).toNat (s1.drop a.toNat)).2).toNat)).2).toNat)).2).toNat)).1).op)), (.int .i64 (((drawX (2 : Int).toNat (s25.drop (atOf s24 (drawX (2 : Int).toNat (s24.drop (atOf s23 (nx (2 : Int).toNat (s23.drop (atOf s1 (nx (10 : Int).toNat (s1.drop a.toNat)).2).toNat)).2).toNat)).2).toNat)).1).value)), (.str (((drawX (2 : Int).toNat (s25.drop (atOf s24 (drawX (2 : Int).toNat (s24.drop (atOf s23 (nx (2 : Int).toNat (s23.drop (atOf s1 (nx (10 : Int).toNat (s1.drop a.toNat)).2).toNat)).2).toNat)).2).toNat)).1).name)), (.int .i64 (((drawX (2 : Int).toNat (s25.drop (atOf s24 (drawX (2 : Int).toNat (s24.drop (atOf s23 (nx (2 : Int).toNat (s23.drop (atOf s1 (nx (10 : Int).toNat (s1.drop a.toNat)).2).toNat)).2).toNat)).2).toNat)).1).slot)), (.int .i64 (((drawX (2 : Int).toNat (s25.drop (atOf s24 (drawX (2 : Int).toNat (s24.drop (atOf s23 (nx (2 : Int).toNat (s23.drop (atOf s1 (nx (10 : Int).toNat (s1.drop a.toNat)).2).toNat)).2).toNat)).2).toNat)).1).size)), (.sl 6 (((drawX (2 : Int).toNat (s25.drop (atOf s24 (drawX (2 : Int).toNat (s24.drop (atOf s23 (nx (2 : Int).toNat (s23.drop (atOf s1 (nx (10 : Int).toNat (s1.drop a.toNat)).2).toNat)).2).toNat)).2).toNat)).1).args)), (.sl 18 []), (.sl 18 [])])]))), (8, (.d (.int .i64 (IntKind.i64.wrap (n - 1)))))], [[(.d (.sl 1 xs)), (.d (.int .i64 (atOf s25 (drawX (2 : Int).toNat (s25.drop (atOf s24 (drawX (2 : Int).toNat (s24.drop (atOf s23 (nx (2 : Int).toNat (s23.drop (atOf s1 (nx (10 : Int).toNat (s1.drop a.toNat)).2).toNat)).2).toNat)).2).toNat)).2)))]]⟩))
                        (.fail))
                      (.fail))
                    (.fail))
                  (.br (decide (((nx (2 : Int).toNat (s23.drop (atOf s1 (nx (10 : Int).toNat (s1.drop a.toNat)).2).toNat)).1 : Int) = ((1 : Nat) : Int)))
                    (.opt (unL unU8 xs) fun s26 => .br (decide (0 ≤ (atOf s23 (nx (2 : Int).toNat (s23.drop (atOf s1 (nx (10 : Int).toNat (s1.drop a.toNat)).2).toNat)).2) ∧ (atOf s23 (nx (2 : Int).toNat (s23.drop (atOf s1 (nx (10 : Int).toNat (s1.drop a.toNat)).2).toNat)).2) ≤ s26.length ∧ (s26.length : Int) ≤ 100000 ∧ 1 ≤ (2 : Int) ∧ (2 : Int) ≤ ((3 : Nat) : Int)))
                      (.opt (unL unU8 xs) fun s27 => .br (decide (0 ≤ (atOf s26 (drawX (2 : Int).toNat (s26.drop (atOf s23 (nx (2 : Int).toNat (s23.drop (atOf s1 (nx (10 : Int).toNat (s1.drop a.toNat)).2).toNat)).2).toNat)).2) ∧ (atOf s26 (drawX (2 : Int).toNat (s26.drop (atOf s23 (nx (2 : Int).toNat (s23.drop (atOf s1 (nx (10 : Int).toNat (s1.drop a.toNat)).2).toNat)).2).toNat)).2) ≤ s27.length ∧ (s27.length : Int) ≤ 100000 ∧ 1 ≤ (2 : Int) ∧ (2 : Int) ≤ ((3 : Nat) : Int)))
                        (.br (decide ((ys.length + ([(.agg [(.int .i64 2), (.str [98]), (.int .i64 0), (.int .i64 0), (.int .i64 (((drawX (2 : Int).toNat (s26.drop (atOf s23 (nx (2 : Int).toNat (s23.drop (atOf s1 (nx (10 : Int).toNat (s1.drop a.toNat)).2).toNat)).2).toNat)).1).op)), (.int .i64 (((drawX (2 : Int).toNat (s26.drop (atOf s23 (nx (2 : Int).toNat (s23.drop (atOf s1 (nx (10 : Int).toNat (s1.drop a.toNat)).2).toNat)).2).toNat)).1).value)), (.str (((drawX (2 : Int).toNat (s26.drop (atOf s23 (nx (2 : Int).toNat (s23.drop (atOf s1 (nx (10 : Int).toNat (s1.drop a.toNat)).2).toNat)).2).toNat)).1).name)), (.int .i64 (((drawX (2 : Int).toNat (s26.drop (atOf s23 (nx (2 : Int).toNat (s23.drop (atOf s1 (nx (10 : Int).toNat (s1.drop a.toNat)).2).toNat)).2).toNat)).1).slot)), (.int .i64 (((drawX (2 : Int).toNat (s26.drop (atOf s23 (nx (2 : Int).toNat (s23.drop (atOf s1 (nx (10 : Int).toNat (s1.drop a.toNat)).2).toNat)).2).toNat)).1).size)), (.sl 6 (((drawX (2 : Int).toNat (s26.drop (atOf s23 (nx (2 : Int).toNat (s23.drop (atOf s1 (nx (10 : Int).toNat (s1.drop a.toNat)).2).toNat)).2).toNat)).1).args)), (.int .i64 (((drawX (2 : Int).toNat (s27.drop (atOf s26 (drawX (2 : Int).toNat (s26.drop (atOf s23 (nx (2 : Int).toNat (s23.drop (atOf s1 (nx (10 : Int).toNat (s1.drop a.toNat)).2).toNat)).2).toNat)).2).toNat)).1).op)), (.int .i64 (((drawX (2 : Int).toNat (s27.drop (atOf s26 (drawX (2 : Int).toNat (s26.drop (atOf s23 (nx (2 : Int).toNat (s23.drop (atOf s1 (nx (10 : Int).toNat (s1.drop a.toNat)).2).toNat)).2).toNat)).2).toNat)).1).value)), (.str (((drawX (2 : Int).toNat (s27.drop (atOf s26 (drawX (2 : Int).toNat (s26.drop (atOf s23 (nx (2 : Int).toNat (s23.drop (atOf s1 (nx (10 : Int).toNat (s1.drop a.toNat)).2).toNat)).2).toNat)).2).toNat)).1).name)), (.int .i64 (((drawX (2 : Int).toNat (s27.drop (atOf s26 (drawX (2 : Int).toNat (s26.drop (atOf s23 (nx (2 : Int).toNat (s23.drop (atOf s1 (nx (10 : Int).toNat (s1.drop a.toNat)).2).toNat)).2).toNat)).2).toNat)).1).slot)), (.int .i64 (((drawX (2 : Int).toNat (s27.drop (atOf s26 (drawX (2 : Int).toNat (s26.drop (atOf s23 (nx (2 : Int).toNat (s23.drop (atOf s1 (nx (10 : Int).toNat (s1.drop a.toNat)).2).toNat)).2).toNat)).2).toNat)).1).size)), (.sl 6 (((drawX (2 : Int).toNat (s27.drop (atOf s26 (drawX (2 : Int).toNat (s26.drop (atOf s23 (nx (2 : Int).toNat (s23.drop (atOf s1 (nx (10 : Int).toNat (s1.drop a.toNat)).2).toNat)).2).toNat)).2).toNat)).1).args)), (.sl 18 []), (.sl 18 [])])] : List DV).length) * 232 ≤ 70368744177664))
                          (.leaf (.nrm, ⟨[(0, (.hp 0 0)), (2, (.d (.int .i64 d))), (7, (.osl 18 (ys ++ [(.agg [(.int .i64 2), (.str [98]), (.int .i64 0), (.int .i64 0), (.int .i64 (((drawX (2 : Int).toNat (s26.drop (atOf s23 (nx (2 : Int).toNat (s23.drop (atOf s1 (nx (10 : Int).toNat (s1.drop a.toNat)).2).toNat)).2).toNat)).1).op)), (.int .i64 (((drawX (2 : Int).toNat (s26.drop (atOf s23 (nx (2 : Int).toNat (s23.drop (atOf s1 (nx (10 : Int).toNat (s1.drop a.toNat)).2).toNat)).2).toNat)).1).value)), (.str (((drawX (2 : Int).toNat (s26.drop (atOf s23 (nx (2 : Int).toNat (s23.drop (atOf s1 (nx (10 : Int).toNat (s1.drop a.toNat)).2).toNat)).2).toNat)).1).name)), (.int .i64 (((drawX (2 : Int).toNat (s26.drop (atOf s23 (nx (2 : Int).toNat (s23.drop (atOf s1 (nx (10 : Int).toNat (s1.drop a.toNat)).2).toNat)).2).toNat)).1).slot)), (.int .i64 (((drawX (2 : Int).toNat (s26.drop (atOf s23 (nx (2 : Int).toNat (s23.drop (atOf s1 (nx (10 : Int).toNat (s1.drop a.toNat)).2).toNat)).2).toNat)).1).size)), (.sl 6 (((drawX (2 : Int).toNat (s26.drop (atOf s23 (nx (2 : Int).toNat (s23.drop (atOf s1 (nx (10 : Int).toNat (s1.drop a.toNat)).2).toNat)).2).toNat)).1).args)), (.int .i64 (((drawX (2 : Int).toNat (s27.drop (atOf s26 (drawX (2 : Int).toNat (s26.drop (atOf s23 (nx (2 : Int).toNat (s23.drop (atOf s1 (nx (10 : Int).toNat (s1.drop a.toNat)).2).toNat)).2).toNat)).2).toNat)).1).op)), (.int .i64 (((drawX (2 : Int).toNat (s27.drop (atOf s26 (drawX (2 : Int).toNat (s26.drop (atOf s23 (nx (2 : Int).toNat (s23.drop (atOf s1 (nx (10 : Int).toNat (s1.drop a.toNat)).2).toNat)).2).toNat)).2).toNat)).1).value)), (.str (((drawX (2 : Int).toNat (s27.drop (atOf s26 (drawX (2 : Int).toNat (s26.drop (atOf s23 (nx (2 : Int).toNat (s23.drop (atOf s1 (nx (10 : Int).toNat (s1.drop a.toNat)).2).toNat)).2).toNat)).2).toNat)).1).name)), (.int .i64 (((drawX (2 : Int).toNat (s27.drop (atOf s26 (drawX (2 : Int).toNat (s26.drop (atOf s23 (nx (2 : Int).toNat (s23.drop (atOf s1 (nx (10 : Int).toNat (s1.drop a.toNat)).2).toNat)).2).toNat)).2).toNat)).1).slot)), (.int .i64 (((drawX (2 : Int).toNat (s27.drop (atOf s26 (drawX (2 : Int).toNat (s26.drop (atOf s23 (nx (2 : Int).toNat (s23.drop (atOf s1 (nx (10 : Int).toNat (s1.drop a.toNat)).2).toNat)).2).toNat)).2).toNat)).1).size)), (.sl 6 (((drawX (2 : Int).toNat (s27.drop (atOf s26 (drawX (2 : Int).toNat (s26.drop (atOf s23 (nx (2 : Int).toNat (s23.drop (atOf s1 (nx (10 : Int).toNat (s1.drop a.toNat)).2).toNat)).2).toNat)).2).toNat)).1).args)), (.sl 18 []), (.sl 18 [])])]))), (8, (.d (.int .i64 (IntKind.i64.wrap (n - 1)))))], [[(.d (.sl 1 xs)), (.d (.int .i64 (atOf s27 (drawX (2 : Int).toNat (s27.drop (atOf s26 (drawX (2 : Int).toNat (s26.drop (atOf s23 (nx (2 : Int).toNat (s23.drop (atOf s1 (nx (10 : Int).toNat (s1.drop a.toNat)).2).toNat)).2).toNat)).2).toNat)).2)))]]⟩))
                          (.fail))
                        (.fail))
                      (.fail))
                    (.fail)))
                (.fail))
              (.br (decide (((nx (10 : Int).toNat (s1.drop a.toNat)).1 : Int) < 6))
                (.opt (unL unU8 xs) fun s28 => .br (decide (0 ≤ (atOf s1 (nx (10 : Int).toNat (s1.drop a.toNat)).2) ∧ (atOf s1 (nx (10 : Int).toNat (s1.drop a.toNat)).2) ≤ s28.length ∧ (s28.length : Int) ≤ 100000 ∧ 1 ≤ (2 : Int) ∧ (2 : Int) ≤ ((3 : Nat) : Int)))
                  (.opt (unL unU8 xs) fun s29 => .br (decide (0 ≤ (atOf s28 (drawX (2 : Int).toNat (s28.drop (atOf s1 (nx (10 : Int).toNat (s1.drop a.toNat)).2).toNat)).2) ∧ (atOf s28 (drawX (2 : Int).toNat (s28.drop (atOf s1 (nx (10 : Int).toNat (s1.drop a.toNat)).2).toNat)).2) ≤ s29.length ∧ (s29.length : Int) ≤ 100000 ∧ 1 ≤ (2 : Int) ∧ (2 : Int) ≤ ((3 : Nat) : Int)))
                    (.br (decide ((ys.length + ([(.agg [(.int .i64 5), (.str []), (.int .i64 0), (.int .i64 0), (.int .i64 (((drawX (2 : Int).toNat (s28.drop (atOf s1 (nx (10 : Int).toNat (s1.drop a.toNat)).2).toNat)).1).op)), (.int .i64 (((drawX (2 : Int).toNat (s28.drop (atOf s1 (nx (10 : Int).toNat (s1.drop a.toNat)).2).toNat)).1).value)), (.str (((drawX (2 : Int).toNat (s28.drop (atOf s1 (nx (10 : Int).toNat (s1.drop a.toNat)).2).toNat)).1).name)), (.int .i64 (((drawX (2 : Int).toNat (s28.drop (atOf s1 (nx (10 : Int).toNat (s1.drop a.toNat)).2).toNat)).1).slot)), (.int .i64 (((drawX (2 : Int).toNat (s28.drop (atOf s1 (nx (10 : Int).toNat (s1.drop a.toNat)).2).toNat)).1).size)), (.sl 6 (((drawX (2 : Int).toNat (s28.drop (atOf s1 (nx (10 : Int).toNat (s1.drop a.toNat)).2).toNat)).1).args)), (.int .i64 (((drawX (2 : Int).toNat (s29.drop (atOf s28 (drawX (2 : Int).toNat (s28.drop (atOf s1 (nx (10 : Int).toNat (s1.drop a.toNat)).2).toNat)).2).toNat)).1).op)), (.int .i64 (((drawX (2 : Int).toNat (s29.drop (atOf s28 (drawX (2 : Int).toNat (s28.drop (atOf s1 (nx (10 : Int).toNat (s1.drop a.toNat)).2).toNat)).2).toNat)).1).value)), (.str (((drawX (2 : Int).toNat (s29.drop (atOf s28 (drawX (2 : Int).toNat (s28.drop (atOf s1 (nx (10 : Int).toNat (s1.drop a.toNat)).2).toNat)).2).toNat)).1).name)), (.int .i64 (((drawX (2 : Int).toNat (s29.drop (atOf s28 (drawX (2 : Int).toNat (s28.drop (atOf s1 (nx (10 : Int).toNat (s1.drop a.toNat)).2).toNat)).2).toNat)).1).slot)), (.int .i64 (((drawX (2 : Int).toNat (s29.drop (atOf s28 (drawX (2 : Int).toNat (s28.drop (atOf s1 (nx (10 : Int).toNat (s1.drop a.toNat)).2).toNat)).2).toNat)).1).size)), (.sl 6 (((drawX (2 : Int).toNat (s29.drop (atOf s28 (drawX (2 : Int).toNat (s28.drop (atOf s1 (nx (10 : Int).toNat (s1.drop a.toNat)).2).toNat)).2).toNat)).1).args)), (.sl 18 []), (.sl 18 [])])] : List DV).length) * 232 ≤ 70368744177664))
                      (.leaf (.nrm, ⟨[(0, (.hp 0 0)), (2, (.d (.int .i64 d))), (7, (.osl 18 (ys ++ [(.agg [(.int .i64 5), (.str []), (.int .i64 0), (.int .i64 0), (.int .i64 (((drawX (2 : Int).toNat (s28.drop (atOf s1 (nx (10 : Int).toNat (s1.drop a.toNat)).2).toNat)).1).op)), (.int .i64 (((drawX (2 : Int).toNat (s28.drop (atOf s1 (nx (10 : Int).toNat (s1.drop a.toNat)).2).toNat)).1).value)), (.str (((drawX (2 : Int).toNat (s28.drop (atOf s1 (nx (10 : Int).toNat (s1.drop a.toNat)).2).toNat)).1).name)), (.int .i64 (((drawX (2 : Int).toNat (s28.drop (atOf s1 (nx (10 : Int).toNat (s1.drop a.toNat)).2).toNat)).1).slot)), (.int .i64 (((drawX (2 : Int).toNat (s28.drop (atOf s1 (nx (10 : Int).toNat (s1.drop a.toNat)).2).toNat)).1).size)), (.sl 6 (((drawX (2 : Int).toNat (s28.drop (atOf s1 (nx (10 : Int).toNat (s1.drop a.toNat)).2).toNat)).1).args)), (.int .i64 (((drawX (2 : Int).toNat (s29.drop (atOf s28 (drawX (2 : Int).toNat (s28.drop (atOf s1 (nx (10 : Int).toNat (s1.drop a.toNat)).2).toNat)).2).toNat)).1).op)), (.int .i64 (((drawX (2 : Int).toNat (s29.drop (atOf s28 (drawX (2 : Int).toNat (s28.drop (atOf s1 (nx (10 : Int).toNat (s1.drop a.toNat)).2).toNat)).2).toNat)).1).value)), (.str (((drawX (2 : Int).toNat (s29.drop (atOf s28 (drawX (2 : Int).toNat (s28.drop (atOf s1 (nx (10 : Int).toNat (s1.drop a.toNat)).2).toNat)).2).toNat)).1).name)), (.int .i64 (((drawX (2 : Int).toNat (s29.drop (atOf s28 (drawX (2 : Int).toNat (s28.drop (atOf s1 (nx (10 : Int).toNat (s1.drop a.toNat)).2).toNat)).2).toNat)).1).slot)), (.int .i64 (((drawX (2 : Int).toNat (s29.drop (atOf s28 (drawX (2 : Int).toNat (s28.drop (atOf s1 (nx (10 : Int).toNat (s1.drop a.toNat)).2).toNat)).2).toNat)).1).size)), (.sl 6 (((drawX (2 : Int).toNat (s29.drop (atOf s28 (drawX (2 : Int).toNat (s28.drop (atOf s1 (nx (10 : Int).toNat (s1.drop a.toNat)).2).toNat)).2).toNat)).1).args)), (.sl 18 []), (.sl 18 [])])]))), (8, (.d (.int .i64 (IntKind.i64.wrap (n - 1)))))], [[(.d (.sl 1 xs)), (.d (.int .i64 (atOf s29 (drawX (2 : Int).toNat (s29.drop (atOf s28 (drawX (2 : Int).toNat (s28.drop (atOf s1 (nx (10 : Int).toNat (s1.drop a.toNat)).2).toNat)).2).toNat)).2)))]]⟩))
                      (.fail))
                    (.fail))
                  (.fail))
                (.br (decide (((nx (10 : Int).toNat (s1.drop a.toNat)).1 : Int) = 6))
                  (.opt (unL unU8 xs) fun s30 => .br (decide (0 ≤ (atOf s1 (nx (10 : Int).toNat (s1.drop a.toNat)).2) ∧ (atOf s1 (nx (10 : Int).toNat (s1.drop a.toNat)).2) ≤ s30.length ∧ (s30.length : Int) ≤ 100000 ∧ 1 ≤ (2 : Int) ∧ (2 : Int) ≤ ((3 : Nat) : Int)))
                    (.br (decide ((ys.length + ([(.agg [(.int .i64 6), (.str []), (.int .i64 0), (.int .i64 0), (.int .i64 0), (.int .i64 0), (.str []), (.int .i64 0), (.int .i64 0), (.sl 6 []), (.int .i64 (((drawX (2 : Int).toNat (s30.drop (atOf s1 (nx (10 : Int).toNat (s1.drop a.toNat)).2).toNat)).1).op)), (.int .i64 (((drawX (2 : Int).toNat (s30.drop (atOf s1 (nx (10 : Int).toNat (s1.drop a.toNat)).2).toNat)).1).value)), (.str (((drawX (2 : Int).toNat (s30.drop (atOf s1 (nx (10 : Int).toNat (s1.drop a.toNat)).2).toNat)).1).name)), (.int .i64 (((drawX (2 : Int).toNat (s30.drop (atOf s1 (nx (10 : Int).toNat (s1.drop a.toNat)).2).toNat)).1).slot)), (.int .i64 (((drawX (2 : Int).toNat (s30.drop (atOf s1 (nx (10 : Int).toNat (s1.drop a.toNat)).2).toNat)).1).size)), (.sl 6 (((drawX (2 : Int).toNat (s30.drop (atOf s1 (nx (10 : Int).toNat (s1.drop a.toNat)).2).toNat)).1).args)), (.sl 18 []), (.sl 18 [])])] : List DV).length) * 232 ≤ 70368744177664))
                      (.leaf (.nrm, ⟨[(0, (.hp 0 0)), (2, (.d (.int .i64 d))), (7, (.osl 18 (ys ++ [(.agg [(.int .i64 6), (.str []), (.int .i64 0), (.int .i64 0), (.int .i64 0), (.int .i64 0), (.str []), (.int .i64 0), (.int .i64 0), (.sl 6 []), (.int .i64 (((drawX (2 : Int).toNat (s30.drop (atOf s1 (nx (10 : Int).toNat (s1.drop a.toNat)).2).toNat)).1).op)), (.int .i64 (((drawX (2 : Int).toNat (s30.drop (atOf s1 (nx (10 : Int).toNat (s1.drop a.toNat)).2).toNat)).1).value)), (.str (((drawX (2 : Int).toNat (s30.drop (atOf s1 (nx (10 : Int).toNat (s1.drop a.toNat)).2).toNat)).1).name)), (.int .i64 (((drawX (2 : Int).toNat (s30.drop (atOf s1 (nx (10 : Int).toNat (s1.drop a.toNat)).2).toNat)).1).slot)), (.int .i64 (((drawX (2 : Int).toNat (s30.drop (atOf s1 (nx (10 : Int).toNat (s1.drop a.toNat)).2).toNat)).1).size)), (.sl 6 (((drawX (2 : Int).toNat (s30.drop (atOf s1 (nx (10 : Int).toNat (s1.drop a.toNat)).2).toNat)).1).args)), (.sl 18 []), (.sl 18 [])])]))), (8, (.d (.int .i64 (IntKind.i64.wrap (n - 1)))))], [[(.d (.sl 1 xs)), (.d (.int .i64 (atOf s30 (drawX (2 : Int).toNat (s30.drop (atOf s1 (nx (10 : Int).toNat (s1.drop a.toNat)).2).toNat)).2)))]]⟩))
                      (.fail))
                    (.fail))
                  (.br (decide (((nx (10 : Int).toNat (s1.drop a.toNat)).1 : Int) < 9))
                    (.opt (unL unU8 xs) fun s31 => .br (decide (0 ≤ (atOf s1 (nx (10 : Int).toNat (s1.drop a.toNat)).2) ∧ (atOf s1 (nx (10 : Int).toNat (s1.drop a.toNat)).2) ≤ s31.length ∧ (s31.length : Int) ≤ 100000 ∧ 1 ≤ (2 : Int) ∧ (2 : Int) ≤ ((3 : Nat) : Int)))
                      (.opt (unL unU8 xs) fun s32 => .br (decide (0 ≤ (atOf s31 (drawX (2 : Int).toNat (s31.drop (atOf s1 (nx (10 : Int).toNat (s1.drop a.toNat)).2).toNat)).2) ∧ (atOf s31 (drawX (2 : Int).toNat (s31.drop (atOf s1 (nx (10 : Int).toNat (s1.drop a.toNat)).2).toNat)).2) ≤ s32.length ∧ (s32.length : Int) ≤ 100000 ∧ 0 ≤ (2 : Int) ∧ (2 : Int) ≤ 255 ∧ 1 ≤ (IntKind.i64.wrap (d - 1)) ∧ (IntKind.i64.wrap (d - 1)) ≤ N))
                        (.opt (unL unU8 xs) fun s33 => .br (decide (0 ≤ (atOf s32 (drawS (IntKind.i64.wrap (d - 1)).toNat (2 : Int).toNat (s32.drop (atOf s31 (drawX (2 : Int).toNat (s31.drop (atOf s1 (nx (10 : Int).toNat (s1.drop a.toNat)).2).toNat)).2).toNat)).2) ∧ (atOf s32 (drawS (IntKind.i64.wrap (d - 1)).toNat (2 : Int).toNat (s32.drop (atOf s31 (drawX (2 : Int).toNat (s31.drop (atOf s1 (nx (10 : Int).toNat (s1.drop a.toNat)).2).toNat)).2).toNat)).2) ≤ s33.length ∧ (s33.length : Int) ≤ 100000 ∧ 0 ≤ (1 : Int) ∧ (1 : Int) ≤ 255 ∧ 1 ≤ (IntKind.i64.wrap (d - 1)) ∧ (IntKind.i64.wrap (d - 1)) ≤ N))
                          (.br (decide ((ys.length + ([(.agg [(.int .i64 3), (.str []), (.int .i64 0), (.int .i64 0), (.int .i64 0), (.int .i64 0), (.str []), (.int .i64 0), (.int .i64 0), (.sl 6 []), (.int .i64 (((drawX (2 : Int).toNat (s31.drop (atOf s1 (nx (10 : Int).toNat (s1.drop a.toNat)).2).toNat)).1).op)), (.int .i64 (((drawX (2 : Int).toNat (s31.drop (atOf s1 (nx (10 : Int).toNat (s1.drop a.toNat)).2).toNat)).1).value)), (.str (((drawX (2 : Int).toNat (s31.drop (atOf s1 (nx (10 : Int).toNat (s1.drop a.toNat)).2).toNat)).1).name)), (.int .i64 (((drawX (2 : Int).toNat (s31.drop (atOf s1 (nx (10 : Int).toNat (s1.drop a.toNat)).2).toNat)).1).slot)), (.int .i64 (((drawX (2 : Int).toNat (s31.drop (atOf s1 (nx (10 : Int).toNat (s1.drop a.toNat)).2).toNat)).1).size)), (.sl 6 (((drawX (2 : Int).toNat (s31.drop (atOf s1 (nx (10 : Int).toNat (s1.drop a.toNat)).2).toNat)).1).args)), (.sl 18 ((drawS (IntKind.i64.wrap (d - 1)).toNat (2 : Int).toNat (s32.drop (atOf s31 (drawX (2 : Int).toNat (s31.drop (atOf s1 (nx (10 : Int).toNat (s1.drop a.toNat)).2).toNat)).2).toNat)).1.map encSt)), (.sl 18 ((drawS (IntKind.i64.wrap (d - 1)).toNat (1 : Int).toNat (s33.drop (atOf s32 (drawS (IntKind.i64.wrap (d - 1)).toNat (2 : Int).toNat (s32.drop (atOf s31 (drawX (2 : Int).toNat (s31.drop (atOf s1 (nx (10 : Int).toNat (s1.drop a.toNat)).2).toNat)).2).toNat)).2).toNat)).1.map encSt))])] : List DV).length) * 232 ≤ 70368744177664))
                            (.leaf (.nrm, ⟨[(0, (.hp 0 0)), (2, (.d (.int .i64 d))), (7, (.osl 18 (ys ++ [(.agg [(.int .i64 3), (.str []), (.int .i64 0), (.int .i64 0), (.int .i64 0), (.int .i64 0), (.str []), (.int .i64 0), (.int .i64 0), (.sl 6 []), (.int .i64 (((drawX (2 : Int).toNat (s31.drop (atOf s1 (nx (10 : Int).toNat (s1.drop a.toNat)).2).toNat)).1).op)), (.int .i64 (((drawX (2 : Int).toNat (s31.drop (atOf s1 (nx (10 : Int).toNat (s1.drop a.toNat)).2).toNat)).1).value)), (.str (((drawX (2 : Int).toNat (s31.drop (atOf s1 (nx (10 : Int).toNat (s1.drop a.toNat)).2).toNat)).1).name)), (.int .i64 (((drawX (2 : Int).toNat (s31.drop (atOf s1 (nx (10 : Int).toNat (s1.drop a.toNat)).2).toNat)).1).slot)), (.int .i64 (((drawX (2 : Int).toNat (s31.drop (atOf s1 (nx (10 : Int).toNat (s1.drop a.toNat)).2).toNat)).1).size)), (.sl 6 (((drawX (2 : Int).toNat (s31.drop (atOf s1 (nx (10 : Int).toNat (s1.drop a.toNat)).2).toNat)).1).args)), (.sl 18 ((drawS (IntKind.i64.wrap (d - 1)).toNat (2 : Int).toNat (s32.drop (atOf s31 (drawX (2 : Int).toNat (s31.drop (atOf s1 (nx (10 : Int).toNat (s1.drop a.toNat)).2).toNat)).2).toNat)).1.map encSt)), (.sl 18 ((drawS (IntKind.i64.wrap (d - 1)).toNat (1 : Int).toNat (s33.drop (atOf s32 (drawS (IntKind.i64.wrap (d - 1)).toNat (2 : Int).toNat (s32.drop (atOf s31 (drawX (2 : Int).toNat (s31.drop (atOf s1 (nx (10 : Int).toNat (s1.drop a.toNat)).2).toNat)).2).toNat)).2).toNat)).1.map encSt))])]))), (8, (.d (.int .i64 (IntKind.i64.wrap (n - 1)))))], [[(.d (.sl 1 xs)), (.d (.int .i64 (atOf s33 (drawS (IntKind.i64.wrap (d - 1)).toNat (1 : Int).toNat (s33.drop (atOf s32 (drawS (IntKind.i64.wrap (d - 1)).toNat (2 : Int).toNat (s32.drop (atOf s31 (drawX (2 : Int).toNat (s31.drop (atOf s1 (nx (10 : Int).toNat (s1.drop a.toNat)).2).toNat)).2).toNat)).2).toNat)).2)))]]⟩))
                            (.fail))
                          (.fail))
                        (.fail))
                      (.fail))
                    (.opt (unL unU8 xs) fun s34 => .br (decide (0 ≤ (atOf s1 (nx (10 : Int).toNat (s1.drop a.toNat)).2) ∧ (atOf s1 (nx (10 : Int).toNat (s1.drop a.toNat)).2) ≤ s34.length ∧ (s34.length : Int) ≤ 100000 ∧ 1 ≤ (2 : Int) ∧ (2 : Int) ≤ ((3 : Nat) : Int)))
                      (.opt (unL unU8 xs) fun s35 => .br (decide (0 ≤ (atOf s34 (drawX (2 : Int).toNat (s34.drop (atOf s1 (nx (10 : Int).toNat (s1.drop a.toNat)).2).toNat)).2) ∧ (atOf s34 (drawX (2 : Int).toNat (s34.drop (atOf s1 (nx (10 : Int).toNat (s1.drop a.toNat)).2).toNat)).2) ≤ s35.length ∧ (s35.length : Int) ≤ 100000 ∧ 0 ≤ (2 : Int) ∧ (2 : Int) ≤ 255 ∧ 1 ≤ (IntKind.i64.wrap (d - 1)) ∧ (IntKind.i64.wrap (d - 1)) ≤ N))
                        (.br (decide ((ys.length + ([(.agg [(.int .i64 4), (.str []), (.int .i64 0), (.int .i64 0), (.int .i64 0), (.int .i64 0), (.str []), (.int .i64 0), (.int .i64 0), (.sl 6 []), (.int .i64 (((drawX (2 : Int).toNat (s34.drop (atOf s1 (nx (10 : Int).toNat (s1.drop a.toNat)).2).toNat)).1).op)), (.int .i64 (((drawX (2 : Int).toNat (s34.drop (atOf s1 (nx (10 : Int).toNat (s1.drop a.toNat)).2).toNat)).1).value)), (.str (((drawX (2 : Int).toNat (s34.drop (atOf s1 (nx (10 : Int).toNat (s1.drop a.toNat)).2).toNat)).1).name)), (.int .i64 (((drawX (2 : Int).toNat (s34.drop (atOf s1 (nx (10 : Int).toNat (s1.drop a.toNat)).2).toNat)).1).slot)), (.int .i64 (((drawX (2 : Int).toNat (s34.drop (atOf s1 (nx (10 : Int).toNat (s1.drop a.toNat)).2).toNat)).1).size)), (.sl 6 (((drawX (2 : Int).toNat (s34.drop (atOf s1 (nx (10 : Int).toNat (s1.drop a.toNat)).2).toNat)).1).args)), (.sl 18 ((drawS (IntKind.i64.wrap (d - 1)).toNat (2 : Int).toNat (s35.drop (atOf s34 (drawX (2 : Int).toNat (s34.drop (atOf s1 (nx (10 : Int).toNat (s1.drop a.toNat)).2).toNat)).2).toNat)).1.map encSt)), (.sl 18 [])])] : List DV).length) * 232 ≤ 70368744177664))
                          (.leaf (.nrm, ⟨[(0, (.hp 0 0)), (2, (.d (.int .i64 d))), (7, (.osl 18 (ys ++ [(.agg [(.int .i64 4), (.str []), (.int .i64 0), (.int .i64 0), (.int .i64 0), (.int .i64 0), (.str []), (.int .i64 0), (.int .i64 0), (.sl 6 []), (.int .i64 (((drawX (2 : Int).toNat (s34.drop (atOf s1 (nx (10 : Int).toNat (s1.drop a.toNat)).2).toNat)).1).op)), (.int .i64 (((drawX (2 : Int).toNat (s34.drop (atOf s1 (nx (10 : Int).toNat (s1.drop a.toNat)).2).toNat)).1).value)), (.str (((drawX (2 : Int).toNat (s34.drop (atOf s1 (nx (10 : Int).toNat (s1.drop a.toNat)).2).toNat)).1).name)), (.int .i64 (((drawX (2 : Int).toNat (s34.drop (atOf s1 (nx (10 : Int).toNat (s1.drop a.toNat)).2).toNat)).1).slot)), (.int .i64 (((drawX (2 : Int).toNat (s34.drop (atOf s1 (nx (10 : Int).toNat (s1.drop a.toNat)).2).toNat)).1).size)), (.sl 6 (((drawX (2 : Int).toNat (s34.drop (atOf s1 (nx (10 : Int).toNat (s1.drop a.toNat)).2).toNat)).1).args)), (.sl 18 ((drawS (IntKind.i64.wrap (d - 1)).toNat (2 : Int).toNat (s35.drop (atOf s34 (drawX (2 : Int).toNat (s34.drop (atOf s1 (nx (10 : Int).toNat (s1.drop a.toNat)).2).toNat)).2).toNat)).1.map encSt)), (.sl 18 [])])]))), (8, (.d (.int .i64 (IntKind.i64.wrap (n - 1)))))], [[(.d (.sl 1 xs)), (.d (.int .i64 (atOf s35 (drawS (IntKind.i64.wrap (d - 1)).toNat (2 : Int).toNat (s35.drop (atOf s34 (drawX (2 : Int).toNat (s34.drop (atOf s1 (nx (10 : Int).toNat (s1.drop a.toNat)).2).toNat)).2).toNat)).2)))]]⟩))
                          (.fail))
                        (.fail))
                      (.fail))))))))
        (.br (decide (((nx (10 : Int).toNat (s1.drop a.toNat)).1 : Int) < 3))
          (.opt (unL unU8 xs) fun s36 => .br (decide (0 ≤ (atOf s1 (nx (10 : Int).toNat (s1.drop a.toNat)).2) ∧ (atOf s1 (nx (10 : Int).toNat (s1.drop a.toNat)).2) ≤ s36.length ∧ (s36.length : Int) ≤ 100000 ∧ 0 < (3 : Int) ∧ (3 : Int) ≤ 256))
            (.br (decide (((nx (3 : Int).toNat (s36.drop (atOf s1 (nx (10 : Int).toNat (s1.drop a.toNat)).2).toNat)).1 : Int) = ((0 : Nat) : Int)))
              (.opt (unL unU8 xs) fun s37 => .br (decide (0 ≤ (atOf s36 (nx (3 : Int).toNat (s36.drop (atOf s1 (nx (10 : Int).toNat (s1.drop a.toNat)).2).toNat)).2) ∧ (atOf s36 (nx (3 : Int).toNat (s36.drop (atOf s1 (nx (10 : Int).toNat (s1.drop a.toNat)).2).toNat)).2) ≤ s37.length ∧ (s37.length : Int) ≤ 100000 ∧ 1 ≤ (3 : Int) ∧ (3 : Int) ≤ ((3 : Nat) : Int)))
                (.br (decide ((ys.length + ([(.agg [(.int .i64 1), (.str [120]), (.int .i64 0), (.int .i64 0), (.int .i64 0), (.int .i64 0), (.str []), (.int .i64 0), (.int .i64 0), (.sl 6 []), (.int .i64 (((drawX (3 : Int).toNat (s37.drop (atOf s36 (nx (3 : Int).toNat (s36.drop (atOf s1 (nx (10 : Int).toNat (s1.drop a.toNat)).2).toNat)).2).toNat)).1).op)), (.int .i64 (((drawX (3 : Int).toNat (s37.drop (atOf s36 (nx (3 : Int).toNat (s36.drop (atOf s1 (nx (10 : Int).toNat (s1.drop a.toNat)).2).toNat)).2).toNat)).1).value)), (.str (((drawX (3 : Int).toNat (s37.drop (atOf s36 (nx (3 : Int).toNat (s36.drop (atOf s1 (nx (10 : Int).toNat (s1.drop a.toNat)).2).toNat)).2).toNat)).1).name)), (.int .i64 (((drawX (3 : Int).toNat (s37.drop (atOf s36 (nx (3 : Int).toNat (s36.drop (atOf s1 (nx (10 : Int).toNat (s1.drop a.toNat)).2).toNat)).2).toNat)).1).slot)), (.int .i64 (((drawX (3 : Int).toNat (s37.drop (atOf s36 (nx (3 : Int).toNat (s36.drop (atOf s1 (nx (10 : Int).toNat (s1.drop a.toNat)).2).toNat)).2).toNat)).1).size)), (.sl 6 (((drawX (3 : Int).toNat (s37.drop (atOf s36 (nx (3 : Int).toNat (s36.drop (atOf s1 (nx (10 : Int).toNat (s1.drop a.toNat)).2).toNat)).2).toNat)).1).args)), (.sl 18 []), (.sl 18 [])])] : List DV).length) * 232 ≤ 70368744177664))
                  (.leaf (.nrm, ⟨[(0, (.hp 0 0)), (2, (.d (.int .i64 d))), (7, (.osl 18 (ys ++ [(.agg [(.int .i64 1), (.str [120]), (.int .i64 0), (.int .i64 0), (.int .i64 0), (.int .i64 0), (.str []), (.int .i64 0), (.int .i64 0), (.sl 6 []), (.int .i64 (((drawX (3 : Int).toNat (s37.drop (atOf s36 (nx (3 : Int).toNat (s36.drop (atOf s1 (nx (10 : Int).toNat (s1.drop a.toNat)).2).toNat)).2).toNat)).1).op)), (.int .i64 (((drawX (3 : Int).toNat (s37.drop (atOf s36 (nx (3 : Int).toNat (s36.drop (atOf s1 (nx (10 : Int).toNat (s1.drop a.toNat)).2).toNat)).2).toNat)).1).value)), (.str (((drawX (3 : Int).toNat (s37.drop (atOf s36 (nx (3 : Int).toNat (s36.drop (atOf s1 (nx (10 : Int).toNat (s1.drop a.toNat)).2).toNat)).2).toNat)).1).name)), (.int .i64 (((drawX (3 : Int).toNat (s37.drop (atOf s36 (nx (3 : Int).toNat (s36.drop (atOf s1 (nx (10 : Int).toNat (s1.drop a.toNat)).2).toNat)).2).toNat)).1).slot)), (.int .i64 (((drawX (3 : Int).toNat (s37.drop (atOf s36 (nx (3 : Int).toNat (s36.drop (atOf s1 (nx (10 : Int).toNat (s1.drop a.toNat)).2).toNat)).2).toNat)).1).size)), (.sl 6 (((drawX (3 : Int).toNat (s37.drop (atOf s36 (nx (3 : Int).toNat (s36.drop (atOf s1 (nx (10 : Int).toNat (s1.drop a.toNat)).2).toNat)).2).toNat)).1).args)), (.sl 18 []), (.sl 18 [])])]))), (8, (.d (.int .i64 (IntKind.i64.wrap (n - 1)))))], [[(.d (.sl 1 xs)), (.d (.int .i64 (atOf s37 (drawX (3 : Int).toNat (s37.drop (atOf s36 (nx (3 : Int).toNat (s36.drop (atOf s1 (nx (10 : Int).toNat (s1.drop a.toNat)).2).toNat)).2).toNat)).2)))]]⟩))
                  (.fail))
                (.fail))
              (.br (decide (((nx (3 : Int).toNat (s36.drop (atOf s1 (nx (10 : Int).toNat (s1.drop a.toNat)).2).toNat)).1 : Int) = ((1 : Nat) : Int)))
                (.opt (unL unU8 xs) fun s38 => .br (decide (0 ≤ (atOf s36 (nx (3 : Int).toNat (s36.drop (atOf s1 (nx (10 : Int).toNat (s1.drop a.toNat)).2).toNat)).2) ∧ (atOf s36 (nx (3 : Int).toNat (s36.drop (atOf s1 (nx (10 : Int).toNat (s1.drop a.toNat)).2).toNat)).2) ≤ s38.length ∧ (s38.length : Int) ≤ 100000 ∧ 1 ≤ (3 : Int) ∧ (3 : Int) ≤ ((3 : Nat) : Int)))
                  (.br (decide ((ys.length + ([(.agg [(.int .i64 1), (.str [121]), (.int .i64 0), (.int .i64 0), (.int .i64 0), (.int .i64 0), (.str []), (.int .i64 0), (.int .i64 0), (.sl 6 []), (.int .i64 (((drawX (3 : Int).toNat (s38.drop (atOf s36 (nx (3 : Int).toNat (s36.drop (atOf s1 (nx (10 : Int).toNat (s1.drop a.toNat)).2).toNat)).2).toNat)).1).op)), (.int .i64 (((drawX (3 : Int).toNat (s38.drop (atOf s36 (nx (3 : Int).toNat (s36.drop (atOf s1 (nx (10 : Int).toNat (s1.drop a.toNat)).2).toNat)).2).toNat)).1).value)), (.str (((drawX (3 : Int).toNat (s38.drop (atOf s36 (nx (3 : Int).toNat (s36.drop (atOf s1 (nx (10 : Int).toNat (s1.drop a.toNat)).2).toNat)).2).toNat)).1).name)), (.int .i64 (((drawX (3 : Int).toNat (s38.drop (atOf s36 (nx (3 : Int).toNat (s36.drop (atOf s1 (nx (10 : Int).toNat (s1.drop a.toNat)).2).toNat)).2).toNat)).1).slot)), (.int .i64 (((drawX (3 : Int).toNat (s38.drop (atOf s36 (nx (3 : Int).toNat (s36.drop (atOf s1 (nx (10 : Int).toNat (s1.drop a.toNat)).2).toNat)).2).toNat)).1).size)), (.sl 6 (((drawX (3 : Int).toNat (s38.drop (atOf s36 (nx (3 : Int).toNat (s36.drop (atOf s1 (nx (10 : Int).toNat (s1.drop a.toNat)).2).toNat)).2).toNat)).1).args)), (.sl 18 []), (.sl 18 [])])] : List DV).length) * 232 ≤ 70368744177664))
                    (.leaf (.nrm, ⟨[(0, (.hp 0 0)), (2, (.d (.int .i64 d))), (7, (.osl 18 (ys ++ [(.agg [(.int .i64 1), (.str [121]), (.int .i64 0), (.int .i64 0), (.int .i64 0), (.int .i64 0), (.str []), (.int .i64 0), (.int .i64 0), (.sl 6 []), (.int .i64 (((drawX (3 : Int).toNat (s38.drop (atOf s36 (nx (3 : Int).toNat (s36.drop (atOf s1 (nx (10 : Int).toNat (s1.drop a.toNat)).2).toNat)).2).toNat)).1).op)), (.int .i64 (((drawX (3 : Int).toNat (s38.drop (atOf s36 (nx (3 : Int).toNat (s36.drop (atOf s1 (nx (10 : Int).toNat (s1.drop a.toNat)).2).toNat)).2).toNat)).1).value)), (.str (((drawX (3 : Int).toNat (s38.drop (atOf s36 (nx (3 : Int).toNat (s36.drop (atOf s1 (nx (10 : Int).toNat (s1.drop a.toNat)).2).toNat)).2).toNat)).1).name)), (.int .i64 (((drawX (3 : Int).toNat (s38.drop (atOf s36 (nx (3 : Int).toNat (s36.drop (atOf s1 (nx (10 : Int).toNat (s1.drop a.toNat)).2).toNat)).2).toNat)).1).slot)), (.int .i64 (((drawX (3 : Int).toNat (s38.drop (atOf s36 (nx (3 : Int).toNat (s36.drop (atOf s1 (nx (10 : Int).toNat (s1.drop a.toNat)).2).toNat)).2).toNat)).1).size)), (.sl 6 (((drawX (3 : Int).toNat (s38.drop (atOf s36 (nx (3 : Int).toNat (s36.drop (atOf s1 (nx (10 : Int).toNat (s1.drop a.toNat)).2).toNat)).2).toNat)).1).args)), (.sl 18 []), (.sl 18 [])])]))), (8, (.d (.int .i64 (IntKind.i64.wrap (n - 1)))))], [[(.d (.sl 1 xs)), (.d (.int .i64 (atOf s38 (drawX (3 : Int).toNat (s38.drop (atOf s36 (nx (3 : Int).toNat (s36.drop (atOf s1 (nx (10 : Int).toNat (s1.drop a.toNat)).2).toNat)).2).toNat)).2)))]]⟩))
                    (.fail))
                  (.fail))
                (.br (decide (((nx (3 : Int).toNat (s36.drop (atOf s1 (nx (10 : Int).toNat (s1.drop a.toNat)).2).toNat)).1 : Int) = ((2 : Nat) : Int)))
                  (.opt (unL unU8 xs) fun s39 => .br (decide (0 ≤ (atOf s36 (nx (3 : Int).toNat (s36.drop (atOf s1 (nx (10 : Int).toNat (s1.drop a.toNat)).2).toNat)).2) ∧ (atOf s36 (nx (3 : Int).toNat (s36.drop (atOf s1 (nx (10 : Int).toNat (s1.drop a.toNat)).2).toNat)).2) ≤ s39.length ∧ (s39.length : Int) ≤ 100000 ∧ 1 ≤ (3 : Int) ∧ (3 : Int) ≤ ((3 : Nat) : Int)))
                    (.br (decide ((ys.length + ([(.agg [(.int .i64 1), (.str [122]), (.int .i64 0), (.int .i64 0), (.int .i64 0), (.int .i64 0), (.str []), (.int .i64 0), (.int .i64 0), (.sl 6 []), (.int .i64 (((drawX (3 : Int).toNat (s39.drop (atOf s36 (nx (3 : Int).toNat (s36.drop (atOf s1 (nx (10 : Int).toNat (s1.drop a.toNat)).2).toNat)).2).toNat)).1).op)), (.int .i64 (((drawX (3 : Int).toNat (s39.drop (atOf s36 (nx (3 : Int).toNat (s36.drop (atOf s1 (nx (10 : Int).toNat (s1.drop a.toNat)).2).toNat)).2).toNat)).1).value)), (.str (((drawX (3 : Int).toNat (s39.drop (atOf s36 (nx (3 : Int).toNat (s36.drop (atOf s1 (nx (10 : Int).toNat (s1.drop a.toNat)).2).toNat)).2).toNat)).1).name)), (.int .i64 (((drawX (3 : Int).toNat (s39.drop (atOf s36 (nx (3 : Int).toNat (s36.drop (atOf s1 (nx (10 : Int).toNat (s1.drop a.toNat)).2).toNat)).2).toNat)).1).slot)), (.int .i64 (((drawX (3 : Int).toNat (s39.drop (atOf s36 (nx (3 : Int).toNat (s36.drop (atOf s1 (nx (10 : Int).toNat (s1.drop a.toNat)).2).toNat)).2).toNat)).1).size)), (.sl 6 (((drawX (3 : Int).toNat (s39.drop (atOf s36 (nx (3 : Int).toNat (s36.drop (atOf s1 (nx (10 : Int).toNat (s1.drop a.toNat)).2).toNat)).2).toNat)).1).args)), (.sl 18 []), (.sl 18 [])])] : List DV).length) * 232 ≤ 70368744177664))
                      (.leaf (.nrm, ⟨[(0, (.hp 0 0)), (2, (.d (.int .i64 d))), (7, (.osl 18 (ys ++ [(.agg [(.int .i64 1), (.str [122]), (.int .i64 0), (.int .i64 0), (.int .i64 0), (.int .i64 0), (.str []), (.int .i64 0), (.int .i64 0), (.sl 6 []), (.int .i64 (((drawX (3 : Int).toNat (s39.drop (atOf s36 (nx (3 : Int).toNat (s36.drop (atOf s1 (nx (10 : Int).toNat (s1.drop a.toNat)).2).toNat)).2).toNat)).1).op)), (.int .i64 (((drawX (3 : Int).toNat (s39.drop (atOf s36 (nx (3 : Int).toNat (s36.drop (atOf s1 (nx (10 : Int).toNat (s1.drop a.toNat)).2).toNat)).2).toNat)).1).value)), (.str (((drawX (3 : Int).toNat (s39.drop (atOf s36 (nx (3 : Int).toNat (s36.drop (atOf s1 (nx (10 : Int).toNat (s1.drop a.toNat)).2).toNat)).2).toNat)).1).name)), (.int .i64 (((drawX (3 : Int).toNat (s39.drop (atOf s36 (nx (3 : Int).toNat (s36.drop (atOf s1 (nx (10 : Int).toNat (s1.drop a.toNat)).2).toNat)).2).toNat)).1).slot)), (.int .i64 (((drawX (3 : Int).toNat (s39.drop (atOf s36 (nx (3 : Int).toNat (s36.drop (atOf s1 (nx (10 : Int).toNat (s1.drop a.toNat)).2).toNat)).2).toNat)).1).size)), (.sl 6 (((drawX (3 : Int).toNat (s39.drop (atOf s36 (nx (3 : Int).toNat (s36.drop (atOf s1 (nx (10 : Int).toNat (s1.drop a.toNat)).2).toNat)).2).toNat)).1).args)), (.sl 18 []), (.sl 18 [])])]))), (8, (.d (.int .i64 (IntKind.i64.wrap (n - 1)))))], [[(.d (.sl 1 xs)), (.d (.int .i64 (atOf s39 (drawX (3 : Int).toNat (s39.drop (atOf s36 (nx (3 : Int).toNat (s36.drop (atOf s1 (nx (10 : Int).toNat (s1.drop a.toNat)).2).toNat)).2).toNat)).2)))]]⟩))
                      (.fail))
                    (.fail))
                  (.fail))))
            (.fail))
          (.br (decide (((nx (10 : Int).toNat (s1.drop a.toNat)).1 : Int) = 3))
            (.opt (unL unU8 xs) fun s40 => .br (decide (0 ≤ (atOf s1 (nx (10 : Int).toNat (s1.drop a.toNat)).2) ∧ (atOf s1 (nx (10 : Int).toNat (s1.drop a.toNat)).2) ≤ s40.length ∧ (s40.length : Int) ≤ 100000 ∧ 0 < (2 : Int) ∧ (2 : Int) ≤ 256))
              (.br (decide (((nx (2 : Int).toNat (s40.drop (atOf s1 (nx (10 : Int).toNat (s1.drop a.toNat)).2).toNat)).1 : Int) = ((0 : Nat) : Int)))
                (.opt (unL unU8 xs) fun s41 => .br (decide (0 ≤ (atOf s40 (nx (2 : Int).toNat (s40.drop (atOf s1 (nx (10 : Int).toNat (s1.drop a.toNat)).2).toNat)).2) ∧ (atOf s40 (nx (2 : Int).toNat (s40.drop (atOf s1 (nx (10 : Int).toNat (s1.drop a.toNat)).2).toNat)).2) ≤ s41.length ∧ (s41.length : Int) ≤ 100000 ∧ 1 ≤ (2 : Int) ∧ (2 : Int) ≤ ((3 : Nat) : Int)))
                  (.opt (unL unU8 xs) fun s42 => .br (decide (0 ≤ (atOf s41 (drawX (2 : Int).toNat (s41.drop (atOf s40 (nx (2 : Int).toNat (s40.drop (atOf s1 (nx (10 : Int).toNat (s1.drop a.toNat)).2).toNat)).2).toNat)).2) ∧ (atOf s41 (drawX (2 : Int).toNat (s41.drop (atOf s40 (nx (2 : Int).toNat (s40.drop (atOf s1 (nx (10 : Int).toNat (s1.drop a.toNat)).2).toNat)).2).toNat)).2) ≤ s42.length ∧ (s42.length : Int) ≤ 100000 ∧ 1 ≤ (2 : Int) ∧ (2 : Int) ≤ ((3 : Nat) : Int)))
                    (.br (decide ((ys.length + ([(.agg [(.int .i64 2), (.str [97]), (.int .i64 0), (.int .i64 0), (.int .i64 (((drawX (2 : Int).toNat (s41.drop (atOf s40 (nx (2 : Int).toNat (s40.drop (atOf s1 (nx (10 : Int).toNat (s1.drop a.toNat)).2).toNat)).2).toNat)).1).op)), (.int .i64 (((drawX (2 : Int).toNat (s41.drop (atOf s40 (nx (2 : Int).toNat (s40.drop (atOf s1 (nx (10 : Int).toNat (s1.drop a.toNat)).2).toNat)).2).toNat)).1).value)), (.str (((drawX (2 : Int).toNat (s41.drop (atOf s40 (nx (2 : Int).toNat (s40.drop (atOf s1 (nx (10 : Int).toNat (s1.drop a.toNat)).2).toNat)).2).toNat)).1).name)), (.int .i64 (((drawX (2 : Int).toNat (s41.drop (atOf s40 (nx (2 : Int).toNat (s40.drop (atOf s1 (nx (10 : Int).toNat (s1.drop a.toNat)).2).toNat)).2).toNat)).1).slot)), (.int .i64 (((drawX (2 : Int).toNat (s41.drop (atOf s40 (nx (2 : Int).toNat (s40.drop (atOf s1 (nx (10 : Int).toNat (s1.drop a.toNat)).2).toNat)).2).toNat)).1).size)), (.sl 6 (((drawX (2 : Int).toNat (s41.drop (atOf s40 (nx (2 : Int).toNat (s40.drop (atOf s1 (nx (10 : Int).toNat (s1.drop a.toNat)).2).toNat)).2).toNat)).1).args)), (.int .i64 (((drawX (2 : Int).toNat (s42.drop (atOf s41 (drawX (2 : Int).toNat (s41.drop (atOf s40 (nx (2 : Int).toNat (s40.drop (atOf s1 (nx (10 : Int).toNat (s1.drop a.toNat)).2).toNat)).2).toNat)).2).toNat)).1).op)), (.int .i64 (((drawX (2 : Int).toNat (s42.drop (atOf s41 (drawX (2 : Int).toNat (s41.drop (atOf s40 (nx (2 : Int).toNat (s40.drop (atOf s1 (nx (10 : Int).toNat (s1.drop a.toNat)).2).toNat)).2).toNat)).2).toNat)).1).value)), (.str (((drawX (2 : Int).toNat (s42.drop (atOf s41 (drawX (2 : Int).toNat (s41.drop (atOf s40 (nx (2 : Int).toNat (s40.drop (atOf s1 (nx (10 : Int).toNat (s1.drop a.toNat)).2).toNat)).2).toNat)).2).toNat)).1).name)), (.int .i64 (((drawX (2 : Int).toNat (s42.drop (atOf s41 (drawX (2 : Int).toNat (s41.drop (atOf s40 (nx (2 : Int).toNat (s40.drop (atOf s1 (nx (10 : Int).toNat (s1.drop a.toNat)).2).toNat)).2).toNat)).2).toNat)).1).slot)), (.int .i64 (((drawX (2 : Int).toNat (s42.drop (atOf s41 (drawX (2 : Int).toNat (s41.drop (atOf s40 (nx (2 : Int).toNat (s40.drop (atOf s1 (nx (10 : Int).toNat (s1.drop a.toNat)).2).toNat)).2).toNat)).2).toNat)).1).size)), (.sl 6 (((drawX (2 : Int).toNat (s42.drop (atOf s41 (drawX (2 : Int).toNat (s41.drop (atOf s40 (nx (2 : Int).toNat (s40.drop (atOf s1 (nx (10 : Int).toNat (s1.drop a.toNat)).2).toNat)).2).toNat)).2).toNat)).1).args)), (.sl 18 []), (.sl 18 [])])] : List DV).length) * 232 ≤ 70368744177664))
                      (.leaf (.nrm, ⟨[(0, (.hp 0 0)), (2, (.d (.int .i64 d))), (7, (.osl 18 (ys ++ [(.agg [(.int .i64 2), (.str [97]), (.int .i64 0), (.int .i64 0), (.int .i64 (((drawX (2 : Int).toNat (s41.drop (atOf s40 (nx (2 : Int).toNat (s40.drop (atOf s1 (nx (10 : Int).toNat (s1.drop a.toNat)).2).toNat)).2).toNat)).1).op)), (.int .i64 (((drawX (2 : Int).toNat (s41.drop (atOf s40 (nx (2 : Int).toNat (s40.drop (atOf s1 (nx (10 : Int).toNat (s1.drop a.toNat)).2).toNat)).2).toNat)).1).value)), (.str (((drawX (2 : Int).toNat (s41.drop (atOf s40 (nx (2 : Int).toNat (s40.drop (atOf s1 (nx (10 : Int).toNat (s1.drop a.toNat)).2).toNat)).2).toNat)).1).name)), (.int .i64 (((drawX (2 : Int).toNat (s41.drop (atOf s40 (nx (2 : Int).toNat (s40.drop (atOf s1 (nx (10 : Int).toNat (s1.drop a.toNat)).2).toNat)).2).toNat)).1).slot)), (.int .i64 (((drawX (2 : Int).toNat (s41.drop (atOf s40 (nx (2 : Int).toNat (s40.drop (atOf s1 (nx (10 : Int).toNat (s1.drop a.toNat)).2).toNat)).2).toNat)).1).size)), (.sl 6 (((drawX (2 : Int).toNat (s41.drop (atOf s40 (nx (2 : Int).toNat (s40.drop (atOf s1 (nx (10 : Int).toNat (s1.drop a.toNat)).2).toNat)).2).toNat)).1).args)), (.int .i64 (((drawX (2 : Int).toNat (s42.drop (atOf s41 (drawX (2 : Int).toNat (s41.drop (atOf s40 (nx (2 : Int).toNat (s40.drop (atOf s1 (nx (10 : Int).toNat (s1.drop a.toNat)).2).toNat)).2).toNat)).2).toNat)).1).op)), (.int .i64 (((drawX (2 : Int).toNat (s42.drop (atOf s41 (drawX (2 : Int).toNat (s41.drop (atOf s40 (nx (2 : Int).toNat (s40.drop (atOf s1 (nx (10 : Int).toNat (s1.drop a.toNat)).2).toNat)).2).toNat)).2).toNat)).1).value)), (.str (((drawX (2 : Int).toNat (s42.drop (atOf s41 (drawX (2 : Int).toNat (s41.drop (atOf s40 (nx (2 : Int).toNat (s40.drop (atOf s1 (nx (10 : Int).toNat (s1.drop a.toNat)).2).toNat)).2).toNat)).2).toNat)).1).name)), (.int .i64 (((drawX (2 : Int).toNat (s42.drop (atOf s41 (drawX (2 : Int).toNat (s41.drop (atOf s40 (nx (2 : Int).toNat (s40.drop (atOf s1 (nx (10 : Int).toNat (s1.drop a.toNat)).2).toNat)).2).toNat)).2).toNat)).1).slot)), (.int .i64 (((drawX (2 : Int).toNat (s42.drop (atOf s41 (drawX (2 : Int).toNat (s41.drop (atOf s40 (nx (2 : Int).toNat (s40.drop (atOf s1 (nx (10 : Int).toNat (s1.drop a.toNat)).2).toNat)).2).toNat)).2).toNat)).1).size)), (.sl 6 (((drawX (2 : Int).toNat (s42.drop (atOf s41 (drawX (2 : Int).toNat (s41.drop (atOf s40 (nx (2 : Int).toNat (s40.drop (atOf s1 (nx (10 : Int).toNat (s1.drop a.toNat)).2).toNat)).2).toNat)).2).toNat)).1).args)), (.sl 18 []), (.sl 18 [])])]))), (8, (.d (.int .i64 (IntKind.i64.wrap (n - 1)))))], [[(.d (.sl 1 xs)), (.d (.int .i64 (atOf s42 (drawX (2 : Int).toNat (s42.drop (atOf s41 (drawX (2 : Int).toNat (s41.drop (atOf s40 (nx (2 : Int).toNat (s40.drop (atOf s1 (nx (10 : Int).toNat (s1.drop a.toNat)).2).toNat)).2).toNat)).2).toNat)).2)))]]⟩))
                      (.fail))
                    (.fail))
                  (.fail))
                (.br (decide (((nx (2 : Int).toNat (s40.drop (atOf s1 (nx (10 : Int).toNat (s1.drop a.toNat)).2).toNat)).1 : Int) = ((1 : Nat) : Int)))
                  (.opt (unL unU8 xs) fun s43 => .br (decide (0 ≤ (atOf s40 (nx (2 : Int).toNat (s40.drop (atOf s1 (nx (10 : Int).toNat (s1.drop a.toNat)).2).toNat)).2) ∧ (atOf s40 (nx (2 : Int).toNat (s40.drop (atOf s1 (nx (10 : Int).toNat (s1.drop a.toNat)).2).toNat)).2) ≤ s43.length ∧ (s43.length : Int) ≤ 100000 ∧ 1 ≤ (2 : Int) ∧ (2 : Int) ≤ ((3 : Nat) : Int)))
                    (.opt (unL unU8 xs) fun s44 => .br (decide (0 ≤ (atOf s43 (drawX (2 : Int).toNat (s43.drop (atOf s40 (nx (2 : Int).toNat (s40.drop (atOf s1 (nx (10 : Int).toNat (s1.drop a.toNat)).2).toNat)).2).toNat)).2) ∧ (atOf s43 (drawX (2 : Int).toNat (s43.drop (atOf s40 (nx (2 : Int).toNat (s40.drop (atOf s1 (nx (10 : Int).toNat (s1.drop a.toNat)).2).toNat)).2).toNat)).2) ≤ s44.length ∧ (s44.length : Int) ≤ 100000 ∧ 1 ≤ (2 : Int) ∧ (2 : Int) ≤ ((3 : Nat) : Int)))
                      (.br (decide ((ys.length + ([(.agg [(.int .i64 2), (.str [98]), (.int .i64 0), (.int .i64 0), (.int .i64 (((drawX (2 : Int).toNat (s43.drop (atOf s40 (nx (2 : Int).toNat (s40.drop (atOf s1 (nx (10 : Int).toNat (s1.drop a.toNat)).2).toNat)).2).toNat)).1).op)), (.int .i64 (((drawX (2 : Int).toNat (s43.drop (atOf s40 (nx (2 : Int).toNat (s40.drop (atOf s1 (nx (10 : Int).toNat (s1.drop a.toNat)).2).toNat)).2).toNat)).1).value)), (.str (((drawX (2 : Int).toNat (s43.drop (atOf s40 (nx (2 : Int).toNat (s40.drop (atOf s1 (nx (10 : Int).toNat (s1.drop a.toNat)).2).toNat)).2).toNat)).1).name)), (.int .i64 (((drawX (2 : Int).toNat (s43.drop (atOf s40 (nx (2 : Int).toNat (s40.drop (atOf s1 (nx (10 : Int).toNat (s1.drop a.toNat)).2).toNat)).2).toNat)).1).slot)), (.int .i64 (((drawX (2 : Int).toNat (s43.drop (atOf s40 (nx (2 : Int).toNat (s40.drop (atOf s1 (nx (10 : Int).toNat (s1.drop a.toNat)).2).toNat)).2).toNat)).1).size)), (.sl 6 (((drawX (2 : Int).toNat (s43.drop (atOf s40 (nx (2 : Int).toNat (s40.drop (atOf s1 (nx (10 : Int).toNat (s1.drop a.toNat)).2).toNat)).2).toNat)).1).args)), (.int .i64 (((drawX (2 : Int).toNat (s44.drop (atOf s43 (drawX (2 : Int).toNat (s43.drop (atOf s40 (nx (2 : Int).toNat (s40.drop (atOf s1 (nx (10 : Int).toNat (s1.drop a.toNat)).2).toNat)).2).toNat)).2).toNat)).1).op)), (.int .i64 (((drawX (2 : Int).toNat (s44.drop (atOf s43 (drawX (2 : Int).toNat (s43.drop (atOf s40 (nx (2 : Int).toNat (s40.drop (atOf s1 (nx (10 : Int).toNat (s1.drop a.toNat)).2).toNat)).2).toNat)).2).toNat)).1).value)), (.str (((drawX (2 : Int).toNat (s44.drop (atOf s43 (drawX (2 : Int).toNat (s43.drop (atOf s40 (nx (2 : Int).toNat (s40.drop (atOf s1 (nx (10 : Int).toNat (s1.drop a.toNat)).2).toNat)).2).toNat)).2).toNat)).1).name)), (.int .i64 (((drawX (2 : Int).toNat (s44.drop (atOf s43 (drawX (2 : Int).toNat (s43.drop (atOf s40 (nx (2 : Int).toNat (s40.drop (atOf s1 (nx (10 : Int).toNat (s1.drop a.toNat)).2).toNat)).2).toNat)).2).toNat)).1).slot)), (.int .i64 (((drawX (2 : Int).toNat (s44.drop (atOf s43 (drawX (2 : Int).toNat (s43.drop (atOf s40 (nx (2 : Int).toNat (s40.drop (atOf s1 (nx (10 : Int).toNat (s1.drop a.toNat)).2).toNat)).2).toNat)).2).toNat)).1).size)), (.sl 6 (((drawX (2 : Int).toNat (s44.drop (atOf s43 (drawX (2 : Int).toNat (s43.drop (atOf s40 (nx (2 : Int).toNat (s40.drop (atOf s1 (nx (10 : Int).toNat (s1.drop a.toNat)).2).toNat)).2).toNat)).2).toNat)).1).args)), (.sl 18 []), (.sl 18 [])])] : List DV).length) * 232 ≤ 70368744177664))
                        (.leaf (.nrm, ⟨[(0, (.hp 0 0)), (2, (.d (.int .i64 d))), (7, (.osl 18 (ys ++ [(.agg [(.int .i64 2), (.str [98]), (.int .i64 0), (.int .i64 0), (.int .i64 (((drawX (2 : Int).toNat (s43.drop (atOf s40 (nx (2 : Int).toNat (s40.drop (atOf s1 (nx (10 : Int).toNat (s1.drop a.toNat)).2).toNat)).2).toNat)).1).op)), (.int .i64 (((drawX (2 : Int).toNat (s43.drop (atOf s40 (nx (2 : Int).toNat (s40.drop (atOf s1 (nx (10 : Int).toNat (s1.drop a.toNat)).2).toNat)).2).toNat)).1).value)), (.str (((drawX (2 : Int).toNat (s43.drop (atOf s40 (nx (2 : Int).toNat (s40.drop (atOf s1 (nx (10 : Int).toNat (s1.drop a.toNat)).2).toNat)).2).toNat)).1).name)), (.int .i64 (((drawX (2 : Int).toNat (s43.drop (atOf s40 (nx (2 : Int).toNat (s40.drop (atOf s1 (nx (10 : Int).toNat (s1.drop a.toNat)).2).toNat)).2).toNat)).1).slot)), (.int .i64 (((drawX (2 : Int).toNat (s43.drop (atOf s40 (nx (2 : Int).toNat (s40.drop (atOf s1 (nx (10 : Int).toNat (s1.drop a.toNat)).2).toNat)).2).toNat)).1).size)), (.sl 6 (((drawX (2 : Int).toNat (s43.drop (atOf s40 (nx (2 : Int).toNat (s40.drop (atOf s1 (nx (10 : Int).toNat (s1.drop a.toNat)).2).toNat)).2).toNat)).1).args)), (.int .i64 (((drawX (2 : Int).toNat (s44.drop (atOf s43 (drawX (2 : Int).toNat (s43.drop (atOf s40 (nx (2 : Int).toNat (s40.drop (atOf s1 (nx (10 : Int).toNat (s1.drop a.toNat)).2).toNat)).2).toNat)).2).toNat)).1).op)), (.int .i64 (((drawX (2 : Int).toNat (s44.drop (atOf s43 (drawX (2 : Int).toNat (s43.drop (atOf s40 (nx (2 : Int).toNat (s40.drop (atOf s1 (nx (10 : Int).toNat (s1.drop a.toNat)).2).toNat)).2).toNat)).2).toNat)).1).value)), (.str (((drawX (2 : Int).toNat (s44.drop (atOf s43 (drawX (2 : Int).toNat (s43.drop (atOf s40 (nx (2 : Int).toNat (s40.drop (atOf s1 (nx (10 : Int).toNat (s1.drop a.toNat)).2).toNat)).2).toNat)).2).toNat)).1).name)), (.int .i64 (((drawX (2 : Int).toNat (s44.drop (atOf s43 (drawX (2 : Int).toNat (s43.drop (atOf s40 (nx (2 : Int).toNat (s40.drop (atOf s1 (nx (10 : Int).toNat (s1.drop a.toNat)).2).toNat)).2).toNat)).2).toNat)).1).slot)), (.int .i64 (((drawX (2 : Int).toNat (s44.drop (atOf s43 (drawX (2 : Int).toNat (s43.drop (atOf s40 (nx (2 : Int).toNat (s40.drop (atOf s1 (nx (10 : Int).toNat (s1.drop a.toNat)).2).toNat)).2).toNat)).2).toNat)).1).size)), (.sl 6 (((drawX (2 : Int).toNat (s44.drop (atOf s43 (drawX (2 : Int).toNat (s43.drop (atOf s40 (nx (2 : Int).toNat (s40.drop (atOf s1 (nx (10 : Int).toNat (s1.drop a.toNat)).2).toNat)).2).toNat)).2).toNat)).1).args)), (.sl 18 []), (.sl 18 [])])]))), (8, (.d (.int .i64 (IntKind.i64.wrap (n - 1)))))], [[(.d (.sl 1 xs)), (.d (.int .i64 (atOf s44 (drawX (2 : Int).toNat (s44.drop (atOf s43 (drawX (2 : Int).toNat (s43.drop (atOf s40 (nx (2 : Int).toNat (s40.drop (atOf s1 (nx (10 : Int).toNat (s1.drop a.toNat)).2).toNat)).2).toNat)).2).toNat)).2)))]]⟩))
                        (.fail))
                      (.fail))
                    (.fail))
                  (.fail)))
              (.fail))
            (.br (decide (((nx (10 : Int).toNat (s1.drop a.toNat)).1 : Int) < 6))
              (.opt (unL unU8 xs) fun s45 => .br (decide (0 ≤ (atOf s1 (nx (10 : Int).toNat (s1.drop a.toNat)).2) ∧ (atOf s1 (nx (10 : Int).toNat (s1.drop a.toNat)).2) ≤ s45.length ∧ (s45.length : Int) ≤ 100000 ∧ 1 ≤ (2 : Int) ∧ (2 : Int) ≤ ((3 : Nat) : Int)))
                (.opt (unL unU8 xs) fun s46 => .br (decide (0 ≤ (atOf s45 (drawX (2 : Int).toNat (s45.drop (atOf s1 (nx (10 : Int).toNat (s1.drop a.toNat)).2).toNat)).2) ∧ (atOf s45 (drawX (2 : Int).toNat (s45.drop (atOf s1 (nx (10 : Int).toNat (s1.drop a.toNat)).2).toNat)).2) ≤ s46.length ∧ (s46.length : Int) ≤ 100000 ∧ 1 ≤ (2 : Int) ∧ (2 : Int) ≤ ((3 : Nat) : Int)))
                  (.br (decide ((ys.length + ([(.agg [(.int .i64 5), (.str []), (.int .i64 0), (.int .i64 0), (.int .i64 (((drawX (2 : Int).toNat (s45.drop (atOf s1 (nx (10 : Int).toNat (s1.drop a.toNat)).2).toNat)).1).op)), (.int .i64 (((drawX (2 : Int).toNat (s45.drop (atOf s1 (nx (10 : Int).toNat (s1.drop a.toNat)).2).toNat)).1).value)), (.str (((drawX (2 : Int).toNat (s45.drop (atOf s1 (nx (10 : Int).toNat (s1.drop a.toNat)).2).toNat)).1).name)), (.int .i64 (((drawX (2 : Int).toNat (s45.drop (atOf s1 (nx (10 : Int).toNat (s1.drop a.toNat)).2).toNat)).1).slot)), (.int .i64 (((drawX (2 : Int).toNat (s45.drop (atOf s1 (nx (10 : Int).toNat (s1.drop a.toNat)).2).toNat)).1).size)), (.sl 6 (((drawX (2 : Int).toNat (s45.drop (atOf s1 (nx (10 : Int).toNat (s1.drop a.toNat)).2).toNat)).1).args)), (.int .i64 (((drawX (2 : Int).toNat (s46.drop (atOf s45 (drawX (2 : Int).toNat (s45.drop (atOf s1 (nx (10 : Int).toNat (s1.drop a.toNat)).2).toNat)).2).toNat)).1).op)), (.int .i64 (((drawX (2 : Int).toNat (s46.drop (atOf s45 (drawX (2 : Int).toNat (s45.drop (atOf s1 (nx (10 : Int).toNat (s1.drop a.toNat)).2).toNat)).2).toNat)).1).value)), (.str (((drawX (2 : Int).toNat (s46.drop (atOf s45 (drawX (2 : Int).toNat (s45.drop (atOf s1 (nx (10 : Int).toNat (s1.drop a.toNat)).2).toNat)).2).toNat)).1).name)), (.int .i64 (((drawX (2 : Int).toNat (s46.drop (atOf s45 (drawX (2 : Int).toNat (s45.drop (atOf s1 (nx (10 : Int).toNat (s1.drop a.toNat)).2).toNat)).2).toNat)).1).slot)), (.int .i64 (((drawX (2 : Int).toNat (s46.drop (atOf s45 (drawX (2 : Int).toNat (s45.drop (atOf s1 (nx (10 : Int).toNat (s1.drop a.toNat)).2).toNat)).2).toNat)).1).size)), (.sl 6 (((drawX (2 : Int).toNat (s46.drop (atOf s45 (drawX (2 : Int).toNat (s45.drop (atOf s1 (nx (10 : Int).toNat (s1.drop a.toNat)).2).toNat)).2).toNat)).1).args)), (.sl 18 []), (.sl 18 [])])] : List DV).length) * 232 ≤ 70368744177664))
                    (.leaf (.nrm, ⟨[(0, (.hp 0 0)), (2, (.d (.int .i64 d))), (7, (.osl 18 (ys ++ [(.agg [(.int .i64 5), (.str []), (.int .i64 0), (.int .i64 0), (.int .i64 (((drawX (2 : Int).toNat (s45.drop (atOf s1 (nx (10 : Int).toNat (s1.drop a.toNat)).2).toNat)).1).op)), (.int .i64 (((drawX (2 : Int).toNat (s45.drop (atOf s1 (nx (10 : Int).toNat (s1.drop a.toNat)).2).toNat)).1).value)), (.str (((drawX (2 : Int).toNat (s45.drop (atOf s1 (nx (10 : Int).toNat (s1.drop a.toNat)).2).toNat)).1).name)), (.int .i64 (((drawX (2 : Int).toNat (s45.drop (atOf s1 (nx (10 : Int).toNat (s1.drop a.toNat)).2).toNat)).1).slot)), (.int .i64 (((drawX (2 : Int).toNat (s45.drop (atOf s1 (nx (10 : Int).toNat (s1.drop a.toNat)).2).toNat)).1).size)), (.sl 6 (((drawX (2 : Int).toNat (s45.drop (atOf s1 (nx (10 : Int).toNat (s1.drop a.toNat)).2).toNat)).1).args)), (.int .i64 (((drawX (2 : Int).toNat (s46.drop (atOf s45 (drawX (2 : Int).toNat (s45.drop (atOf s1 (nx (10 : Int).toNat (s1.drop a.toNat)).2).toNat)).2).toNat)).1).op)), (.int .i64 (((drawX (2 : Int).toNat (s46.drop (atOf s45 (drawX (2 : Int).toNat (s45.drop (atOf s1 (nx (10 : Int).toNat (s1.drop a.toNat)).2).toNat)).2).toNat)).1).value)), (.str (((drawX (2 : Int).toNat (s46.drop (atOf s45 (drawX (2 : Int).toNat (s45.drop (atOf s1 (nx (10 : Int).toNat (s1.drop a.toNat)).2).toNat)).2).toNat)).1).name)), (.int .i64 (((drawX (2 : Int).toNat (s46.drop (atOf s45 (drawX (2 : Int).toNat (s45.drop (atOf s1 (nx (10 : Int).toNat (s1.drop a.toNat)).2).toNat)).2).toNat)).1).slot)), (.int .i64 (((drawX (2 : Int).toNat (s46.drop (atOf s45 (drawX (2 : Int).toNat (s45.drop (atOf s1 (nx (10 : Int).toNat (s1.drop a.toNat)).2).toNat)).2).toNat)).1).size)), (.sl 6 (((drawX (2 : Int).toNat (s46.drop (atOf s45 (drawX (2 : Int).toNat (s45.drop (atOf s1 (nx (10 : Int).toNat (s1.drop a.toNat)).2).toNat)).2).toNat)).1).args)), (.sl 18 []), (.sl 18 [])])]))), (8, (.d (.int .i64 (IntKind.i64.wrap (n - 1)))))], [[(.d (.sl 1 xs)), (.d (.int .i64 (atOf s46 (drawX (2 : Int).toNat (s46.drop (atOf s45 (drawX (2 : Int).toNat (s45.drop (atOf s1 (nx (10 : Int).toNat (s1.drop a.toNat)).2).toNat)).2).toNat)).2)))]]⟩))
                    (.fail))
                  (.fail))
                (.fail))
              (.br (decide (((nx (10 : Int).toNat (s1.drop a.toNat)).1 : Int) = 6))
                (.opt (unL unU8 xs) fun s47 => .br (decide (0 ≤ (atOf s1 (nx (10 : Int).toNat (s1.drop a.toNat)).2) ∧ (atOf s1 (nx (10 : Int).toNat (s1.drop a.toNat)).2) ≤ s47.length ∧ (s47.length : Int) ≤ 100000 ∧ 1 ≤ (2 : Int) ∧ (2 : Int) ≤ ((3 : Nat) : Int)))
                  (.br (decide ((ys.length + ([(.agg [(.int .i64 6), (.str []), (.int .i64 0), (.int .i64 0), (.int .i64 0), (.int .i64 0), (.str []), (.int .i64 0), (.int .i64 0), (.sl 6 []), (.int .i64 (((drawX (2 : Int).toNat (s47.drop (atOf s1 (nx (10 : Int).toNat (s1.drop a.toNat)).2).toNat)).1).op)), (.int .i64 (((drawX (2 : Int).toNat (s47.drop (atOf s1 (nx (10 : Int).toNat (s1.drop a.toNat)).2).toNat)).1).value)), (.str (((drawX (2 : Int).toNat (s47.drop (atOf s1 (nx (10 : Int).toNat (s1.drop a.toNat)).2).toNat)).1).name)), (.int .i64 (((drawX (2 : Int).toNat (s47.drop (atOf s1 (nx (10 : Int).toNat (s1.drop a.toNat)).2).toNat)).1).slot)), (.int .i64 (((drawX (2 : Int).toNat (s47.drop (atOf s1 (nx (10 : Int).toNat (s1.drop a.toNat)).2).toNat)).1).size)), (.sl 6 (((drawX (2 : Int).toNat (s47.drop (atOf s1 (nx (10 : Int).toNat (s1.drop a.toNat)).2).toNat)).1).args)), (.sl 18 []), (.sl 18 [])])] : List DV).length) * 232 ≤ 70368744177664))
                    (.leaf (.nrm, ⟨[(0, (.hp 0 0)), (2, (.d (.int .i64 d))), (7, (.osl 18 (ys ++ [(.agg [(.int .i64 6), (.str []), (.int .i64 0), (.int .i64 0), (.int .i64 0), (.int .i64 0), (.str []), (.int .i64 0), (.int .i64 0), (.sl 6 []), (.int .i64 (((drawX (2 : Int).toNat (s47.drop (atOf s1 (nx (10 : Int).toNat (s1.drop a.toNat)).2).toNat)).1).op)), (.int .i64 (((drawX (2 : Int).toNat (s47.drop (atOf s1 (nx (10 : Int).toNat (s1.drop a.toNat)).2).toNat)).1).value)), (.str (((drawX (2 : Int).toNat (s47.drop (atOf s1 (nx (10 : Int).toNat (s1.drop a.toNat)).2).toNat)).1).name)), (.int .i64 (((drawX (2 : Int).toNat (s47.drop (atOf s1 (nx (10 : Int).toNat (s1.drop a.toNat)).2).toNat)).1).slot)), (.int .i64 (((drawX (2 : Int).toNat (s47.drop (atOf s1 (nx (10 : Int).toNat (s1.drop a.toNat)).2).toNat)).1).size)), (.sl 6 (((drawX (2 : Int).toNat (s47.drop (atOf s1 (nx (10 : Int).toNat (s1.drop a.toNat)).2).toNat)).1).args)), (.sl 18 []), (.sl 18 [])])]))), (8, (.d (.int .i64 (IntKind.i64.wrap (n - 1)))))], [[(.d (.sl 1 xs)), (.d (.int .i64 (atOf s47 (drawX (2 : Int).toNat (s47.drop (atOf s1 (nx (10 : Int).toNat (s1.drop a.toNat)).2).toNat)).2)))]]⟩))
                    (.fail))
                  (.fail))
                (.br (decide (((nx (10 : Int).toNat (s1.drop a.toNat)).1 : Int) < 9))
                  (.opt (unL unU8 xs) fun s48 => .br (decide (0 ≤ (atOf s1 (nx (10 : Int).toNat (s1.drop a.toNat)).2) ∧ (atOf s1 (nx (10 : Int).toNat (s1.drop a.toNat)).2) ≤ s48.length ∧ (s48.length : Int) ≤ 100000 ∧ 1 ≤ (2 : Int) ∧ (2 : Int) ≤ ((3 : Nat) : Int)))
                    (.opt (unL unU8 xs) fun s49 => .br (decide (0 ≤ (atOf s48 (drawX (2 : Int).toNat (s48.drop (atOf s1 (nx (10 : Int).toNat (s1.drop a.toNat)).2).toNat)).2) ∧ (atOf s48 (drawX (2 : Int).toNat (s48.drop (atOf s1 (nx (10 : Int).toNat (s1.drop a.toNat)).2).toNat)).2) ≤ s49.length ∧ (s49.length : Int) ≤ 100000 ∧ 0 ≤ (2 : Int) ∧ (2 : Int) ≤ 255 ∧ 1 ≤ (IntKind.i64.wrap (d - 1)) ∧ (IntKind.i64.wrap (d - 1)) ≤ N))
                      (.opt (unL unU8 xs) fun s50 => .br (decide (0 ≤ (atOf s49 (drawS (IntKind.i64.wrap (d - 1)).toNat (2 : Int).toNat (s49.drop (atOf s48 (drawX (2 : Int).toNat (s48.drop (atOf s1 (nx (10 : Int).toNat (s1.drop a.toNat)).2).toNat)).2).toNat)).2) ∧ (atOf s49 (drawS (IntKind.i64.wrap (d - 1)).toNat (2 : Int).toNat (s49.drop (atOf s48 (drawX (2 : Int).toNat (s48.drop (atOf s1 (nx (10 : Int).toNat (s1.drop a.toNat)).2).toNat)).2).toNat)).2) ≤ s50.length ∧ (s50.length : Int) ≤ 100000 ∧ 0 ≤ (1 : Int) ∧ (1 : Int) ≤ 255 ∧ 1 ≤ (IntKind.i64.wrap (d - 1)) ∧ (IntKind.i64.wrap (d - 1)) ≤ N))
                        (.br (decide ((ys.length + ([(.agg [(.int .i64 3), (.str []), (.int .i64 0), (.int .i64 0), (.int .i64 0), (.int .i64 0), (.str []), (.int .i64 0), (.int .i64 0), (.sl 6 []), (.int .i64 (((drawX (2 : Int).toNat (s48.drop (atOf s1 (nx (10 : Int).toNat (s1.drop a.toNat)).2).toNat)).1).op)), (.int .i64 (((drawX (2 : Int).toNat (s48.drop (atOf s1 (nx (10 : Int).toNat (s1.drop a.toNat)).2).toNat)).1).value)), (.str (((drawX (2 : Int).toNat (s48.drop (atOf s1 (nx (10 : Int).toNat (s1.drop a.toNat)).2).toNat)).1).name)), (.int .i64 (((drawX (2 : Int).toNat (s48.drop (atOf s1 (nx (10 : Int).toNat (s1.drop a.toNat)).2).toNat)).1).slot)), (.int .i64 (((drawX (2 : Int).toNat (s48.drop (atOf s1 (nx (10 : Int).toNat (s1.drop a.toNat)).2).toNat)).1).size)), (.sl 6 (((drawX (2 : Int).toNat (s48.drop (atOf s1 (nx (10 : Int).toNat (s1.drop a.toNat)).2).toNat)).1).args)), (.sl 18 ((drawS (IntKind.i64.wrap (d - 1)).toNat (2 : Int).toNat (s49.drop (atOf s48 (drawX (2 : Int).toNat (s48.drop (atOf s1 (nx (10 : Int).toNat (s1.drop a.toNat)).2).toNat)).2).toNat)).1.map encSt)), (.sl 18 ((drawS (IntKind.i64.wrap (d - 1)).toNat (1 : Int).toNat (s50.drop (atOf s49 (drawS (IntKind.i64.wrap (d - 1)).toNat (2 : Int).toNat (s49.drop (atOf s48 (drawX (2 : Int).toNat (s48.drop (atOf s1 (nx (10 : Int).toNat (s1.drop a.toNat)).2).toNat)).2).toNat)).2).toNat)).1.map encSt))])] : List DV).length) * 232 ≤ 70368744177664))
                          (.leaf (.nrm, ⟨[(0, (.hp 0 0)), (2, (.d (.int .i64 d))), (7, (.osl 18 (ys ++ [(.agg [(.int .i64 3), (.str []), (.int .i64 0), (.int .i64 0), (.int .i64 0), (.int .i64 0), (.str []), (.int .i64 0), (.int .i64 0), (.sl 6 []), (.int .i64 (((drawX (2 : Int).toNat (s48.drop (atOf s1 (nx (10 : Int).toNat (s1.drop a.toNat)).2).toNat)).1).op)), (.int .i64 (((drawX (2 : Int).toNat (s48.drop (atOf s1 (nx (10 : Int).toNat (s1.drop a.toNat)).2).toNat)).1).value)), (.str (((drawX (2 : Int).toNat (s48.drop (atOf s1 (nx (10 : Int).toNat (s1.drop a.toNat)).2).toNat)).1).name)), (.int .i64 (((drawX (2 : Int).toNat (s48.drop (atOf s1 (nx (10 : Int).toNat (s1.drop a.toNat)).2).toNat)).1).slot)), (.int .i64 (((drawX (2 : Int).toNat (s48.drop (atOf s1 (nx (10 : Int).toNat (s1.drop a.toNat)).2).toNat)).1).size)), (.sl 6 (((drawX (2 : Int).toNat (s48.drop (atOf s1 (nx (10 : Int).toNat (s1.drop a.toNat)).2).toNat)).1).args)), (.sl 18 ((drawS (IntKind.i64.wrap (d - 1)).toNat (2 : Int).toNat (s49.drop (atOf s48 (drawX (2 : Int).toNat (s48.drop (atOf s1 (nx (10 : Int).toNat (s1.drop a.toNat)).2).toNat)).2).toNat)).1.map encSt)), (.sl 18 ((drawS (IntKind.i64.wrap (d - 1)).toNat (1 : Int).toNat (s50.drop (atOf s49 (drawS (IntKind.i64.wrap (d - 1)).toNat (2 : Int).toNat (s49.drop (atOf s48 (drawX (2 : Int).toNat (s48.drop (atOf s1 (nx (10 : Int).toNat (s1.drop a.toNat)).2).toNat)).2).toNat)).2).toNat)).1.map encSt))])]))), (8, (.d (.int .i64 (IntKind.i64.wrap (n - 1)))))], [[(.d (.sl 1 xs)), (.d (.int .i64 (atOf s50 (drawS (IntKind.i64.wrap (d - 1)).toNat (1 : Int).toNat (s50.drop (atOf s49 (drawS (IntKind.i64.wrap (d - 1)).toNat (2 : Int).toNat (s49.drop (atOf s48 (drawX (2 : Int).toNat (s48.drop (atOf s1 (nx (10 : Int).toNat (s1.drop a.toNat)).2).toNat)).2).toNat)).2).toNat)).2)))]]⟩))
                          (.fail))
                        (.fail))
                      (.fail))
                    (.fail))
                  (.opt (unL unU8 xs) fun s51 => .br (decide (0 ≤ (atOf s1 (nx (10 : Int).toNat (s1.drop a.toNat)).2) ∧ (atOf s1 (nx (10 : Int).toNat (s1.drop a.toNat)).2) ≤ s51.length ∧ (s51.length : Int) ≤ 100000 ∧ 1 ≤ (2 : Int) ∧ (2 : Int) ≤ ((3 : Nat) : Int)))
                    (.opt (unL unU8 xs) fun s52 => .br (decide (0 ≤ (atOf s51 (drawX (2 : Int).toNat (s51.drop (atOf s1 (nx (10 : Int).toNat (s1.drop a.toNat)).2).toNat)).2) ∧ (atOf s51 (drawX (2 : Int).toNat (s51.drop (atOf s1 (nx (10 : Int).toNat (s1.drop a.toNat)).2).toNat)).2) ≤ s52.length ∧ (s52.length : Int) ≤ 100000 ∧ 0 ≤ (2 : Int) ∧ (2 : Int) ≤ 255 ∧ 1 ≤ (IntKind.i64.wrap (d - 1)) ∧ (IntKind.i64.wrap (d - 1)) ≤ N))
                      (.br (decide ((ys.length + ([(.agg [(.int .i64 4), (.str []), (.int .i64 0), (.int .i64 0), (.int .i64 0), (.int .i64 0), (.str []), (.int .i64 0), (.int .i64 0), (.sl 6 []), (.int .i64 (((drawX (2 : Int).toNat (s51.drop (atOf s1 (nx (10 : Int).toNat (s1.drop a.toNat)).2).toNat)).1).op)), (.int .i64 (((drawX (2 : Int).toNat (s51.drop (atOf s1 (nx (10 : Int).toNat (s1.drop a.toNat)).2).toNat)).1).value)), (.str (((drawX (2 : Int).toNat (s51.drop (atOf s1 (nx (10 : Int).toNat (s1.drop a.toNat)).2).toNat)).1).name)), (.int .i64 (((drawX (2 : Int).toNat (s51.drop (atOf s1 (nx (10 : Int).toNat (s1.drop a.toNat)).2).toNat)).1).slot)), (.int .i64 (((drawX (2 : Int).toNat (s51.drop (atOf s1 (nx (10 : Int).toNat (s1.drop a.toNat)).2).toNat)).1).size)), (.sl 6 (((drawX (2 : Int).toNat (s51.drop (atOf s1 (nx (10 : Int).toNat (s1.drop a.toNat)).2).toNat)).1).args)), (.sl 18 ((drawS (IntKind.i64.wrap (d - 1)).toNat (2 : Int).toNat (s52.drop (atOf s51 (drawX (2 : Int).toNat (s51.drop (atOf s1 (nx (10 : Int).toNat (s1.drop a.toNat)).2).toNat)).2).toNat)).1.map encSt)), (.sl 18 [])])] : List DV).length) * 232 ≤ 70368744177664))
                        (.leaf (.nrm, ⟨[(0, (.hp 0 0)), (2, (.d (.int .i64 d))), (7, (.osl 18 (ys ++ [(.agg [(.int .i64 4), (.str []), (.int .i64 0), (.int .i64 0), (.int .i64 0), (.int .i64 0), (.str []), (.int .i64 0), (.int .i64 0), (.sl 6 []), (.int .i64 (((drawX (2 : Int).toNat (s51.drop (atOf s1 (nx (10 : Int).toNat (s1.drop a.toNat)).2).toNat)).1).op)), (.int .i64 (((drawX (2 : Int).toNat (s51.drop (atOf s1 (nx (10 : Int).toNat (s1.drop a.toNat)).2).toNat)).1).value)), (.str (((drawX (2 : Int).toNat (s51.drop (atOf s1 (nx (10 : Int).toNat (s1.drop a.toNat)).2).toNat)).1).name)), (.int .i64 (((drawX (2 : Int).toNat (s51.drop (atOf s1 (nx (10 : Int).toNat (s1.drop a.toNat)).2).toNat)).1).slot)), (.int .i64 (((drawX (2 : Int).toNat (s51.drop (atOf s1 (nx (10 : Int).toNat (s1.drop a.toNat)).2).toNat)).1).size)), (.sl 6 (((drawX (2 : Int).toNat (s51.drop (atOf s1 (nx (10 : Int).toNat (s1.drop a.toNat)).2).toNat)).1).args)), (.sl 18 ((drawS (IntKind.i64.wrap (d - 1)).toNat (2 : Int).toNat (s52.drop (atOf s51 (drawX (2 : Int).toNat (s51.drop (atOf s1 (nx (10 : Int).toNat (s1.drop a.toNat)).2).toNat)).2).toNat)).1.map encSt)), (.sl 18 [])])]))), (8, (.d (.int .i64 (IntKind.i64.wrap (n - 1)))))], [[(.d (.sl 1 xs)), (.d (.int .i64 (atOf s52 (drawS (IntKind.i64.wrap (d - 1)).toNat (2 : Int).toNat (s52.drop (atOf s51 (drawX (2 : Int).toNat (s51.drop (atOf s1 (nx (10 : Int).toNat (s1.drop a.toNat)).2).toNat)).2).toNat)).2)))]]⟩))
                        (.fail))
                      (.fail))
                    (.fail))))))))
      (.fail))
    (.leaf ((.ext 0), ⟨[(7, (.osl 18 ys))], [[(.d (.sl 1 xs)), (.d (.int .i64 a))]]⟩)) : Tr (Ex × ST)) := by kernel_rfl

abbrev tailS (N : Nat) (s : List UInt8) (xs ys : List DV) (d n : Int) (k : Nat) (r : List UInt8) : Tr (Ex × ST) :=
    .br (decide ((k : Int) < 3))
    (.opt (unL unU8 xs) fun s36 => .br (decide (0 ≤ (atOf s r) ∧ (atOf s r) ≤ s36.length ∧ (s36.length : Int) ≤ 100000 ∧ 0 < (3 : Int) ∧ (3 : Int) ≤ 256))
      (.br (decide (((nx (3 : Int).toNat (s36.drop (atOf s r).toNat)).1 : Int) = ((0 : Nat) : Int)))
        (.opt (unL unU8 xs) fun s37 => .br (decide (0 ≤ (atOf s36 (nx (3 : Int).toNat (s36.drop (atOf s r).toNat)).2) ∧ (atOf s36 (nx (3 : Int).toNat (s36.drop (atOf s r).toNat)).2) ≤ s37.length ∧ (s37.length : Int) ≤ 100000 ∧ 1 ≤ (3 : Int) ∧ (3 : Int) ≤ ((3 : Nat) : Int)))
          (.br (decide ((ys.length + ([(.agg [(.int .i64 1), (.str [120]), (.int .i64 0), (.int .i64 0), (.int .i64 0), (.int .i64 0), (.str []), (.int .i64 0), (.int .i64 0), (.sl 6 []), (.int .i64 (((drawX (3 : Int).toNat (s37.drop (atOf s36 (nx (3 : Int).toNat (s36.drop (atOf s r).toNat)).2).toNat)).1).op)), (.int .i64 (((drawX (3 : Int).toNat (s37.drop (atOf s36 (nx (3 : Int).toNat (s36.drop (atOf s r).toNat)).2).toNat)).1).value)), (.str (((drawX (3 : Int).toNat (s37.drop (atOf s36 (nx (3 : Int).toNat (s36.drop (atOf s r).toNat)).2).toNat)).1).name)), (.int .i64 (((drawX (3 : Int).toNat (s37.drop (atOf s36 (nx (3 : Int).toNat (s36.drop (atOf s r).toNat)).2).toNat)).1).slot)), (.int .i64 (((drawX (3 : Int).toNat (s37.drop (atOf s36 (nx (3 : Int).toNat (s36.drop (atOf s r).toNat)).2).toNat)).1).size)), (.sl 6 (((drawX (3 : Int).toNat (s37.drop (atOf s36 (nx (3 : Int).toNat (s36.drop (atOf s r).toNat)).2).toNat)).1).args)), (.sl 18 []), (.sl 18 [])])] : List DV).length) * 232 ≤ 70368744177664))
            (.leaf (.nrm, ⟨[(0, (.hp 0 0)), (2, (.d (.int .i64 d))), (7, (.osl 18 (ys ++ [(.agg [(.int .i64 1), (.str [120]), (.int .i64 0), (.int .i64 0), (.int .i64 0), (.int .i64 0), (.str []), (.int .i64 0), (.int .i64 0), (.sl 6 []), (.int .i64 (((drawX (3 : Int).toNat (s37.drop (atOf s36 (nx (3 : Int).toNat (s36.drop (atOf s r).toNat)).2).toNat)).1).op)), (.int .i64 (((drawX (3 : Int).toNat (s37.drop (atOf s36 (nx (3 : Int).toNat (s36.drop (atOf s r).toNat)).2).toNat)).1).value)), (.str (((drawX (3 : Int).toNat (s37.drop (atOf s36 (nx (3 : Int).toNat (s36.drop (atOf s r).toNat)).2).toNat)).1).name)), (.int .i64 (((drawX (3 : Int).toNat (s37.drop (atOf s36 (nx (3 : Int).toNat (s36.drop (atOf s r).toNat)).2).toNat)).1).slot)), (.int .i64 (((drawX (3 : Int).toNat (s37.drop (atOf s36 (nx (3 : Int).toNat (s36.drop (atOf s r).toNat)).2).toNat)).1).size)), (.sl 6 (((drawX (3 : Int).toNat (s37.drop (atOf s36 (nx (3 : Int).toNat (s36.drop (atOf s r).toNat)).2).toNat)).1).args)), (.sl 18 []), (.sl 18 [])])]))), (8, (.d (.int .i64 (IntKind.i64.wrap (n - 1)))))], [[(.d (.sl 1 xs)), (.d (.int .i64 (atOf s37 (drawX (3 : Int).toNat (s37.drop (atOf s36 (nx (3 : Int).toNat (s36.drop (atOf s r).toNat)).2).toNat)).2)))]]⟩))
            (.fail))
          (.fail))
        (.br (decide (((nx (3 : Int).toNat (s36.drop (atOf s r).toNat)).1 : Int) = ((1 : Nat) : Int)))
          (.opt (unL unU8 xs) fun s38 => .br (decide (0 ≤ (atOf s36 (nx (3 : Int).toNat (s36.drop (atOf s r).toNat)).2) ∧ (atOf s36 (nx (3 : Int).toNat (s36.drop (atOf s r).toNat)).2) ≤ s38.length ∧ (s38.length : Int) ≤ 100000 ∧ 1 ≤ (3 : Int) ∧ (3 : Int) ≤ ((3 : Nat) : Int)))
            (.br (decide ((ys.length + ([(.agg [(.int .i64 1), (.str [121]), (.int .i64 0), (.int .i64 0), (.int .i64 0), (.int .i64 0), (.str []), (.int .i64 0), (.int .i64 0), (.sl 6 []), (.int .i64 (((drawX (3 : Int).toNat (s38.drop (atOf s36 (nx (3 : Int).toNat (s36.drop (atOf s r).toNat)).2).toNat)).1).op)), (.int .i64 (((drawX (3 : Int).toNat (s38.drop (atOf s36 (nx (3 : Int).toNat (s36.drop (atOf s r).toNat)).2).toNat)).1).value)), (.str (((drawX (3 : Int).toNat (s38.drop (atOf s36 (nx (3 : Int).toNat (s36.drop (atOf s r).toNat)).2).toNat)).1).name)), (.int .i64 (((drawX (3 : Int).toNat (s38.drop (atOf s36 (nx (3 : Int).toNat (s36.drop (atOf s r).toNat)).2).toNat)).1).slot)), (.int .i64 (((drawX (3 : Int).toNat (s38.drop (atOf s36 (nx (3 : Int).toNat (s36.drop (atOf s r).toNat)).2).toNat)).1).size)), (.sl 6 (((drawX (3 : Int).toNat (s38.drop (atOf s36 (nx (3 : Int).toNat (s36.drop (atOf s r).toNat)).2).toNat)).1).args)), (.sl 18 []), (.sl 18 [])])] : List DV).length) * 232 ≤ 70368744177664))
              (.leaf (.nrm, ⟨[(0, (.hp 0 0)), (2, (.d (.int .i64 d))), (7, (.osl 18 (ys ++ [(.agg [(.int .i64 1), (.str [121]), (.int .i64 0), (.int .i64 0), (.int .i64 0), (.int .i64 0), (.str []), (.int .i64 0), (.int .i64 0), (.sl 6 []), (.int .i64 (((drawX (3 : Int).toNat (s38.drop (atOf s36 (nx (3 : Int).toNat (s36.drop (atOf s r).toNat)).2).toNat)).1).op)), (.int .i64 (((drawX (3 : Int).toNat (s38.drop (atOf s36 (nx (3 : Int).toNat (s36.drop (atOf s r).toNat)).2).toNat)).1).value)), (.str (((drawX (3 : Int).toNat (s38.drop (atOf s36 (nx (3 : Int).toNat (s36.drop (atOf s r).toNat)).2).toNat)).1).name)), (.int .i64 (((drawX (3 : Int).toNat (s38.drop (atOf s36 (nx (3 : Int).toNat (s36.drop (atOf s r).toNat)).2).toNat)).1).slot)), (.int .i64 (((drawX (3 : Int).toNat (s38.drop (atOf s36 (nx (3 : Int).toNat (s36.drop (atOf s r).toNat)).2).toNat)).1).size)), (.sl 6 (((drawX (3 : Int).toNat (s38.drop (atOf s36 (nx (3 : Int).toNat (s36.drop (atOf s r).toNat)).2).toNat)).1).args)), (.sl 18 []), (.sl 18 [])])]))), (8, (.d (.int .i64 (IntKind.i64.wrap (n - 1)))))], [[(.d (.sl 1 xs)), (.d (.int .i64 (atOf s38 (drawX (3 : Int).toNat (s38.drop (atOf s36 (nx (3 : Int).toNat (s36.drop (atOf s r).toNat)).2).toNat)).2)))]]⟩))
              (.fail))
            (.fail))
          (.br (decide (((nx (3 : Int).toNat (s36.drop (atOf s r).toNat)).1 : Int) = ((2 : Nat) : Int)))
            (.opt (unL unU8 xs) fun s39 => .br (decide (0 ≤ (atOf s36 (nx (3 : Int).toNat (s36.drop (atOf s r).toNat)).2) ∧ (atOf s36 (nx (3 : Int).toNat (s36.drop (atOf s r).toNat)).2) ≤ s39.length ∧ (s39.length : Int) ≤ 100000 ∧ 1 ≤ (3 : Int) ∧ (3 : Int) ≤ ((3 : Nat) : Int)))
              (.br (decide ((ys.length + ([(.agg [(.int .i64 1), (.str [122]), (.int .i64 0), (.int .i64 0), (.int .i64 0), (.int .i64 0), (.str []), (.int .i64 0), (.int .i64 0), (.sl 6 []), (.int .i64 (((drawX (3 : Int).toNat (s39.drop (atOf s36 (nx (3 : Int).toNat (s36.drop (atOf s r).toNat)).2).toNat)).1).op)), (.int .i64 (((drawX (3 : Int).toNat (s39.drop (atOf s36 (nx (3 : Int).toNat (s36.drop (atOf s r).toNat)).2).toNat)).1).value)), (.str (((drawX (3 : Int).toNat (s39.drop (atOf s36 (nx (3 : Int).toNat (s36.drop (atOf s r).toNat)).2).toNat)).1).name)), (.int .i64 (((drawX (3 : Int).toNat (s39.drop (atOf s36 (nx (3 : Int).toNat (s36.drop (atOf s r).toNat)).2).toNat)).1).slot)), (.int .i64 (((drawX (3 : Int).toNat (s39.drop (atOf s36 (nx (3 : Int).toNat (s36.drop (atOf s r).toNat)).2).toNat)).1).size)), (.sl 6 (((drawX (3 : Int).toNat (s39.drop (atOf s36 (nx (3 : Int).toNat (s36.drop (atOf s r).toNat)).2).toNat)).1).args)), (.sl 18 []), (.sl 18 [])])] : List DV).length) * 232 ≤ 70368744177664))
                (.leaf (.nrm, ⟨[(0, (.hp 0 0)), (2, (.d (.int .i64 d))), (7, (.osl 18 (ys ++ [(.agg [(.int .i64 1), (.str [122]), (.int .i64 0), (.int .i64 0), (.int .i64 0), (.int .i64 0), (.str []), (.int .i64 0), (.int .i64 0), (.sl 6 []), (.int .i64 (((drawX (3 : Int).toNat (s39.drop (atOf s36 (nx (3 : Int).toNat (s36.drop (atOf s r).toNat)).2).toNat)).1).op)), (.int .i64 (((drawX (3 : Int).toNat (s39.drop (atOf s36 (nx (3 : Int).toNat (s36.drop (atOf s r).toNat)).2).toNat)).1).value)), (.str (((drawX (3 : Int).toNat (s39.drop (atOf s36 (nx (3 : Int).toNat (s36.drop (atOf s r).toNat)).2).toNat)).1).name)), (.int .i64 (((drawX (3 : Int).toNat (s39.drop (atOf s36 (nx (3 : Int).toNat (s36.drop (atOf s r).toNat)).2).toNat)).1).slot)), (.int .i64 (((drawX (3 : Int).toNat (s39.drop (atOf s36 (nx (3 : Int).toNat (s36.drop (atOf s r).toNat)).2).toNat)).1).size)), (.sl 6 (((drawX (3 : Int).toNat (s39.drop (atOf s36 (nx (3 : Int).toNat (s36.drop (atOf s r).toNat)).2).toNat)).1).args)), (.sl 18 []), (.sl 18 [])])]))), (8, (.d (.int .i64 (IntKind.i64.wrap (n - 1)))))], [[(.d (.sl 1 xs)), (.d (.int .i64 (atOf s39 (drawX (3 : Int).toNat (s39.drop (atOf s36 (nx (3 : Int).toNat (s36.drop (atOf s r).toNat)).2).toNat)).2)))]]⟩))
                (.fail))
              (.fail))
            (.fail))))
      (.fail))
    (.br (decide ((k : Int) = 3))
      (.opt (unL unU8 xs) fun s40 => .br (decide (0 ≤ (atOf s r) ∧ (atOf s r) ≤ s40.length ∧ (s40.length : Int) ≤ 100000 ∧ 0 < (2 : Int) ∧ (2 : Int) ≤ 256))
        (.br (decide (((nx (2 : Int).toNat (s40.drop (atOf s r).toNat)).1 : Int) = ((0 : Nat) : Int)))
          (.opt (unL unU8 xs) fun s41 => .br (decide (0 ≤ (atOf s40 (nx (2 : Int).toNat (s40.drop (atOf s r).toNat)).2) ∧ (atOf s40 (nx (2 : Int).toNat (s40.drop (atOf s r).toNat)).2) ≤ s41.length ∧ (s41.length : Int) ≤ 100000 ∧ 1 ≤ (2 : Int) ∧ (2 : Int) ≤ ((3 : Nat) : Int)))
            (.opt (unL unU8 xs) fun s42 => .br (decide (0 ≤ (atOf s41 (drawX (2 : Int).toNat (s41.drop (atOf s40 (nx (2 : Int).toNat (s40.drop (atOf s r).toNat)).2).toNat)).2) ∧ (atOf s41 (drawX (2 : Int).toNat (s41.drop (atOf s40 (nx (2 : Int).toNat (s40.drop (atOf s r).toNat)).2).toNat)).2) ≤ s42.length ∧ (s42.length : Int) ≤ 100000 ∧ 1 ≤ (2 : Int) ∧ (2 : Int) ≤ ((3 : Nat) : Int)))
              (.br (decide ((ys.length + ([(.agg [(.int .i64 2), (.str [97]), (.int .i64 0), (.int .i64 0), (.int .i64 (((drawX (2 : Int).toNat (s41.drop (atOf s40 (nx (2 : Int).toNat (s40.drop (atOf s r).toNat)).2).toNat)).1).op)), (.int .i64 (((drawX (2 : Int).toNat (s41.drop (atOf s40 (nx (2 : Int).toNat (s40.drop (atOf s r).toNat)).2).toNat)).1).value)), (.str (((drawX (2 : Int).toNat (s41.drop (atOf s40 (nx (2 : Int).toNat (s40.drop (atOf s r).toNat)).2).toNat)).1).name)), (.int .i64 (((drawX (2 : Int).toNat (s41.drop (atOf s40 (nx (2 : Int).toNat (s40.drop (atOf s r).toNat)).2).toNat)).1).slot)), (.int .i64 (((drawX (2 : Int).toNat (s41.drop (atOf s40 (nx (2 : Int).toNat (s40.drop (atOf s r).toNat)).2).toNat)).1).size)), (.sl 6 (((drawX (2 : Int).toNat (s41.drop (atOf s40 (nx (2 : Int).toNat (s40.drop (atOf s r).toNat)).2).toNat)).1).args)), (.int .i64 (((drawX (2 : Int).toNat (s42.drop (atOf s41 (drawX (2 : Int).toNat (s41.drop (atOf s40 (nx (2 : Int).toNat (s40.drop (atOf s r).toNat)).2).toNat)).2).toNat)).1).op)), (.int .i64 (((drawX (2 : Int).toNat (s42.drop (atOf s41 (drawX (2 : Int).toNat (s41.drop (atOf s40 (nx (2 : Int).toNat (s40.drop (atOf s r).toNat)).2).toNat)).2).toNat)).1).value)), (.str (((drawX (2 : Int).toNat (s42.drop (atOf s41 (drawX (2 : Int).toNat (s41.drop (atOf s40 (nx (2 : Int).toNat (s40.drop (atOf s r).toNat)).2).toNat)).2).toNat)).1).name)), (.int .i64 (((drawX (2 : Int).toNat (s42.drop (atOf s41 (drawX (2 : Int).toNat (s41.drop (atOf s40 (nx (2 : Int).toNat (s40.drop (atOf s r).toNat)).2).toNat)).2).toNat)).1).slot)), (.int .i64 (((drawX (2 : Int).toNat (s42.drop (atOf s41 (drawX (2 : Int).toNat (s41.drop (atOf s40 (nx (2 : Int).toNat (s40.drop (atOf s r).toNat)).2).toNat)).2).toNat)).1).size)), (.sl 6 (((drawX (2 : Int).toNat (s42.drop (atOf s41 (drawX (2 : Int).toNat (s41.drop (atOf s40 (nx (2 : Int).toNat (s40.drop (atOf s r).toNat)).2).toNat)).2).toNat)).1).args)), (.sl 18 []), (.sl 18 [])])] : List DV).length) * 232 ≤ 70368744177664))
                (.leaf (.nrm, ⟨[(0, (.hp 0 0)), (2, (.d (.int .i64 d))), (7, (.osl 18 (ys ++ [(.agg [(.int .i64 2), (.str [97]), (.int .i64 0), (.int .i64 0), (.int .i64 (((drawX (2 : Int).toNat (s41.drop (atOf s40 (nx (2 : Int).toNat (s40.drop (atOf s r).toNat)).2).toNat)).1).op)), (.int .i64 (((drawX (2 : Int).toNat (s41.drop (atOf s40 (nx (2 : Int).toNat (s40.drop (atOf s r).toNat)).2).toNat)).1).value)), (.str (((drawX (2 : Int).toNat (s41.drop (atOf s40 (nx (2 : Int).toNat (s40.drop (atOf s r).toNat)).2).toNat)).1).name)), (.int .i64 (((drawX (2 : Int).toNat (s41.drop (atOf s40 (nx (2 : Int).toNat (s40.drop (atOf s r).toNat)).2).toNat)).1).slot)), (.int .i64 (((drawX (2 : Int).toNat (s41.drop (atOf s40 (nx (2 : Int).toNat (s40.drop (atOf s r).toNat)).2).toNat)).1).size)), (.sl 6 (((drawX (2 : Int).toNat (s41.drop (atOf s40 (nx (2 : Int).toNat (s40.drop (atOf s r).toNat)).2).toNat)).1).args)), (.int .i64 (((drawX (2 : Int).toNat (s42.drop (atOf s41 (drawX (2 : Int).toNat (s41.drop (atOf s40 (nx (2 : Int).toNat (s40.drop (atOf s r).toNat)).2).toNat)).2).toNat)).1).op)), (.int .i64 (((drawX (2 : Int).toNat (s42.drop (atOf s41 (drawX (2 : Int).toNat (s41.drop (atOf s40 (nx (2 : Int).toNat (s40.drop (atOf s r).toNat)).2).toNat)).2).toNat)).1).value)), (.str (((drawX (2 : Int).toNat (s42.drop (atOf s41 (drawX (2 : Int).toNat (s41.drop (atOf s40 (nx (2 : Int).toNat (s40.drop (atOf s r).toNat)).2).toNat)).2).toNat)).1).name)), (.int .i64 (((drawX (2 : Int).toNat (s42.drop (atOf s41 (drawX (2 : Int).toNat (s41.drop (atOf s40 (nx (2 : Int).toNat (s40.drop (atOf s r).toNat)).2).toNat)).2).toNat)).1).slot)), (.int .i64 (((drawX (2 : Int).toNat (s42.drop (atOf s41 (drawX (2 : Int).toNat (s41.drop (atOf s40 (nx (2 : Int).toNat (s40.drop (atOf s r).toNat)).2).toNat)).2).toNat)).1).size)), (.sl 6 (((drawX (2 : Int).toNat (s42.drop (atOf s41 (drawX (2 : Int).toNat (s41.drop (atOf s40 (nx (2 : Int).toNat (s40.drop (atOf s r).toNat)).2).toNat)).2).toNat)).1).args)), (.sl 18 []), (.sl 18 [])])]))), (8, (.d (.int .i64 (IntKind.i64.wrap (n - 1)))))], [[(.d (.sl 1 xs)), (.d (.int .i64 (atOf s42 (drawX (2 : Int).toNat (s42.drop (atOf s41 (drawX (2 : Int).toNat (s41.drop (atOf s40 (nx (2 : Int).toNat (s40.drop (atOf s r).toNat)).2).toNat)).2).toNat)).2)))]]⟩))
                (.fail))
              (.fail))
            (.fail))
          (.br (decide (((nx (2 : Int).toNat (s40.drop (atOf s r).toNat)).1 : Int) = ((1 : Nat) : Int)))
            (.opt (unL unU8 xs) fun s43 => .br (decide (0 ≤ (atOf s40 (nx (2 : Int).toNat (s40.drop (atOf s r).toNat)).2) ∧ (atOf s40 (nx (2 : Int).toNat (s40.drop (atOf s r).toNat)).2) ≤ s43.length ∧ (s43.length : Int) ≤ 100000 ∧ 1 ≤ (2 : Int) ∧ (2 : Int) ≤ ((3 : Nat) : Int)))
              (.opt (unL unU8 xs) fun s44 => .br (decide (0 ≤ (atOf s43 (drawX (2 : Int).toNat (s43.drop (atOf s40 (nx (2 : Int).toNat (s40.drop (atOf s r).toNat)).2).toNat)).2) ∧ (atOf s43 (drawX (2 : Int).toNat (s43.drop (atOf s40 (nx (2 : Int).toNat (s40.drop (atOf s r).toNat)).2).toNat)).2) ≤ s44.length ∧ (s44.length : Int) ≤ 100000 ∧ 1 ≤ (2 : Int) ∧ (2 : Int) ≤ ((3 : Nat) : Int)))
                (.br (decide ((ys.length + ([(.agg [(.int .i64 2), (.str [98]), (.int .i64 0), (.int .i64 0), (.int .i64 (((drawX (2 : Int).toNat (s43.drop (atOf s40 (nx (2 : Int).toNat (s40.drop (atOf s r).toNat)).2).toNat)).1).op)), (.int .i64 (((drawX (2 : Int).toNat (s43.drop (atOf s40 (nx (2 : Int).toNat (s40.drop (atOf s r).toNat)).2).toNat)).1).value)), (.str (((drawX (2 : Int).toNat (s43.drop (atOf s40 (nx (2 : Int).toNat (s40.drop (atOf s r).toNat)).2).toNat)).1).name)), (.int .i64 (((drawX (2 : Int).toNat (s43.drop (atOf s40 (nx (2 : Int).toNat (s40.drop (atOf s r).toNat)).2).toNat)).1).slot)), (.int .i64 (((drawX (2 : Int).toNat (s43.drop (atOf s40 (nx (2 : Int).toNat (s40.drop (atOf s r).toNat)).2).toNat)).1).size)), (.sl 6 (((drawX (2 : Int).toNat (s43.drop (atOf s40 (nx (2 : Int).toNat (s40.drop (atOf s r).toNat)).2).toNat)).1).args)), (.int .i64 (((drawX (2 : Int).toNat (s44.drop (atOf s43 (drawX (2 : Int).toNat (s43.drop (atOf s40 (nx (2 : Int).toNat (s40.drop (atOf s r).toNat)).2).toNat)).2).toNat)).1).op)), (.int .i64 (((drawX (2 : Int).toNat (s44.drop (atOf s43 (drawX (2 : Int).toNat (s43.drop (atOf s40 (nx (2 : Int).toNat (s40.drop (atOf s r).toNat)).2).toNat)).2).toNat)).1).value)), (.str (((drawX (2 : Int).toNat (s44.drop (atOf s43 (drawX (2 : Int).toNat (s43.drop (atOf s40 (nx (2 : Int).toNat (s40.drop (atOf s r).toNat)).2).toNat)).2).toNat)).1).name)), (.int .i64 (((drawX (2 : Int).toNat (s44.drop (atOf s43 (drawX (2 : Int).toNat (s43.drop (atOf s40 (nx (2 : Int).toNat (s40.drop (atOf s r).toNat)).2).toNat)).2).toNat)).1).slot)), (.int .i64 (((drawX (2 : Int).toNat (s44.drop (atOf s43 (drawX (2 : Int).toNat (s43.drop (atOf s40 (nx (2 : Int).toNat (s40.drop (atOf s r).toNat)).2).toNat)).2).toNat)).1).size)), (.sl 6 (((drawX (2 : Int).toNat (s44.drop (atOf s43 (drawX (2 : Int).toNat (s43.drop (atOf s40 (nx (2 : Int).toNat (s40.drop (atOf s r).toNat)).2).toNat)).2).toNat)).1).args)), (.sl 18 []), (.sl 18 [])])] : List DV).length) * 232 ≤ 70368744177664))
                  (.leaf (.nrm, ⟨[(0, (.hp 0 0)), (2, (.d (.int .i64 d))), (7, (.osl 18 (ys ++ [(.agg [(.int .i64 2), (.str [98]), (.int .i64 0), (.int .i64 0), (.int .i64 (((drawX (2 : Int).toNat (s43.drop (atOf s40 (nx (2 : Int).toNat (s40.drop (atOf s r).toNat)).2).toNat)).1).op)), (.int .i64 (((drawX (2 : Int).toNat (s43.drop (atOf s40 (nx (2 : Int).toNat (s40.drop (atOf s r).toNat)).2).toNat)).1).value)), (.str (((drawX (2 : Int).toNat (s43.drop (atOf s40 (nx (2 : Int).toNat (s40.drop (atOf s r).toNat)).2).toNat)).1).name)), (.int .i64 (((drawX (2 : Int).toNat (s43.drop (atOf s40 (nx (2 : Int).toNat (s40.drop (atOf s r).toNat)).2).toNat)).1).slot)), (.int .i64 (((drawX (2 : Int).toNat (s43.drop (atOf s40 (nx (2 : Int).toNat (s40.drop (atOf s r).toNat)).2).toNat)).1).size)), (.sl 6 (((drawX (2 : Int).toNat (s43.drop (atOf s40 (nx (2 : Int).toNat (s40.drop (atOf s r).toNat)).2).toNat)).1).args)), (.int .i64 (((drawX (2 : Int).toNat (s44.drop (atOf s43 (drawX (2 : Int).toNat (s43.drop (atOf s40 (nx (2 : Int).toNat (s40.drop (atOf s r).toNat)).2).toNat)).2).toNat)).1).op)), (.int .i64 (((drawX (2 : Int).toNat (s44.drop (atOf s43 (drawX (2 : Int).toNat (s43.drop (atOf s40 (nx (2 : Int).toNat (s40.drop (atOf s r).toNat)).2).toNat)).2).toNat)).1).value)), (.str (((drawX (2 : Int).toNat (s44.drop (atOf s43 (drawX (2 : Int).toNat (s43.drop (atOf s40 (nx (2 : Int).toNat (s40.drop (atOf s r).toNat)).2).toNat)).2).toNat)).1).name)), (.int .i64 (((drawX (2 : Int).toNat (s44.drop (atOf s43 (drawX (2 : Int).toNat (s43.drop (atOf s40 (nx (2 : Int).toNat (s40.drop (atOf s r).toNat)).2).toNat)).2).toNat)).1).slot)), (.int .i64 (((drawX (2 : Int).toNat (s44.drop (atOf s43 (drawX (2 : Int).toNat (s43.drop (atOf s40 (nx (2 : Int).toNat (s40.drop (atOf s r).toNat)).2).toNat)).2).toNat)).1).size)), (.sl 6 (((drawX (2 : Int).toNat (s44.drop (atOf s43 (drawX (2 : Int).toNat (s43.drop (atOf s40 (nx (2 : Int).toNat (s40.drop (atOf s r).toNat)).2).toNat)).2).toNat)).1).args)), (.sl 18 []), (.sl 18 [])])]))), (8, (.d (.int .i64 (IntKind.i64.wrap (n - 1)))))], [[(.d (.sl 1 xs)), (.d (.int .i64 (atOf s44 (drawX (2 : Int).toNat (s44.drop (atOf s43 (drawX (2 : Int).toNat (s43.drop (atOf s40 (nx (2 : Int).toNat (s40.drop (atOf s r).toNat)).2).toNat)).2).toNat)).2)))]]⟩))
                  (.fail))
                (.fail))
              (.fail))
            (.fail)))
        (.fail))
      (.br (decide ((k : Int) < 6))
        (.opt (unL unU8 xs) fun s45 => .br (decide (0 ≤ (atOf s r) ∧ (atOf s r) ≤ s45.length ∧ (s45.length : Int) ≤ 100000 ∧ 1 ≤ (2 : Int) ∧ (2 : Int) ≤ ((3 : Nat) : Int)))
          (.opt (unL unU8 xs) fun s46 => .br (decide (0 ≤ (atOf s45 (drawX (2 : Int).toNat (s45.drop (atOf s r).toNat)).2) ∧ (atOf s45 (drawX (2 : Int).toNat (s45.drop (atOf s r).toNat)).2) ≤ s46.length ∧ (s46.length : Int) ≤ 100000 ∧ 1 ≤ (2 : Int) ∧ (2 : Int) ≤ ((3 : Nat) : Int)))
            (.br (decide ((ys.length + ([(.agg [(.int .i64 5), (.str []), (.int .i64 0), (.int .i64 0), (.int .i64 (((drawX (2 : Int).toNat (s45.drop (atOf s r).toNat)).1).op)), (.int .i64 (((drawX (2 : Int).toNat (s45.drop (atOf s r).toNat)).1).value)), (.str (((drawX (2 : Int).toNat (s45.drop (atOf s r).toNat)).1).name)), (.int .i64 (((drawX (2 : Int).toNat (s45.drop (atOf s r).toNat)).1).slot)), (.int .i64 (((drawX (2 : Int).toNat (s45.drop (atOf s r).toNat)).1).size)), (.sl 6 (((drawX (2 : Int).toNat (s45.drop (atOf s r).toNat)).1).args)), (.int .i64 (((drawX (2 : Int).toNat (s46.drop (atOf s45 (drawX (2 : Int).toNat (s45.drop (atOf s r).toNat)).2).toNat)).1).op)), (.int .i64 (((drawX (2 : Int).toNat (s46.drop (atOf s45 (drawX (2 : Int).toNat (s45.drop (atOf s r).toNat)).2).toNat)).1).value)), (.str (((drawX (2 : Int).toNat (s46.drop (atOf s45 (drawX (2 : Int).toNat (s45.drop (atOf s r).toNat)).2).toNat)).1).name)), (.int .i64 (((drawX (2 : Int).toNat (s46.drop (atOf s45 (drawX (2 : Int).toNat (s45.drop (atOf s r).toNat)).2).toNat)).1).slot)), (.int .i64 (((drawX (2 : Int).toNat (s46.drop (atOf s45 (drawX (2 : Int).toNat (s45.drop (atOf s r).toNat)).2).toNat)).1).size)), (.sl 6 (((drawX (2 : Int).toNat (s46.drop (atOf s45 (drawX (2 : Int).toNat (s45.drop (atOf s r).toNat)).2).toNat)).1).args)), (.sl 18 []), (.sl 18 [])])] : List DV).length) * 232 ≤ 70368744177664))
              (.leaf (.nrm, ⟨[(0, (.hp 0 0)), (2, (.d (.int .i64 d))), (7, (.osl 18 (ys ++ [(.agg [(.int .i64 5), (.str []), (.int .i64 0), (.int .i64 0), (.int .i64 (((drawX (2 : Int).toNat (s45.drop (atOf s r).toNat)).1).op)), (.int .i64 (((drawX (2 : Int).toNat (s45.drop (atOf s r).toNat)).1).value)), (.str (((drawX (2 : Int).toNat (s45.drop (atOf s r).toNat)).1).name)), (.int .i64 (((drawX (2 : Int).toNat (s45.drop (atOf s r).toNat)).1).slot)), (.int .i64 (((drawX (2 : Int).toNat (s45.drop (atOf s r).toNat)).1).size)), (.sl 6 (((drawX (2 : Int).toNat (s45.drop (atOf s r).toNat)).1).args)), (.int .i64 (((drawX (2 : Int).toNat (s46.drop (atOf s45 (drawX (2 : Int).toNat (s45.drop (atOf s r).toNat)).2).toNat)).1).op)), (.int .i64 (((drawX (2 : Int).toNat (s46.drop (atOf s45 (drawX (2 : Int).toNat (s45.drop (atOf s r).toNat)).2).toNat)).1).value)), (.str (((drawX (2 : Int).toNat (s46.drop (atOf s45 (drawX (2 : Int).toNat (s45.drop (atOf s r).toNat)).2).toNat)).1).name)), (.int .i64 (((drawX (2 : Int).toNat (s46.drop (atOf s45 (drawX (2 : Int).toNat (s45.drop (atOf s r).toNat)).2).toNat)).1).slot)), (.int .i64 (((drawX (2 : Int).toNat (s46.drop (atOf s45 (drawX (2 : Int).toNat (s45.drop (atOf s r).toNat)).2).toNat)).1).size)), (.sl 6 (((drawX (2 : Int).toNat (s46.drop (atOf s45 (drawX (2 : Int).toNat (s45.drop (atOf s r).toNat)).2).toNat)).1).args)), (.sl 18 []), (.sl 18 [])])]))), (8, (.d (.int .i64 (IntKind.i64.wrap (n - 1)))))], [[(.d (.sl 1 xs)), (.d (.int .i64 (atOf s46 (drawX (2 : Int).toNat (s46.drop (atOf s45 (drawX (2 : Int).toNat (s45.drop (atOf s r).toNat)).2).toNat)).2)))]]⟩))
              (.fail))
            (.fail))
          (.fail))
        (.br (decide ((k : Int) = 6))
          (.opt (unL unU8 xs) fun s47 => .br (decide (0 ≤ (atOf s r) ∧ (atOf s r) ≤ s47.length ∧ (s47.length : Int) ≤ 100000 ∧ 1 ≤ (2 : Int) ∧ (2 : Int) ≤ ((3 : Nat) : Int)))
            (.br (decide ((ys.length + ([(.agg [(.int .i64 6), (.str []), (.int .i64 0), (.int .i64 0), (.int .i64 0), (.int .i64 0), (.str []), (.int .i64 0), (.int .i64 0), (.sl 6 []), (.int .i64 (((drawX (2 : Int).toNat (s47.drop (atOf s r).toNat)).1).op)), (.int .i64 (((drawX (2 : Int).toNat (s47.drop (atOf s r).toNat)).1).value)), (.str (((drawX (2 : Int).toNat (s47.drop (atOf s r).toNat)).1).name)), (.int .i64 (((drawX (2 : Int).toNat (s47.drop (atOf s r).toNat)).1).slot)), (.int .i64 (((drawX (2 : Int).toNat (s47.drop (atOf s r).toNat)).1).size)), (.sl 6 (((drawX (2 : Int).toNat (s47.drop (atOf s r).toNat)).1).args)), (.sl 18 []), (.sl 18 [])])] : List DV).length) * 232 ≤ 70368744177664))
              (.leaf (.nrm, ⟨[(0, (.hp 0 0)), (2, (.d (.int .i64 d))), (7, (.osl 18 (ys ++ [(.agg [(.int .i64 6), (.str []), (.int .i64 0), (.int .i64 0), (.int .i64 0), (.int .i64 0), (.str []), (.int .i64 0), (.int .i64 0), (.sl 6 []), (.int .i64 (((drawX (2 : Int).toNat (s47.drop (atOf s r).toNat)).1).op)), (.int .i64 (((drawX (2 : Int).toNat (s47.drop (atOf s r).toNat)).1).value)), (.str (((drawX (2 : Int).toNat (s47.drop (atOf s r).toNat)).1).name)), (.int .i64 (((drawX (2 : Int).toNat (s47.drop (atOf s r).toNat)).1).slot)), (.int .i64 (((drawX (2 : Int).toNat (s47.drop (atOf s r).toNat)).1).size)), (.sl 6 (((drawX (2 : Int).toNat (s47.drop (atOf s r).toNat)).1).args)), (.sl 18 []), (.sl 18 [])])]))), (8, (.d (.int .i64 (IntKind.i64.wrap (n - 1)))))], [[(.d (.sl 1 xs)), (.d (.int .i64 (atOf s47 (drawX (2 : Int).toNat (s47.drop (atOf s r).toNat)).2)))]]⟩))
              (.fail))
            (.fail))
          (.br (decide ((k : Int) < 9))
            (.opt (unL unU8 xs) fun s48 => .br (decide (0 ≤ (atOf s r) ∧ (atOf s r) ≤ s48.length ∧ (s48.length : Int) ≤ 100000 ∧ 1 ≤ (2 : Int) ∧ (2 : Int) ≤ ((3 : Nat) : Int)))
              (.opt (unL unU8 xs) fun s49 => .br (decide (0 ≤ (atOf s48 (drawX (2 : Int).toNat (s48.drop (atOf s r).toNat)).2) ∧ (atOf s48 (drawX (2 : Int).toNat (s48.drop (atOf s r).toNat)).2) ≤ s49.length ∧ (s49.length : Int) ≤ 100000 ∧ 0 ≤ (2 : Int) ∧ (2 : Int) ≤ 255 ∧ 1 ≤ (IntKind.i64.wrap (d - 1)) ∧ (IntKind.i64.wrap (d - 1)) ≤ N))
                (.opt (unL unU8 xs) fun s50 => .br (decide (0 ≤ (atOf s49 (drawS (IntKind.i64.wrap (d - 1)).toNat (2 : Int).toNat (s49.drop (atOf s48 (drawX (2 : Int).toNat (s48.drop (atOf s r).toNat)).2).toNat)).2) ∧ (atOf s49 (drawS (IntKind.i64.wrap (d - 1)).toNat (2 : Int).toNat (s49.drop (atOf s48 (drawX (2 : Int).toNat (s48.drop (atOf s r).toNat)).2).toNat)).2) ≤ s50.length ∧ (s50.length : Int) ≤ 100000 ∧ 0 ≤ (1 : Int) ∧ (1 : Int) ≤ 255 ∧ 1 ≤ (IntKind.i64.wrap (d - 1)) ∧ (IntKind.i64.wrap (d - 1)) ≤ N))
                  (.br (decide ((ys.length + ([(.agg [(.int .i64 3), (.str []), (.int .i64 0), (.int .i64 0), (.int .i64 0), (.int .i64 0), (.str []), (.int .i64 0), (.int .i64 0), (.sl 6 []), (.int .i64 (((drawX (2 : Int).toNat (s48.drop (atOf s r).toNat)).1).op)), (.int .i64 (((drawX (2 : Int).toNat (s48.drop (atOf s r).toNat)).1).value)), (.str (((drawX (2 : Int).toNat (s48.drop (atOf s r).toNat)).1).name)), (.int .i64 (((drawX (2 : Int).toNat (s48.drop (atOf s r).toNat)).1).slot)), (.int .i64 (((drawX (2 : Int).toNat (s48.drop (atOf s r).toNat)).1).size)), (.sl 6 (((drawX (2 : Int).toNat (s48.drop (atOf s r).toNat)).1).args)), (.sl 18 ((drawS (IntKind.i64.wrap (d - 1)).toNat (2 : Int).toNat (s49.drop (atOf s48 (drawX (2 : Int).toNat (s48.drop (atOf s r).toNat)).2).toNat)).1.map encSt)), (.sl 18 ((drawS (IntKind.i64.wrap (d - 1)).toNat (1 : Int).toNat (s50.drop (atOf s49 (drawS (IntKind.i64.wrap (d - 1)).toNat (2 : Int).toNat (s49.drop (atOf s48 (drawX (2 : Int).toNat (s48.drop (atOf s r).toNat)).2).toNat)).2).toNat)).1.map encSt))])] : List DV).length) * 232 ≤ 70368744177664))
                    (.leaf (.nrm, ⟨[(0, (.hp 0 0)), (2, (.d (.int .i64 d))), (7, (.osl 18 (ys ++ [(.agg [(.int .i64 3), (.str []), (.int .i64 0), (.int .i64 0), (.int .i64 0), (.int .i64 0), (.str []), (.int .i64 0), (.int .i64 0), (.sl 6 []), (.int .i64 (((drawX (2 : Int).toNat (s48.drop (atOf s r).toNat)).1).op)), (.int .i64 (((drawX (2 : Int).toNat (s48.drop (atOf s r).toNat)).1).value)), (.str (((drawX (2 : Int).toNat (s48.drop (atOf s r).toNat)).1).name)), (.int .i64 (((drawX (2 : Int).toNat (s48.drop (atOf s r).toNat)).1).slot)), (.int .i64 (((drawX (2 : Int).toNat (s48.drop (atOf s r).toNat)).1).size)), (.sl 6 (((drawX (2 : Int).toNat (s48.drop (atOf s r).toNat)).1).args)), (.sl 18 ((drawS (IntKind.i64.wrap (d - 1)).toNat (2 : Int).toNat (s49.drop (atOf s48 (drawX (2 : Int).toNat (s48.drop (atOf s r).toNat)).2).toNat)).1.map encSt)), (.sl 18 ((drawS (IntKind.i64.wrap (d - 1)).toNat (1 : Int).toNat (s50.drop (atOf s49 (drawS (IntKind.i64.wrap (d - 1)).toNat (2 : Int).toNat (s49.drop (atOf s48 (drawX (2 : Int).toNat (s48.drop (atOf s r).toNat)).2).toNat)).2).toNat)).1.map encSt))])]))), (8, (.d (.int .i64 (IntKind.i64.wrap (n - 1)))))], [[(.d (.sl 1 xs)), (.d (.int .i64 (atOf s50 (drawS (IntKind.i64.wrap (d - 1)).toNat (1 : Int).toNat (s50.drop (atOf s49 (drawS (IntKind.i64.wrap (d - 1)).toNat (2 : Int).toNat (s49.drop (atOf s48 (drawX (2 : Int).toNat (s48.drop (atOf s r).toNat)).2).toNat)).2).toNat)).2)))]]⟩))
                    (.fail))
                  (.fail))
                (.fail))
              (.fail))
            (.opt (unL unU8 xs) fun s51 => .br (decide (0 ≤ (atOf s r) ∧ (atOf s r) ≤ s51.length ∧ (s51.length : Int) ≤ 100000 ∧ 1 ≤ (2 : Int) ∧ (2 : Int) ≤ ((3 : Nat) : Int)))
              (.opt (unL unU8 xs) fun s52 => .br (decide (0 ≤ (atOf s51 (drawX (2 : Int).toNat (s51.drop (atOf s r).toNat)).2) ∧ (atOf s51 (drawX (2 : Int).toNat (s51.drop (atOf s r).toNat)).2) ≤ s52.length ∧ (s52.length : Int) ≤ 100000 ∧ 0 ≤ (2 : Int) ∧ (2 : Int) ≤ 255 ∧ 1 ≤ (IntKind.i64.wrap (d - 1)) ∧ (IntKind.i64.wrap (d - 1)) ≤ N))
                (.br (decide ((ys.length + ([(.agg [(.int .i64 4), (.str []), (.int .i64 0), (.int .i64 0), (.int .i64 0), (.int .i64 0), (.str []), (.int .i64 0), (.int .i64 0), (.sl 6 []), (.int .i64 (((drawX (2 : Int).toNat (s51.drop (atOf s r).toNat)).1).op)), (.int .i64 (((drawX (2 : Int).toNat (s51.drop (atOf s r).toNat)).1).value)), (.str (((drawX (2 : Int).toNat (s51.drop (atOf s r).toNat)).1).name)), (.int .i64 (((drawX (2 : Int).toNat (s51.drop (atOf s r).toNat)).1).slot)), (.int .i64 (((drawX (2 : Int).toNat (s51.drop (atOf s r).toNat)).1).size)), (.sl 6 (((drawX (2 : Int).toNat (s51.drop (atOf s r).toNat)).1).args)), (.sl 18 ((drawS (IntKind.i64.wrap (d - 1)).toNat (2 : Int).toNat (s52.drop (atOf s51 (drawX (2 : Int).toNat (s51.drop (atOf s r).toNat)).2).toNat)).1.map encSt)), (.sl 18 [])])] : List DV).length) * 232 ≤ 70368744177664))
                  (.leaf (.nrm, ⟨[(0, (.hp 0 0)), (2, (.d (.int .i64 d))), (7, (.osl 18 (ys ++ [(.agg [(.int .i64 4), (.str []), (.int .i64 0), (.int .i64 0), (.int .i64 0), (.int .i64 0), (.str []), (.int .i64 0), (.int .i64 0), (.sl 6 []), (.int .i64 (((drawX (2 : Int).toNat (s51.drop (atOf s r).toNat)).1).op)), (.int .i64 (((drawX (2 : Int).toNat (s51.drop (atOf s r).toNat)).1).value)), (.str (((drawX (2 : Int).toNat (s51.drop (atOf s r).toNat)).1).name)), (.int .i64 (((drawX (2 : Int).toNat (s51.drop (atOf s r).toNat)).1).slot)), (.int .i64 (((drawX (2 : Int).toNat (s51.drop (atOf s r).toNat)).1).size)), (.sl 6 (((drawX (2 : Int).toNat (s51.drop (atOf s r).toNat)).1).args)), (.sl 18 ((drawS (IntKind.i64.wrap (d - 1)).toNat (2 : Int).toNat (s52.drop (atOf s51 (drawX (2 : Int).toNat (s51.drop (atOf s r).toNat)).2).toNat)).1.map encSt)), (.sl 18 [])])]))), (8, (.d (.int .i64 (IntKind.i64.wrap (n - 1)))))], [[(.d (.sl 1 xs)), (.d (.int .i64 (atOf s52 (drawS (IntKind.i64.wrap (d - 1)).toNat (2 : Int).toNat (s52.drop (atOf s51 (drawX (2 : Int).toNat (s51.drop (atOf s r).toNat)).2).toNat)).2)))]]⟩))
                  (.fail))
                (.fail))
              (.fail))))))


def outS (xs ys : List DV) (s : List UInt8) (d n : Int) (p : St × List UInt8) : Ex × ST :=
  (.nrm, ⟨[(0, .hp 0 0), (2, .d (.int .i64 d)), (7, .osl 18 (ys ++ [encSt p.1])), (8, .d (.int .i64 n))], [[.d (.sl 1 xs), .d (.int .i64 (atOf s p.2))]]⟩)

theorem tailS_ok {N D k : Nat} {s : List UInt8} {xs ys : List DV} {r : List UInt8} {n : Int} (hs : unL unU8 xs = some s) (hl : (s.length : Int) ≤ 100000) (hr : r <:+ s) (hD : D ≤ N) (hD2 : D ≤ 1000) (hk : 7 ≤ k → 1 ≤ D) (hy : ys.length ≤ 100000)
    (hn : IntKind.i64.wrap (n - 1) = n - 1) :
    (tailS N s xs ys ((D + 1 : Nat) : Int) n k r).run = some (outS xs ys s ((D + 1 : Nat) : Int) (n - 1) (oneK (drawS D) k r)) := by
  have g0 := at_ge hr
  have g1 := at_le (s := s) (r := r)
  have e0 := dropAt hr
  have b2 := nx_lt (n := 2) (by omega) r
  have b3 := nx_lt (n := 3) (by omega) r
  have hy2 : (ys.length + 1) * 232 ≤ 70368744177664 := by omega
  have hw : IntKind.i64.wrap (((D + 1 : Nat) : Int) - 1) = (D : Int) := by
    rw [wrap_in] <;> omega
  by_cases k3 : k < 3
  · have s3 := (nx_suf 3 r).trans hr
    have e3 := dropAt s3
    have g2 := at_ge s3
    have g3 := at_le (s := s) (r := (nx 3 r).2)
    have hsc : (nx 3 r).1 = 0 ∨ (nx 3 r).1 = 1 ∨ (nx 3 r).1 = 2 := by omega
    have q3 : (k : Int) < 3 := by omega
    unfold tailS
    rcases hsc with h | h | h <;>
    simp [Tr.run_br, Tr.run_leaf, Tr.run_opt_, hs, hl, e0, g0, g1, e3, g2, g3, h, q3, k3, hy2, hn, oneK, outS, scName, encSt, x0]
  have q3 : ¬ (k : Int) < 3 := by omega
  have s2 := (nx_suf 2 r).trans hr
  have e2 := dropAt s2
  have g2 := at_ge s2
  have g3 := at_le (s := s) (r := (nx 2 r).2)
  by_cases k4 : k = 3
  · subst k4
    have s4 := (drawX_suf 2 (nx 2 r).2).trans s2
    have e4 := dropAt s4
    have g4 := at_ge s4
    have g5 := at_le (s := s) (r := (drawX 2 (nx 2 r).2).2)
    have hsc : (nx 2 r).1 = 0 ∨ (nx 2 r).1 = 1 := by omega
    unfold tailS
    rcases hsc with h | h <;>
    simp [Tr.run_br, Tr.run_leaf, Tr.run_opt_, hs, hl, e0, g0, g1, e2, g2, g3, e4, g4, g5, h, hy2, hn, oneK, outS, arName, encSt, x0]
  have q4 : ¬ (k : Int) = 3 := by omega
  have s5 := (drawX_suf 2 r).trans hr
  have e5 := dropAt s5
  have g6 := at_ge s5
  have g7 := at_le (s := s) (r := (drawX 2 r).2)
  by_cases k6 : k < 6
  · have q6 : (k : Int) < 6 := by omega
    unfold tailS
    simp [Tr.run_br, Tr.run_leaf, Tr.run_opt_, hs, hl, e0, g0, g1, e5, g6, g7, q3, q4, q6, k3, k4, k6, hy2, hn, oneK, outS, encSt, x0]
  have q6 : ¬ (k : Int) < 6 := by omega
  by_cases k7 : k = 6
  · subst k7
    unfold tailS
    simp [Tr.run_br, Tr.run_leaf, Tr.run_opt_, hs, hl, e0, g0, g1, hy2, hn, oneK, outS, encSt, x0]
  have q7 : ¬ (k : Int) = 6 := by omega
  have hD1 := hk (by omega)
  have d1 : (1 : Int) ≤ (D : Int) := by omega
  have d2 : (D : Int) ≤ (N : Int) := by omega
  have s6 := (drawS_suf D 2 (drawX 2 r).2).trans s5
  have e6 := dropAt s6
  have g8 := at_ge s6
  have g9 := at_le (s := s) (r := (drawS D 2 (drawX 2 r).2).2)
  by_cases k9 : k < 9
  · have q9 : (k : Int) < 9 := by omega
    unfold tailS
    rw [hw]
    simp [Tr.run_br, Tr.run_leaf, Tr.run_opt_, hs, hl, e0, g0, g1, e5, g6, g7, e6, g8, g9, d1, d2, hD1, hD, q3, q4, q6, q7, q9, k3, k4, k6, k7, k9, hy2, hn, oneK, outS, encSt, x0]
  · have q9 : ¬ (k : Int) < 9 := by omega
    unfold tailS
    rw [hw]
    simp [Tr.run_br, Tr.run_leaf, Tr.run_opt_, hs, hl, e0, g0, g1, e5, g6, g7, e6, g8, g9, d1, d2, hD1, hD, q3, q4, q6, q7, q9, k3, k4, k6, k7, k9, hy2, hn, oneK, outS, encSt, x0]
end Go.AI.RD
