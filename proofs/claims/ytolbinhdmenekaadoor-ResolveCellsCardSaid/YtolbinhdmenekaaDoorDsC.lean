/- ResolveCells, in sum. -/
import Derived.Test.YtolbinhdmenekaaDoorDsA
namespace Go.AI.RD
open Go Go.Proofs
set_option maxRecDepth 10000
set_option linter.unusedVariables false
set_option linter.unusedSimpArgs false

def zeroAt (q : List Int) (s z : Int) : Bool := (List.range z.toNat).all fun j => decide (q[s.toNat + j]? = some 0)
def stepV (l : List Var) (q : List Int) (nx : Int) (v : Var) : Bool :=
  match lookG l v.name 0 with
  | some (s, z) => decide (s = nx ∧ z = v.size ∧ 0 ≤ s ∧ 0 ≤ z ∧ s + max z 1 ≤ q.length) && (decide (z ≠ 0 ∨ q[s.toNat]? = some v.init) && zeroAt q s z)
  | none => false
def allV (l : List Var) (q : List Int) : Int → List Var → Bool
  | nx, [] => true
  | nx, v :: r => stepV l q nx v && allV l q (nx + max v.size 1) r
def endV : Int → List Var → Int
  | nx, [] => nx
  | nx, v :: r => endV (nx + max v.size 1) r
def unI : DV → Option Int := unInt .i64
def encI (n : Int) : DV := .int .i64 n
theorem unI_enc (n : Int) : unI (encI n) = some n := rfl
theorem unI_ok : ∀ x y, unI x = some y → x = encI y := (View.int .i64).ok

def lcellsT : FT
  | [.d (.sl 1 xs)], [] => .opt (unL unU8 xs) fun s => .leaf (.d (.bool true), [])
  | _, _ => .fail

noncomputable abbrev Xlc : TX := ⟨Tryd.prog, tbl [(6, awakeT), (7, newT), (8, programT), (10, resolveT2), (13, lookupT), (14, (withinT 9))], iso, gl, vw⟩

theorem xok_Xlc (f : Nat) : XOK Xlc (ann f) gl := XOK.of base (l := [(6, awakeT), (7, newT), (8, programT), (10, resolveT2), (13, lookupT), (14, (withinT 9))]) ⟨ok_awake, ok_new, ok_program, ok_resolve2, ok_lookup, ok_within9, trivial⟩ f

def L_lcells_0 : ST → Tr (Ex × ST)
  | ⟨[(3, .box [.d (.sl 3 ys), .d (.sl 18 s1), .d (.sl 18 s2), .d (.sl 18 s3), .d (.sl 18 s4)]), (4, .box [.d (.sl 1 is), .d (.sl 18 t1), .d (.sl 18 t2), .d (.sl 18 t3), .d (.sl 18 t4)]), (6, .d (.int .i64 nx)), (9, .d (.int .i64 s)), (10, .d (.int .i64 z)), (12, .d (.int .i64 i)), (26, .d (.sl 3 xs)), (27, .d (.int .i64 m)), (28, .d (.int .i64 n))], [[.d (.sl 1 cs), .d (.int .i64 ca)]]⟩ => .opt (unL unI is) fun q => .br (decide (i = 0 ∧ 0 ≤ s ∧ 0 ≤ z ∧ s + z ≤ q.length ∧ (q.length : Int) ≤ 100) && zeroAt q s z) (.leaf ((.ext 2), ⟨[(3, .box [.d (.sl 3 ys), .d (.sl 18 s1), .d (.sl 18 s2), .d (.sl 18 s3), .d (.sl 18 s4)]), (4, .box [.d (.sl 1 is), .d (.sl 18 t1), .d (.sl 18 t2), .d (.sl 18 t3), .d (.sl 18 t4)]), (6, .d (.int .i64 nx)), (10, .d (.int .i64 z)), (26, .d (.sl 3 xs)), (27, .d (.int .i64 m)), (28, .d (.int .i64 n))], [[.d (.sl 1 cs), .d (.int .i64 ca)]]⟩)) .fail
  | _ => .fail

def L_lcells_1 : ST → Tr (Ex × ST)
  | ⟨[(3, .box [.d (.sl 3 ys), .d (.sl 18 s1), .d (.sl 18 s2), .d (.sl 18 s3), .d (.sl 18 s4)]), (4, .box [.d (.sl 1 is), .d (.sl 18 t1), .d (.sl 18 t2), .d (.sl 18 t3), .d (.sl 18 t4)]), (6, .d (.int .i64 nx)), (26, .d (.sl 3 xs)), (27, .d (.int .i64 m)), (28, .d (.int .i64 n))], [[.d (.sl 1 cs), .d (.int .i64 ca)]]⟩ => .opt (unL unVar xs) fun l => .opt (unL unVar ys) fun l2 => .opt (unL unI is) fun q => .br (decide (l = l2 ∧ m = l.length ∧ n = 0 ∧ m ≤ 100 ∧ (q.length : Int) ≤ 100 ∧ nx = 0) && allV l q 0 l) (.leaf ((.ext 0), ⟨[(4, .box [.d (.sl 1 is), .d (.sl 18 t1), .d (.sl 18 t2), .d (.sl 18 t3), .d (.sl 18 t4)]), (6, .d (.int .i64 (endV 0 l)))], [[.d (.sl 1 cs), .d (.int .i64 ca)]]⟩)) .fail
  | _ => .fail

def l_lcells_0 : CC := .seq (.seq (.region [
    ⟨.yes, (some 78), .move (.tmp 12), false, false, []⟩,
    ⟨.yes, (some 79), .move (.tmp 10), false, false, []⟩,
    ⟨.yes, (some 80), .binOp .lss 3 (.tmp 78) (.tmp 79) 3, false, false, []⟩] [3, 4, 6, 9, 10, 12, 26, 27, 28, 80]) <|
  .cond (.tmp 80)
    (.skip)
    (.exit 2)) <|
  .seq (.block 3 <| .seq (.region [
    ⟨.yes, (some 83), .fieldAddr 35 (.tmp 4) 0, false, false, []⟩,
    ⟨.yes, (some 84), .load 33 (.tmp 83), false, false, [(some 1)]⟩,
    ⟨.yes, (some 85), .move (.tmp 9), false, false, []⟩,
    ⟨.yes, (some 86), .move (.tmp 12), false, false, []⟩,
    ⟨.yes, (some 87), .binOp .add 3 (.tmp 85) (.tmp 86) 3, false, false, []⟩,
    ⟨.yes, (some 88), .indexAddr 33 (.tmp 84) (.tmp 87), false, false, []⟩,
    ⟨.yes, (some 89), .load 3 (.tmp 88), false, false, []⟩,
    ⟨.yes, (some 90), .binOp .neq 3 (.tmp 89) (.const (.int .i64 (0))) 3, false, false, []⟩] [3, 4, 6, 9, 10, 12, 26, 27, 28, 90]) <|
  .cond (.tmp 90)
    (.seq (.region [
      ⟨.yes, (some 2), .assign (.const (.bool false)), false, false, []⟩] [2]) <|
    .ret)
    (.skip)) <|
  .region [
    ⟨.yes, (some 81), .move (.tmp 12), true, false, []⟩,
    ⟨.yes, (some 82), .binOp .add 3 (.tmp 81) (.const (.int .i64 (1))) 3, false, false, []⟩,
    ⟨.yes, (some 12), .assign (.tmp 82), true, false, []⟩] [3, 4, 6, 9, 10, 12, 26, 27, 28]

def l_lcells_1 : CC := .seq (.region [
    ⟨.yes, (some 29), .binOp .lss 3 (.tmp 28) (.tmp 27) 3, false, false, []⟩] [3, 4, 6, 26, 27, 28, 29]) <|
  .seq (.cond (.tmp 29)
    (.skip)
    (.exit 0)) <|
  .seq (.block 1 <| .seq (.region [
    ⟨.yes, (some 30), .indexAddr 26 (.tmp 26) (.tmp 28), false, false, []⟩,
    ⟨.yes, (some 31), .load 42 (.tmp 30), false, false, []⟩,
    ⟨.yes, (some 8), .alloc 42, false, false, []⟩,
    ⟨.yes, none, .store 42 (.tmp 8) (.tmp 31), true, false, []⟩] [3, 4, 6, 8, 26, 27, 28]) <|
  .seq (.region [
    ⟨.yes, (some 33), .fieldAddr 29 (.tmp 3) 0, false, false, []⟩,
    ⟨.yes, (some 34), .load 26 (.tmp 33), false, false, [(some 3)]⟩,
    ⟨.yes, (some 35), .fieldAddr 42 (.tmp 8) 0, false, false, []⟩,
    ⟨.yes, (some 36), .load 9 (.tmp 35), false, false, []⟩,
    ⟨.yes, (some 37), .call ⟨.value (.func 13), #[(.tmp 34), (.tmp 36)], #[26, 9]⟩, false, false, []⟩,
    ⟨.yes, (some 32), .move (.tmp 37), true, false, []⟩,
    ⟨.yes, (some 38), .extract (.tmp 32) 0, false, false, []⟩,
    ⟨.yes, (some 39), .extract (.tmp 32) 1, false, false, []⟩,
    ⟨.yes, (some 40), .extract (.tmp 32) 2, false, false, []⟩,
    ⟨.yes, (some 9), .assign (.tmp 38), true, false, []⟩,
    ⟨.yes, (some 10), .assign (.tmp 39), true, false, []⟩,
    ⟨.yes, (some 11), .assign (.tmp 40), true, false, []⟩] [3, 4, 6, 8, 9, 10, 11, 26, 27, 28]) <|
  .seq (.seq (.drawn ⟨[0, 2, 7, 13, 23, 26], [], [3, 4, 6, 9, 10, 26, 27, 28, 77]⟩ [
    ⟨(some 41), .move (.tmp 11), 4, "law.go:121", #[], none⟩,
    ⟨(some 42), .unOp .not 4 (.tmp 41), 4, "law.go:121", #[⟨0, .data⟩], none⟩,
    ⟨(some 43), .move (.tmp 42), 4, "law.go:121", #[⟨1, .data⟩], none⟩,
    ⟨(some 44), .move (.tmp 9), 3, "law.go:121", #[⟨2, .guard⟩], (some (2, false))⟩,
    ⟨(some 45), .move (.tmp 6), 3, "law.go:121", #[⟨2, .guard⟩], (some (2, false))⟩,
    ⟨(some 46), .binOp .neq 3 (.tmp 44) (.tmp 45) 3, 4, "law.go:121", #[⟨3, .data⟩, ⟨4, .data⟩, ⟨2, .guard⟩], (some (2, false))⟩,
    ⟨(some 47), .pick (.tmp 43) (.const (.bool true)) (.tmp 46), 4, "law.go:121", #[⟨2, .data⟩, ⟨5, .data⟩], none⟩,
    ⟨(some 48), .move (.tmp 47), 4, "law.go:121", #[⟨6, .data⟩, ⟨2, .chain⟩], none⟩,
    ⟨(some 49), .move (.tmp 10), 3, "law.go:121", #[⟨7, .guard⟩], (some (7, false))⟩,
    ⟨(some 50), .fieldAddr 42 (.tmp 8) 1, 0, "law.go:121", #[⟨7, .guard⟩], (some (7, false))⟩,
    ⟨(some 51), .load 3 (.tmp 50), 3, "law.go:121", #[⟨9, .data⟩, ⟨7, .guard⟩], (some (7, false))⟩,
    ⟨(some 52), .binOp .neq 3 (.tmp 49) (.tmp 51) 3, 4, "law.go:121", #[⟨8, .data⟩, ⟨10, .data⟩, ⟨7, .guard⟩], (some (7, false))⟩,
    ⟨(some 53), .pick (.tmp 48) (.const (.bool true)) (.tmp 52), 4, "law.go:121", #[⟨7, .data⟩, ⟨11, .data⟩], none⟩,
    ⟨(some 54), .move (.tmp 53), 4, "law.go:121", #[⟨12, .data⟩, ⟨7, .chain⟩], none⟩,
    ⟨(some 55), .move (.tmp 9), 3, "law.go:121", #[⟨13, .guard⟩], (some (13, false))⟩,
    ⟨(some 56), .move (.tmp 10), 3, "law.go:121", #[⟨13, .guard⟩], (some (13, false))⟩,
    ⟨(some 57), .call ⟨.builtin .max, #[(.tmp 56), (.const (.int .i64 (1)))], #[3, 3]⟩, 3, "law.go:121", #[⟨15, .data⟩, ⟨13, .guard⟩], (some (13, false))⟩,
    ⟨(some 58), .binOp .add 3 (.tmp 55) (.tmp 57) 3, 3, "law.go:121", #[⟨14, .data⟩, ⟨16, .data⟩, ⟨13, .guard⟩], (some (13, false))⟩,
    ⟨(some 59), .fieldAddr 35 (.tmp 4) 0, 0, "law.go:121", #[⟨13, .guard⟩], (some (13, false))⟩,
    ⟨(some 60), .load 33 (.tmp 59), 33, "law.go:121", #[⟨18, .data⟩, ⟨13, .guard⟩], (some (13, false))⟩,
    ⟨(some 61), .call ⟨.builtin .len, #[(.tmp 60)], #[33]⟩, 3, "law.go:121", #[⟨19, .data⟩, ⟨13, .guard⟩], (some (13, false))⟩,
    ⟨(some 62), .binOp .gtr 3 (.tmp 58) (.tmp 61) 3, 4, "law.go:121", #[⟨17, .data⟩, ⟨20, .data⟩, ⟨13, .guard⟩], (some (13, false))⟩,
    ⟨(some 63), .pick (.tmp 54) (.const (.bool true)) (.tmp 62), 4, "law.go:121", #[⟨13, .data⟩, ⟨21, .data⟩], none⟩,
    ⟨(some 64), .move (.tmp 63), 4, "law.go:121", #[⟨22, .data⟩, ⟨13, .chain⟩], none⟩,
    ⟨(some 65), .move (.tmp 10), 3, "law.go:121", #[⟨23, .guard⟩], (some (23, false))⟩,
    ⟨(some 66), .binOp .eql 3 (.tmp 65) (.const (.int .i64 (0))) 3, 4, "law.go:121", #[⟨24, .data⟩, ⟨23, .guard⟩], (some (23, false))⟩,
    ⟨(some 67), .move (.tmp 66), 4, "law.go:121", #[⟨25, .data⟩, ⟨23, .chain⟩, ⟨23, .guard⟩], (some (23, false))⟩,
    ⟨(some 68), .fieldAddr 35 (.tmp 4) 0, 0, "law.go:121", #[⟨26, .guard⟩], (some (26, true))⟩,
    ⟨(some 69), .load 33 (.tmp 68), 33, "law.go:121", #[⟨27, .data⟩, ⟨26, .guard⟩], (some (26, true))⟩,
    ⟨(some 70), .move (.tmp 9), 3, "law.go:121", #[⟨26, .guard⟩], (some (26, true))⟩,
    ⟨(some 71), .indexAddr 33 (.tmp 69) (.tmp 70), 0, "law.go:121", #[⟨28, .data⟩, ⟨29, .data⟩, ⟨26, .guard⟩], (some (26, true))⟩,
    ⟨(some 72), .load 3 (.tmp 71), 3, "law.go:121", #[⟨30, .data⟩, ⟨26, .guard⟩], (some (26, true))⟩,
    ⟨(some 73), .fieldAddr 42 (.tmp 8) 2, 0, "law.go:121", #[⟨26, .guard⟩], (some (26, true))⟩,
    ⟨(some 74), .load 3 (.tmp 73), 3, "law.go:121", #[⟨32, .data⟩, ⟨26, .guard⟩], (some (26, true))⟩,
    ⟨(some 75), .binOp .neq 3 (.tmp 72) (.tmp 74) 3, 4, "law.go:121", #[⟨31, .data⟩, ⟨33, .data⟩, ⟨26, .guard⟩], (some (26, true))⟩,
    ⟨(some 76), .pick (.tmp 67) (.tmp 75) (.const (.bool false)), 4, "law.go:121", #[⟨26, .data⟩, ⟨34, .data⟩, ⟨23, .guard⟩], (some (23, false))⟩,
    ⟨(some 77), .pick (.tmp 64) (.const (.bool true)) (.tmp 76), 4, "law.go:121", #[⟨23, .data⟩, ⟨35, .data⟩], none⟩]) <|
  .cond (.tmp 77)
    (.seq (.region [
      ⟨.yes, (some 2), .assign (.const (.bool false)), false, false, []⟩] [2]) <|
    .ret)
    (.skip)) <|
  .seq (.seq (.region [
    ⟨.yes, (some 12), .assign (.const (.int .i64 (0))), false, false, []⟩] [3, 4, 6, 9, 10, 12, 26, 27, 28]) <|
  .block 2 <| .keep [3, 4, 6, 9, 10, 12, 26, 27, 28] <| .sum L_lcells_0 (.loop l_lcells_0)) <|
  .region [
    ⟨.yes, (some 91), .move (.tmp 6), true, false, []⟩,
    ⟨.yes, (some 92), .move (.tmp 10), true, false, []⟩,
    ⟨.yes, (some 93), .call ⟨.builtin .max, #[(.tmp 92), (.const (.int .i64 (1)))], #[3, 3]⟩, false, false, []⟩,
    ⟨.yes, (some 94), .binOp .add 3 (.tmp 91) (.tmp 93) 3, false, false, []⟩,
    ⟨.yes, (some 6), .assign (.tmp 94), true, false, []⟩] [3, 4, 6, 26, 27, 28]) <|
  .region [
    ⟨.yes, (some 95), .binOp .add 3 (.tmp 28) (.const (.int .i64 (1))) 3, false, false, []⟩,
    ⟨.yes, (some 28), .move (.tmp 95), true, false, []⟩] [3, 4, 6, 26, 27, 28]

/-- rollbacknet/rollbacknetlaw03.ResolveCells -/
def c_lcells : CC := .seq (.region [
    ⟨.yes, (some 2), .assign (.const (.bool false)), false, false, []⟩] [0]) <|
  .seq (.seq (.region [
    ⟨.yes, (some 13), .call ⟨.value (.func 6), #[], #[]⟩, false, false, []⟩,
    ⟨.yes, (some 14), .unOp .not 4 (.tmp 13), false, false, []⟩] [0, 14]) <|
  .cond (.tmp 14)
    (.seq (.region [
      ⟨.yes, (some 2), .assign (.const (.bool false)), false, false, []⟩] [2]) <|
    .ret)
    (.skip)) <|
  .seq (.region [
    ⟨.yes, (some 15), .move (.tmp 0), true, false, [(some 1)]⟩,
    ⟨.yes, (some 16), .call ⟨.value (.func 7), #[(.tmp 15), (.const (.int .i64 (200)))], #[22, 3]⟩, false, false, []⟩,
    ⟨.yes, (some 17), .call ⟨.value (.func 8), #[(.tmp 16)], #[24]⟩, false, false, [(some 3), (some 18), (some 18), (some 18), (some 18)]⟩,
    ⟨.yes, (some 3), .alloc 29, false, false, []⟩,
    ⟨.yes, none, .store 29 (.tmp 3) (.tmp 17), true, false, []⟩] [3]) <|
  .seq (.region [
    ⟨.yes, (some 19), .load 29 (.tmp 3), false, false, [(some 3), (some 18), (some 18), (some 18), (some 18)]⟩,
    ⟨.yes, (some 20), .call ⟨.value (.func 10), #[(.tmp 19)], #[29]⟩, false, false, []⟩,
    ⟨.yes, (some 18), .move (.tmp 20), true, false, []⟩,
    ⟨.yes, (some 21), .extract (.tmp 18) 0, false, false, [(some 1), (some 18), (some 18), (some 18), (some 18)]⟩,
    ⟨.yes, (some 22), .extract (.tmp 18) 1, false, false, []⟩,
    ⟨.yes, (some 4), .alloc 35, false, false, []⟩,
    ⟨.yes, none, .store 35 (.tmp 4) (.tmp 21), true, false, []⟩,
    ⟨.yes, (some 5), .assign (.tmp 22), true, false, []⟩] [3, 4, 5]) <|
  .seq (.seq (.region [
    ⟨.yes, (some 23), .move (.tmp 5), true, false, []⟩,
    ⟨.yes, (some 24), .binOp .neq 36 (.tmp 23) (.const (.int .i64 (0))) 36, false, false, []⟩] [3, 4, 24]) <|
  .cond (.tmp 24)
    (.seq (.region [
      ⟨.yes, (some 2), .assign (.const (.bool false)), false, false, []⟩] [2]) <|
    .ret)
    (.skip)) <|
  .seq (.region [
    ⟨.yes, (some 6), .assign (.const (.int .i64 (0))), false, false, []⟩] [3, 4, 6]) <|
  .seq (.seq (.region [
    ⟨.yes, (some 25), .fieldAddr 29 (.tmp 3) 0, false, false, []⟩,
    ⟨.yes, (some 26), .load 26 (.tmp 25), false, false, [(some 3)]⟩,
    ⟨.yes, (some 27), .call ⟨.builtin .len, #[(.tmp 26)], #[26]⟩, false, false, []⟩,
    ⟨.yes, (some 28), .move (.const (.int .i64 (0))), false, false, []⟩] [3, 4, 6, 26, 27, 28]) <|
  .block 0 <| .keep [3, 4, 6, 26, 27, 28] <| .sum L_lcells_1 (.loop l_lcells_1)) <|
  .seq (.region [
    ⟨.yes, (some 96), .move (.tmp 6), false, false, []⟩,
    ⟨.yes, (some 97), .fieldAddr 35 (.tmp 4) 0, false, false, []⟩,
    ⟨.yes, (some 98), .load 33 (.tmp 97), false, false, [(some 1)]⟩,
    ⟨.yes, (some 99), .call ⟨.builtin .len, #[(.tmp 98)], #[33]⟩, false, false, []⟩,
    ⟨.yes, (some 100), .binOp .eql 3 (.tmp 96) (.tmp 99) 3, false, false, []⟩,
    ⟨.yes, (some 101), .move (.tmp 100), true, false, []⟩,
    ⟨(.on 101 true), (some 102), .fieldAddr 35 (.tmp 4) 1, false, false, []⟩,
    ⟨(.on 101 true), (some 103), .load 27 (.tmp 102), false, false, [(some 18)]⟩,
    ⟨(.on 101 true), (some 104), .move (.tmp 6), false, false, []⟩,
    ⟨(.on 101 true), (some 105), .call ⟨.value (.func 14), #[(.tmp 103), (.tmp 104)], #[27, 3]⟩, false, false, []⟩,
    ⟨.yes, (some 106), .pick (.tmp 101) (.tmp 105) (.const (.bool false)), false, false, []⟩,
    ⟨.yes, (some 107), .move (.tmp 106), true, false, []⟩,
    ⟨(.on 107 true), (some 108), .fieldAddr 35 (.tmp 4) 2, false, false, []⟩,
    ⟨(.on 107 true), (some 109), .load 27 (.tmp 108), false, false, [(some 18)]⟩,
    ⟨(.on 107 true), (some 110), .move (.tmp 6), false, false, []⟩,
    ⟨(.on 107 true), (some 111), .call ⟨.value (.func 14), #[(.tmp 109), (.tmp 110)], #[27, 3]⟩, false, false, []⟩,
    ⟨.yes, (some 112), .pick (.tmp 107) (.tmp 111) (.const (.bool false)), false, false, []⟩,
    ⟨.yes, (some 113), .move (.tmp 112), true, false, []⟩,
    ⟨(.on 113 true), (some 114), .fieldAddr 35 (.tmp 4) 3, false, false, []⟩,
    ⟨(.on 113 true), (some 115), .load 27 (.tmp 114), false, false, [(some 18)]⟩,
    ⟨(.on 113 true), (some 116), .move (.tmp 6), false, false, []⟩,
    ⟨(.on 113 true), (some 117), .call ⟨.value (.func 14), #[(.tmp 115), (.tmp 116)], #[27, 3]⟩, false, false, []⟩,
    ⟨.yes, (some 118), .pick (.tmp 113) (.tmp 117) (.const (.bool false)), false, false, []⟩,
    ⟨.yes, (some 119), .move (.tmp 118), true, false, []⟩,
    ⟨(.on 119 true), (some 120), .fieldAddr 35 (.tmp 4) 4, false, false, []⟩,
    ⟨(.on 119 true), (some 121), .load 27 (.tmp 120), false, false, [(some 18)]⟩,
    ⟨(.on 119 true), (some 122), .move (.tmp 6), true, false, []⟩,
    ⟨(.on 119 true), (some 123), .call ⟨.value (.func 14), #[(.tmp 121), (.tmp 122)], #[27, 3]⟩, false, false, []⟩,
    ⟨.yes, (some 124), .pick (.tmp 119) (.tmp 123) (.const (.bool false)), false, false, []⟩,
    ⟨.yes, (some 2), .assign (.tmp 124), true, false, []⟩] [2]) <|
  .ret

theorem c_lcells_eq : ∃ c, Tryd.f4.body = some c ∧ codeOK Tryd.f4.ntmps c = true ∧ comp Tryd.prog (ann 4) c = erase c_lcells := ⟨_, rfl, by kernel_rfl, by kernel_rfl⟩

theorem body_lcells_0 (cs xs ys s1 s2 s3 s4 is t1 t2 t3 t4 : List DV) (ca nx m n : Int) (s z i : Int) : bodyT Xlc [3, 4, 6, 9, 10, 12, 26, 27, 28] [2] [(0, [4, 6]), (1, [3, 4, 6, 26, 27, 28]), (2, [3, 4, 6, 10, 26, 27, 28])] l_lcells_0 ⟨[(3, .box [.d (.sl 3 ys), .d (.sl 18 s1), .d (.sl 18 s2), .d (.sl 18 s3), .d (.sl 18 s4)]), (4, .box [.d (.sl 1 is), .d (.sl 18 t1), .d (.sl 18 t2), .d (.sl 18 t3), .d (.sl 18 t4)]), (6, .d (.int .i64 nx)), (9, .d (.int .i64 s)), (10, .d (.int .i64 z)), (12, .d (.int .i64 i)), (26, .d (.sl 3 xs)), (27, .d (.int .i64 m)), (28, .d (.int .i64 n))], [[.d (.sl 1 cs), .d (.int .i64 ca)]]⟩ = (
    .br (decide (i < z))
    (.br (decide ((0 : Int) ≤ (IntKind.i64.wrap (s + i))))
      (.opt ((is[(Int.toNat (IntKind.i64.wrap (s + i)))]?).bind (unInt .i64)) fun y1 => .br (!decide (y1 = 0))
        (.leaf (.ret, ⟨[(2, (.d (.bool false)))], [[(.d (.sl 1 cs)), (.d (.int .i64 ca))]]⟩))
        (.leaf (.nrm, ⟨[(3, (.box [(.d (.sl 3 ys)), (.d (.sl 18 s1)), (.d (.sl 18 s2)), (.d (.sl 18 s3)), (.d (.sl 18 s4))])), (4, (.box [(.d (.sl 1 is)), (.d (.sl 18 t1)), (.d (.sl 18 t2)), (.d (.sl 18 t3)), (.d (.sl 18 t4))])), (6, (.d (.int .i64 nx))), (9, (.d (.int .i64 s))), (10, (.d (.int .i64 z))), (12, (.d (.int .i64 (IntKind.i64.wrap (i + 1))))), (26, (.d (.sl 3 xs))), (27, (.d (.int .i64 m))), (28, (.d (.int .i64 n)))], [[(.d (.sl 1 cs)), (.d (.int .i64 ca))]]⟩)))
      (.fail))
    (.leaf ((.ext 2), ⟨[(3, (.box [(.d (.sl 3 ys)), (.d (.sl 18 s1)), (.d (.sl 18 s2)), (.d (.sl 18 s3)), (.d (.sl 18 s4))])), (4, (.box [(.d (.sl 1 is)), (.d (.sl 18 t1)), (.d (.sl 18 t2)), (.d (.sl 18 t3)), (.d (.sl 18 t4))])), (6, (.d (.int .i64 nx))), (10, (.d (.int .i64 z))), (26, (.d (.sl 3 xs))), (27, (.d (.int .i64 m))), (28, (.d (.int .i64 n)))], [[(.d (.sl 1 cs)), (.d (.int .i64 ca))]]⟩)) : Tr (Ex × ST)) := by kernel_rfl

theorem body_lcells_1 (cs xs ys s1 s2 s3 s4 is t1 t2 t3 t4 : List DV) (ca nx m n : Int) : bodyT Xlc [3, 4, 6, 26, 27, 28] [2] [(0, [4, 6])] l_lcells_1 ⟨[(3, .box [.d (.sl 3 ys), .d (.sl 18 s1), .d (.sl 18 s2), .d (.sl 18 s3), .d (.sl 18 s4)]), (4, .box [.d (.sl 1 is), .d (.sl 18 t1), .d (.sl 18 t2), .d (.sl 18 t3), .d (.sl 18 t4)]), (6, .d (.int .i64 nx)), (26, .d (.sl 3 xs)), (27, .d (.int .i64 m)), (28, .d (.int .i64 n))], [[.d (.sl 1 cs), .d (.int .i64 ca)]]⟩ = (
    .br (decide (n < m))
    (.br (decide ((0 : Int) ≤ n))
      (.opt ((xs[(Int.toNat n)]?).bind unVar) fun y1 => .opt (unL unVar ys) fun l2 => .br (decide ((l2.length : Int) ≤ big))
        (.br (!((lk (lookG l2 y1.name 0)).2.2))
          (.leaf (.ret, ⟨[(2, (.d (.bool false)))], [[(.d (.sl 1 cs)), (.d (.int .i64 ca))]]⟩))
          (.br (!decide (((lk (lookG l2 y1.name 0)).1) = nx))
            (.leaf (.ret, ⟨[(2, (.d (.bool false)))], [[(.d (.sl 1 cs)), (.d (.int .i64 ca))]]⟩))
            (.br (!decide (((lk (lookG l2 y1.name 0)).2.1) = y1.size))
              (.leaf (.ret, ⟨[(2, (.d (.bool false)))], [[(.d (.sl 1 cs)), (.d (.int .i64 ca))]]⟩))
              (.br (decide ((is.length : Int) < (IntKind.i64.wrap (((lk (lookG l2 y1.name 0)).1) + (if ((lk (lookG l2 y1.name 0)).2.1) < 1 then 1 else (lk (lookG l2 y1.name 0)).2.1)))))
                (.leaf (.ret, ⟨[(2, (.d (.bool false)))], [[(.d (.sl 1 cs)), (.d (.int .i64 ca))]]⟩))
                (.br (decide (((lk (lookG l2 y1.name 0)).2.1) = 0))
                  (.br (decide ((0 : Int) ≤ ((lk (lookG l2 y1.name 0)).1)))
                    (.opt ((is[(Int.toNat ((lk (lookG l2 y1.name 0)).1))]?).bind (unInt .i64)) fun y3 => .br (!decide (y3 = y1.init))
                      (.leaf (.ret, ⟨[(2, (.d (.bool false)))], [[(.d (.sl 1 cs)), (.d (.int .i64 ca))]]⟩))
                      (.opt (unL unI is) fun q4 => .br (decide ((0 : Int) = 0 ∧ 0 ≤ ((lk (lookG l2 y1.name 0)).1) ∧ 0 ≤ ((lk (lookG l2 y1.name 0)).2.1) ∧ ((lk (lookG l2 y1.name 0)).1) + ((lk (lookG l2 y1.name 0)).2.1) ≤ q4.length ∧ (q4.length : Int) ≤ 100) && zeroAt q4 ((lk (lookG l2 y1.name 0)).1) ((lk (lookG l2 y1.name 0)).2.1))
                        (.leaf (.nrm, ⟨[(3, (.box [(.d (.sl 3 ys)), (.d (.sl 18 s1)), (.d (.sl 18 s2)), (.d (.sl 18 s3)), (.d (.sl 18 s4))])), (4, (.box [(.d (.sl 1 is)), (.d (.sl 18 t1)), (.d (.sl 18 t2)), (.d (.sl 18 t3)), (.d (.sl 18 t4))])), (6, (.d (.int .i64 (IntKind.i64.wrap (nx + (if ((lk (lookG l2 y1.name 0)).2.1) < 1 then 1 else (lk (lookG l2 y1.name 0)).2.1)))))), (26, (.d (.sl 3 xs))), (27, (.d (.int .i64 m))), (28, (.d (.int .i64 (IntKind.i64.wrap (n + 1)))))], [[(.d (.sl 1 cs)), (.d (.int .i64 ca))]]⟩))
                        (.fail)))
                    (.fail))
                  (.opt (unL unI is) fun q5 => .br (decide ((0 : Int) = 0 ∧ 0 ≤ ((lk (lookG l2 y1.name 0)).1) ∧ 0 ≤ ((lk (lookG l2 y1.name 0)).2.1) ∧ ((lk (lookG l2 y1.name 0)).1) + ((lk (lookG l2 y1.name 0)).2.1) ≤ q5.length ∧ (q5.length : Int) ≤ 100) && zeroAt q5 ((lk (lookG l2 y1.name 0)).1) ((lk (lookG l2 y1.name 0)).2.1))
                    (.leaf (.nrm, ⟨[(3, (.box [(.d (.sl 3 ys)), (.d (.sl 18 s1)), (.d (.sl 18 s2)), (.d (.sl 18 s3)), (.d (.sl 18 s4))])), (4, (.box [(.d (.sl 1 is)), (.d (.sl 18 t1)), (.d (.sl 18 t2)), (.d (.sl 18 t3)), (.d (.sl 18 t4))])), (6, (.d (.int .i64 (IntKind.i64.wrap (nx + (if ((lk (lookG l2 y1.name 0)).2.1) < 1 then 1 else (lk (lookG l2 y1.name 0)).2.1)))))), (26, (.d (.sl 3 xs))), (27, (.d (.int .i64 m))), (28, (.d (.int .i64 (IntKind.i64.wrap (n + 1)))))], [[(.d (.sl 1 cs)), (.d (.int .i64 ca))]]⟩))
                    (.fail)))))))
        (.fail))
      (.fail))
    (.leaf ((.ext 0), ⟨[(4, (.box [(.d (.sl 1 is)), (.d (.sl 18 t1)), (.d (.sl 18 t2)), (.d (.sl 18 t3)), (.d (.sl 18 t4))])), (6, (.d (.int .i64 nx)))], [[(.d (.sl 1 cs)), (.d (.int .i64 ca))]]⟩)) : Tr (Ex × ST)) := by kernel_rfl

theorem tree_lcells (xs : List DV) : fnT Xlc c_lcells Tryd.f4.results.toList [.d (.sl 1 xs)] [] = (
    .br false
    (.leaf ((.d (.bool false)), []))
    (.opt (unL unU8 xs) fun s1 => .br (decide (0 ≤ (200 : Int)))
      (.opt (unL unU8 ((s1.take (200 : Int).toNat).map encU8)) fun s2 => .br (decide (0 ≤ (0 : Int) ∧ (0 : Int) ≤ s2.length ∧ (s2.length : Int) ≤ 100000))
        (.opt (unL unVar ((drawP (s2.drop (0 : Int).toNat)).1.vars.map encVar)) fun l3 => .br (decide ((l3.length : Int) ≤ big) && (short l3 && fitP ((drawP (s2.drop (0 : Int).toNat)).1.start.map encSt) ((drawP (s2.drop (0 : Int).toNat)).1.message.map encSt) ((drawP (s2.drop (0 : Int).toNat)).1.tick.map encSt) ((drawP (s2.drop (0 : Int).toNat)).1.input.map encSt)))
          (.br (resOK l3 ((drawP (s2.drop (0 : Int).toNat)).1.start.map encSt) ((drawP (s2.drop (0 : Int).toNat)).1.message.map encSt) ((drawP (s2.drop (0 : Int).toNat)).1.tick.map encSt) ((drawP (s2.drop (0 : Int).toNat)).1.input.map encSt))
            (.br (!decide ((0 : Int) = 0))
              (.leaf ((.d (.bool false)), [[(.d (.sl 1 ((s1.take (200 : Int).toNat).map encU8))), (.d (.int .i64 (atOf s2 (drawP (s2.drop (0 : Int).toNat)).2)))]]))
              (.opt (unL unVar ((drawP (s2.drop (0 : Int).toNat)).1.vars.map encVar)) fun l4 => .opt (unL unVar ((drawP (s2.drop (0 : Int).toNat)).1.vars.map encVar)) fun l25 => .opt (unL unI (ini l3)) fun q6 => .br (decide (l4 = l25 ∧ (((drawP (s2.drop (0 : Int).toNat)).1.vars.map encVar).length : Int) = l4.length ∧ (0 : Int) = 0 ∧ (((drawP (s2.drop (0 : Int).toNat)).1.vars.map encVar).length : Int) ≤ 100 ∧ (q6.length : Int) ≤ 100 ∧ (0 : Int) = 0) && allV l4 q6 0 l4)
                (.br (decide ((endV 0 l4) = ((ini l3).length : Int)))
                  (.br (fitS 9 ((res1L l3 ((drawP (s2.drop (0 : Int).toNat)).1.start.map encSt)).1.map encSt))
                    (.br (wthL (endV 0 l4) 9 ((res1L l3 ((drawP (s2.drop (0 : Int).toNat)).1.start.map encSt)).1.map encSt))
                      (.br (fitS 9 ((res2L l3 ((drawP (s2.drop (0 : Int).toNat)).1.start.map encSt) ((drawP (s2.drop (0 : Int).toNat)).1.message.map encSt)).1.map encSt))
                        (.br (wthL (endV 0 l4) 9 ((res2L l3 ((drawP (s2.drop (0 : Int).toNat)).1.start.map encSt) ((drawP (s2.drop (0 : Int).toNat)).1.message.map encSt)).1.map encSt))
                          (.br (fitS 9 ((res3L l3 ((drawP (s2.drop (0 : Int).toNat)).1.start.map encSt) ((drawP (s2.drop (0 : Int).toNat)).1.message.map encSt) ((drawP (s2.drop (0 : Int).toNat)).1.tick.map encSt)).1.map encSt))
                            (.br (wthL (endV 0 l4) 9 ((res3L l3 ((drawP (s2.drop (0 : Int).toNat)).1.start.map encSt) ((drawP (s2.drop (0 : Int).toNat)).1.message.map encSt) ((drawP (s2.drop (0 : Int).toNat)).1.tick.map encSt)).1.map encSt))
                              (.br (fitS 9 ((res4L l3 ((drawP (s2.drop (0 : Int).toNat)).1.start.map encSt) ((drawP (s2.drop (0 : Int).toNat)).1.message.map encSt) ((drawP (s2.drop (0 : Int).toNat)).1.tick.map encSt) ((drawP (s2.drop (0 : Int).toNat)).1.input.map encSt)).1.map encSt))
                                (.leaf ((.d (.bool (wthL (endV 0 l4) 9 ((res4L l3 ((drawP (s2.drop (0 : Int).toNat)).1.start.map encSt) ((drawP (s2.drop (0 : Int).toNat)).1.message.map encSt) ((drawP (s2.drop (0 : Int).toNat)).1.tick.map encSt) ((drawP (s2.drop (0 : Int).toNat)).1.input.map encSt)).1.map encSt)))), [[(.d (.sl 1 ((s1.take (200 : Int).toNat).map encU8))), (.d (.int .i64 (atOf s2 (drawP (s2.drop (0 : Int).toNat)).2)))]]))
                                (.fail))
                              (.leaf ((.d (.bool false)), [[(.d (.sl 1 ((s1.take (200 : Int).toNat).map encU8))), (.d (.int .i64 (atOf s2 (drawP (s2.drop (0 : Int).toNat)).2)))]])))
                            (.fail))
                          (.leaf ((.d (.bool false)), [[(.d (.sl 1 ((s1.take (200 : Int).toNat).map encU8))), (.d (.int .i64 (atOf s2 (drawP (s2.drop (0 : Int).toNat)).2)))]])))
                        (.fail))
                      (.leaf ((.d (.bool false)), [[(.d (.sl 1 ((s1.take (200 : Int).toNat).map encU8))), (.d (.int .i64 (atOf s2 (drawP (s2.drop (0 : Int).toNat)).2)))]])))
                    (.fail))
                  (.leaf ((.d (.bool false)), [[(.d (.sl 1 ((s1.take (200 : Int).toNat).map encU8))), (.d (.int .i64 (atOf s2 (drawP (s2.drop (0 : Int).toNat)).2)))]])))
                (.fail)))
            (.br (!decide ((resE l3 ((drawP (s2.drop (0 : Int).toNat)).1.start.map encSt) ((drawP (s2.drop (0 : Int).toNat)).1.message.map encSt) ((drawP (s2.drop (0 : Int).toNat)).1.tick.map encSt) ((drawP (s2.drop (0 : Int).toNat)).1.input.map encSt)) = 0))
              (.leaf ((.d (.bool false)), [[(.d (.sl 1 ((s1.take (200 : Int).toNat).map encU8))), (.d (.int .i64 (atOf s2 (drawP (s2.drop (0 : Int).toNat)).2)))]]))
              (.opt (unL unVar ((drawP (s2.drop (0 : Int).toNat)).1.vars.map encVar)) fun l7 => .opt (unL unVar ((drawP (s2.drop (0 : Int).toNat)).1.vars.map encVar)) fun l28 => .opt (unL unI ([] : List DV)) fun q9 => .br (decide (l7 = l28 ∧ (((drawP (s2.drop (0 : Int).toNat)).1.vars.map encVar).length : Int) = l7.length ∧ (0 : Int) = 0 ∧ (((drawP (s2.drop (0 : Int).toNat)).1.vars.map encVar).length : Int) ≤ 100 ∧ (q9.length : Int) ≤ 100 ∧ (0 : Int) = 0) && allV l7 q9 0 l7)
                (.br (decide ((endV 0 l7) = (([] : List DV).length : Int)))
                  (.br (fitS 9 ([] : List DV))
                    (.br (wthL (endV 0 l7) 9 ([] : List DV))
                      (.br (fitS 9 ([] : List DV))
                        (.br (wthL (endV 0 l7) 9 ([] : List DV))
                          (.br (fitS 9 ([] : List DV))
                            (.br (wthL (endV 0 l7) 9 ([] : List DV))
                              (.br (fitS 9 ([] : List DV))
                                (.leaf ((.d (.bool (wthL (endV 0 l7) 9 ([] : List DV)))), [[(.d (.sl 1 ((s1.take (200 : Int).toNat).map encU8))), (.d (.int .i64 (atOf s2 (drawP (s2.drop (0 : Int).toNat)).2)))]]))
                                (.fail))
                              (.leaf ((.d (.bool false)), [[(.d (.sl 1 ((s1.take (200 : Int).toNat).map encU8))), (.d (.int .i64 (atOf s2 (drawP (s2.drop (0 : Int).toNat)).2)))]])))
                            (.fail))
                          (.leaf ((.d (.bool false)), [[(.d (.sl 1 ((s1.take (200 : Int).toNat).map encU8))), (.d (.int .i64 (atOf s2 (drawP (s2.drop (0 : Int).toNat)).2)))]])))
                        (.fail))
                      (.leaf ((.d (.bool false)), [[(.d (.sl 1 ((s1.take (200 : Int).toNat).map encU8))), (.d (.int .i64 (atOf s2 (drawP (s2.drop (0 : Int).toNat)).2)))]])))
                    (.fail))
                  (.leaf ((.d (.bool false)), [[(.d (.sl 1 ((s1.take (200 : Int).toNat).map encU8))), (.d (.int .i64 (atOf s2 (drawP (s2.drop (0 : Int).toNat)).2)))]])))
                (.fail))))
          (.fail))
        (.fail))
      (.fail)) : Tr (AV × Hp)) := by kernel_rfl


theorem sum_lcells_0 : SumOK Tryd.prog gl (ann 4) L_lcells_0 (.loop l_lcells_0) := by
  refine SumOK.of_inv (X := Xlc) (xok_Xlc 4) (by simp only [Sums, l_lcells_0, and_true]) (by kernel_rfl) (lv := [3, 4, 6, 9, 10, 12, 26, 27, 28]) (rt := [2]) (xs := [(0, [4, 6]), (1, [3, 4, 6, 26, 27, 28]), (2, [3, 4, 6, 10, 26, 27, 28])]) (by decide)
    (fun k st r => ∃ (cs xs ys s1 s2 s3 s4 t1 t2 t3 t4 : List DV) (q : List Int) (ca nx m n : Int) (s z i : Nat), i ≤ z ∧ (s : Int) + z ≤ q.length ∧ (q.length : Int) ≤ 100 ∧ zeroAt q s z = true ∧
      st = ⟨[(3, .box [.d (.sl 3 ys), .d (.sl 18 s1), .d (.sl 18 s2), .d (.sl 18 s3), .d (.sl 18 s4)]), (4, .box [.d (.sl 1 (q.map encI)), .d (.sl 18 t1), .d (.sl 18 t2), .d (.sl 18 t3), .d (.sl 18 t4)]), (6, .d (.int .i64 nx)), (9, .d (.int .i64 (s : Int))), (10, .d (.int .i64 (z : Int))), (12, .d (.int .i64 (i : Int))), (26, .d (.sl 3 xs)), (27, .d (.int .i64 m)), (28, .d (.int .i64 n))], [[.d (.sl 1 cs), .d (.int .i64 ca)]]⟩ ∧
      r = (.ext 2, ⟨[(3, .box [.d (.sl 3 ys), .d (.sl 18 s1), .d (.sl 18 s2), .d (.sl 18 s3), .d (.sl 18 s4)]), (4, .box [.d (.sl 1 (q.map encI)), .d (.sl 18 t1), .d (.sl 18 t2), .d (.sl 18 t3), .d (.sl 18 t4)]), (6, .d (.int .i64 nx)), (10, .d (.int .i64 (z : Int))), (26, .d (.sl 3 xs)), (27, .d (.int .i64 m)), (28, .d (.int .i64 n))], [[.d (.sl 1 cs), .d (.int .i64 ca)]]⟩) ∧ k = z - i) ?_ ?_
  · intro st r h
    unfold L_lcells_0 at h
    split at h
    · rename_i ys s1 s2 s3 s4 is t1 t2 t3 t4 nx s z i xs m n cs ca
      obtain ⟨q, hq, h0⟩ := Tr.opt_some h
      obtain rfl := unL_inv unI_ok hq
      rcases Tr.br_some h0 with ⟨h1, h2⟩ | ⟨_, h2⟩
      · simp only [Bool.and_eq_true, decide_eq_true_eq] at h1
        obtain ⟨⟨rfl, h3, h4, h5, h6⟩, h7⟩ := h1
        obtain ⟨s, rfl⟩ := Int.eq_ofNat_of_zero_le h3
        obtain ⟨z, rfl⟩ := Int.eq_ofNat_of_zero_le h4
        exact ⟨_, cs, xs, ys, s1, s2, s3, s4, t1, t2, t3, t4, q, ca, nx, m, n, s, z, 0, by omega, h5, h6, h7, rfl, (Tr.leaf_some h2).symm, rfl⟩
      · exact Tr.fail_some h2
    · exact Tr.fail_some h
  · rintro k st r ⟨cs, xs, ys, s1, s2, s3, s4, t1, t2, t3, t4, q, ca, nx, m, n, s, z, i, h1, h2, h3, h4, rfl, rfl, rfl⟩
    rw [body_lcells_0]
    by_cases hi : i < z
    · have w1 : IntKind.i64.wrap ((s : Int) + i) = ((s + i : Nat) : Int) := by rw [wrap_in] <;> omega
      have w2 : IntKind.i64.wrap ((i : Int) + 1) = ((i + 1 : Nat) : Int) := by rw [wrap_in] <;> omega
      have hz : q[s + i]? = some 0 := by
        have := List.all_eq_true.1 h4 i (List.mem_range.2 (by omega))
        simpa using this
      have ha : ((q.map encI)[(Int.toNat ((s + i : Nat) : Int))]?).bind (unInt .i64) = some 0 := by
        rw [List.getElem?_map, Int.toNat_natCast, hz]; rfl
      rw [w1, w2]
      exact ⟨.nrm, _, Tr.dec_yes (by omega) (Tr.dec_yes (by omega) (Tr.opt_to ha (Tr.run_no rfl))), .inr ⟨rfl, z - (i + 1), by omega, cs, xs, ys, s1, s2, s3, s4, t1, t2, t3, t4, q, ca, nx, m, n, s, z, i + 1, by omega, h2, h3, h4, rfl, rfl, rfl⟩⟩
    · exact ⟨.ext 2, _, Tr.dec_no (by omega) rfl, .inl ⟨by simp, rfl⟩⟩

theorem sum_lcells_1 : SumOK Tryd.prog gl (ann 4) L_lcells_1 (.loop l_lcells_1) := by
  refine SumOK.range (X := Xlc) (xok_Xlc 4) (by simp only [Sums, l_lcells_1, and_true, true_and]; exact sum_lcells_0) (by kernel_rfl) (lv := [3, 4, 6, 26, 27, 28]) (rt := [2]) (xs := [(0, [4, 6])]) (by decide) unVar_enc
    (σ := List DV × List DV × List DV × List DV × List DV × List DV × List DV × List DV × List DV × List Int × Int × Int)
    (fun ⟨cs, s1, s2, s3, s4, t1, t2, t3, t4, q, ca, nx⟩ l n => ⟨[(3, .box [.d (.sl 3 (l.map encVar)), .d (.sl 18 s1), .d (.sl 18 s2), .d (.sl 18 s3), .d (.sl 18 s4)]), (4, .box [.d (.sl 1 (q.map encI)), .d (.sl 18 t1), .d (.sl 18 t2), .d (.sl 18 t3), .d (.sl 18 t4)]), (6, .d (.int .i64 nx)), (26, .d (.sl 3 (l.map encVar))), (27, .d (.int .i64 (l.length : Int))), (28, .d (.int .i64 (n : Int)))], [[.d (.sl 1 cs), .d (.int .i64 ca)]]⟩)
    (fun ⟨cs, s1, s2, s3, s4, t1, t2, t3, t4, q, ca, nx⟩ l n => (l.length : Int) ≤ 100 ∧ (q.length : Int) ≤ 100 ∧ allV l q nx (l.drop n) = true)
    (fun ⟨cs, s1, s2, s3, s4, t1, t2, t3, t4, q, ca, nx⟩ l n r => (.ext 0, ⟨[(4, .box [.d (.sl 1 (q.map encI)), .d (.sl 18 t1), .d (.sl 18 t2), .d (.sl 18 t3), .d (.sl 18 t4)]), (6, .d (.int .i64 (endV nx r)))], [[.d (.sl 1 cs), .d (.int .i64 ca)]]⟩)) ?_ ?_ ?_
  · intro st r h
    unfold L_lcells_1 at h
    split at h
    · rename_i ys s1 s2 s3 s4 is t1 t2 t3 t4 nx xs m n cs ca
      obtain ⟨l, hl, h0⟩ := Tr.opt_some h
      obtain rfl := unL_inv unVar_ok hl
      obtain ⟨l2, hl2, h01⟩ := Tr.opt_some h0
      obtain rfl := unL_inv unVar_ok hl2
      obtain ⟨q, hq, h02⟩ := Tr.opt_some h01
      obtain rfl := unL_inv unI_ok hq
      rcases Tr.br_some h02 with ⟨h1, h2⟩ | ⟨_, h2⟩
      · simp only [Bool.and_eq_true, decide_eq_true_eq] at h1
        obtain ⟨⟨rfl, rfl, rfl, h3, h4, rfl⟩, h5⟩ := h1
        exact ⟨(cs, s1, s2, s3, s4, t1, t2, t3, t4, q, ca, 0), l, 0, rfl, by omega, ⟨h3, h4, h5⟩, (Tr.leaf_some h2).symm⟩
      · exact Tr.fail_some h2
    · exact Tr.fail_some h
  · rintro ⟨cs, s1, s2, s3, s4, t1, t2, t3, t4, q, ca, nx⟩ l n ⟨h1, h2, h3⟩ hn hb
    refine ⟨.ext 0, _, ?_, by simp, rfl⟩
    dsimp only
    rw [body_lcells_1]
    exact Tr.dec_no (by omega) rfl
  · rintro ⟨cs, s1, s2, s3, s4, t1, t2, t3, t4, q, ca, nx⟩ l n v ⟨h1, h2, h3⟩ hn hb hat
    rw [dropCons hb] at h3
    simp only [allV, Bool.and_eq_true] at h3
    obtain ⟨h3, h4⟩ := h3
    unfold stepV at h3
    split at h3
    · rename_i s z hs
      simp only [Bool.and_eq_true, decide_eq_true_eq] at h3
      obtain ⟨⟨rfl, rfl, h5, h6, h7⟩, h8, h9⟩ := h3
      have hu : unL unVar (l.map encVar) = some l := unL_map unVar_enc l
      have hq : unL unI (q.map encI) = some q := unL_map unI_enc q
      have w1 : IntKind.i64.wrap ((n : Int) + 1) = ((n + 1 : Nat) : Int) := by rw [wrap_in] <;> omega
      have w2 : IntKind.i64.wrap (s + (if v.size < 1 then 1 else v.size)) = s + max v.size 1 := by rw [maxI1, wrap_in] <;> omega
      have hg : (decide (True ∧ 0 ≤ s ∧ 0 ≤ v.size ∧ s + v.size ≤ q.length ∧ (q.length : Int) ≤ 100) && zeroAt q s v.size) = true := by
        rw [h9, Bool.and_true]; exact decide_eq_true ⟨trivial, h5, h6, by omega, h2⟩
      refine .inr ⟨(cs, s1, s2, s3, s4, t1, t2, t3, t4, q, ca, s + max v.size 1), ?_, ⟨h1, h2, h4⟩, rfl⟩
      dsimp only
      rw [body_lcells_1]
      simp only [w1]
      refine Tr.dec_yes (by omega) (Tr.dec_yes (by omega) (Tr.opt_to hat (Tr.opt_to hu (Tr.dec_yes (by unfold big; omega) ?_))))
      simp only [hs, lk, w2, List.length_map]
      refine (Tr.run_no rfl).trans ((Tr.run_no (by simp)).trans ((Tr.run_no (by simp)).trans (Tr.dec_no (by omega) ?_)))
      by_cases h10 : v.size = 0
      · refine Tr.dec_yes h10 (Tr.dec_yes h5 ?_)
        have hi : q[s.toNat]? = some v.init := h8.resolve_left (by omega)
        have ha : ((q.map encI)[s.toNat]?).bind (unInt .i64) = some v.init := by rw [List.getElem?_map, hi]; rfl
        exact Tr.opt_to ha ((Tr.run_no (by simp)).trans (Tr.opt_to hq ((Tr.run_yes hg).trans rfl)))
      · exact Tr.dec_no h10 (Tr.opt_to hq ((Tr.run_yes hg).trans rfl))
    · cases h3

theorem ok_lcellsR : FnOK Tryd.prog gl 4 (fun ar H => fnT Xlc c_lcells Tryd.f4.results.toList ar H) :=
  fn_of (X := Xlc) (xok_Xlc 4) Tryd.func4 c_lcells_eq (by kernel_rfl) (by
    simp only [Sums, c_lcells, and_true, true_and]
    exact sum_lcells_1) fun _ _ _ h => h
end Go.AI.RD

/- ResolveCells: the law's run is true. -/
namespace Go.AI.RD
open Go Go.Proofs
set_option maxRecDepth 10000
set_option linter.unusedVariables false
set_option linter.unusedSimpArgs false

theorem resL_fit {f : Xp → Mk → Xp × Mk} {P : Xp → Bool} : ∀ (l : List Xp) (m : Mk), (∀ x ∈ l, ∀ m, P (f x m).1 = true) → (resL f l m).1.all P = true ∧ (resL f l m).1.length = l.length
  | [], m, _ => ⟨rfl, rfl⟩
  | x :: l, m, h => by
    have h1 := h x (List.mem_cons_self ..) m
    have h2 := resL_fit l (f x m).2 (fun y hy => h y (List.mem_cons_of_mem _ hy))
    show (P (f x m).1 && (resL f l (f x m).2).1.all P) = true ∧ (resL f l (f x m).2).1.length + 1 = l.length + 1
    rw [h1, h2.1, h2.2]
    exact ⟨rfl, rfl⟩
theorem headR_same (ks : List DV) (ps : List Plc) (e : Xp) (m : Mk) : (headR ks ps e m).1.name = e.name := by unfold headR; split <;> rfl
theorem resX_fit {ks : List DV} {ps : List Plc} : ∀ (n : Nat) (e : Xp) (m : Mk), fitX n e = true → fitX n (resX ks ps n e m).1 = true
  | 0, _, _, h => by simp [fitX] at h
  | n + 1, e, m, h => by
    simp only [fitX] at h
    split at h
    · rename_i l hl
      simp only [Bool.and_eq_true, decide_eq_true_eq] at h
      obtain ⟨⟨h1, h2⟩, h3⟩ := h
      have hu : ∀ q : List Xp, unL unXp (q.map encXp) = some q := unL_map (un := unXp) (enc := encXp) unXp_enc
      have q := resL_fit (f := resX ks ps n) (P := fitX n) l (headR ks ps e m).2 (fun x hx m => resX_fit n x m (List.all_eq_true.1 h3 x hx))
      simp only [resX, hl, fitX, hu, q.1, q.2, headR_same, Bool.and_true]
      exact decide_eq_true ⟨h1, h2⟩
    · cases h
theorem resQ_fit {f : St → Mk → St × Mk} {P : St → Bool} : ∀ (l : List St) (m : Mk), (∀ x ∈ l, ∀ m, P (f x m).1 = true) → (resQ f l m).1.all P = true ∧ (resQ f l m).1.length = l.length
  | [], m, _ => ⟨rfl, rfl⟩
  | x :: l, m, h => by
    have h1 := h x (List.mem_cons_self ..) m
    have h2 := resQ_fit l (f x m).2 (fun y hy => h y (List.mem_cons_of_mem _ hy))
    show (P (f x m).1 && (resQ f l (f x m).2).1.all P) = true ∧ (resQ f l (f x m).2).1.length + 1 = l.length + 1
    rw [h1, h2.1, h2.2]
    exact ⟨rfl, rfl⟩
theorem resS_fit {ks : List DV} {ps : List Plc} : ∀ (n : Nat) (ss : List DV) (m : Mk), fitS n ss = true → fitS n ((resS ks ps n ss m).1.map encSt) = true
  | 0, _, _, h => by simp [fitS] at h
  | n + 1, ss, m, h => by
    simp only [fitS] at h
    split at h
    · rename_i l hl
      simp only [Bool.and_eq_true, decide_eq_true_eq] at h
      obtain ⟨h1, h3⟩ := h
      have hu : ∀ q : List St, unL unSt (q.map encSt) = some q := unL_map (un := unSt) (enc := encSt) unSt_enc
      have q := resQ_fit (f := res1 ks ps (resS ks ps n)) (P := fit1 n) l m (fun x hx m => by
        have := List.all_eq_true.1 h3 x hx
        simp only [Bool.and_eq_true, decide_eq_true_eq] at this
        obtain ⟨f1, f2, f3, f4, f5⟩ := this
        simp only [fit1, res1, resX_fit 9 _ _ f1, resX_fit 9 _ _ f2, resS_fit n _ _ f3, resS_fit n _ _ f4, Bool.true_and]
        exact decide_eq_true f5)
      simp only [resS, hl, fitS, hu, q.2]
      rw [Bool.and_eq_true]
      exact ⟨decide_eq_true h1, q.1⟩
    · cases h

theorem vars5_ini {a b c : Int} {B : Nat} (hb : b = (B : Int)) : ini (vars5 a b c) = ([a] ++ (List.replicate (B + 1) 0 ++ ([0] ++ ([c] ++ [0, 0])))).map encI := by
  subst hb
  simp only [ini, vars5, List.flatMap_cons, List.flatMap_nil, iniOf, List.map_append, List.map_replicate]
  have h2 : (max (1 + (B : Int)) 1).toNat - 1 = B := by omega
  rw [h2, List.replicate_succ]
  rfl

theorem vars5_all {a b c : Int} (h0 : 0 ≤ b) (h1 : b ≤ 4) : ∃ q : List Int, ini (vars5 a b c) = q.map encI ∧ q.length = 6 + b.toNat ∧ allV (vars5 a b c) q 0 (vars5 a b c) = true ∧ endV 0 (vars5 a b c) = 6 + b := by
  obtain ⟨B, rfl⟩ := Int.eq_ofNat_of_zero_le h0
  refine ⟨_, vars5_ini rfl, by simp; omega, ?_, by simp only [endV, vars5]; omega⟩
  have hB : B = 0 ∨ B = 1 ∨ B = 2 ∨ B = 3 ∨ B = 4 := by omega
  have l1 := look_x (a := a) (c := c) h0 h1
  have l2 := look_a (a := a) (c := c) h0 h1
  have l3 := look_y (a := a) (c := c) h0 h1
  have l4 := look_z (a := a) (c := c) h0 h1
  have l5 := look_b (a := a) (c := c) h0 h1
  show (stepV (vars5 a B c) _ 0 ⟨[120], 0, a⟩ && (stepV (vars5 a B c) _ _ ⟨[97], 1 + (B : Int), 0⟩ && (stepV (vars5 a B c) _ _ ⟨[121], 0, 0⟩ && (stepV (vars5 a B c) _ _ ⟨[122], 0, c⟩ && (stepV (vars5 a B c) _ _ ⟨[98], 2, 0⟩ && true))))) = true
  simp only [stepV, l1, l2, l3, l4, l5]
  rcases hB with rfl | rfl | rfl | rfl | rfl <;> simp [zeroAt, List.range_succ, List.replicate_succ] <;> omega

theorem lcells_run (s : List UInt8) : ∃ H, (fnT Xlc c_lcells Tryd.f4.results.toList [.d (.sl 1 (s.map encU8))] []).run = some (.d (.bool true), H) := by
  rw [tree_lcells]
  have hu : ∀ q : List UInt8, unL unU8 (q.map encU8) = some q := unL_map unU8_enc
  have hv : ∀ q : List Var, unL unVar (q.map encVar) = some q := unL_map unVar_enc
  have hi : ∀ q : List Int, unL unI (q.map encI) = some q := unL_map unI_enc
  generalize hr : (s.take (200 : Int).toNat).drop (0 : Int).toNat = r
  obtain ⟨a, b, c, w1, w2, w3, w4, h1, h2, h3, h4, h5, h6, hv5, hres, e1, e2, e3, e4, t1, t2, t3, t4⟩ := drawP_res r
  obtain ⟨hf, hc⟩ := drawP_check r
  obtain ⟨q, hq, hql, hall, hend⟩ := vars5_all (a := a) (c := c) h3 h4
  have hlen : (vars5 a b c).length = 5 := rfl
  have hok : resOK (vars5 a b c) ((drawP r).1.start.map encSt) ((drawP r).1.message.map encSt) ((drawP r).1.tick.map encSt) ((drawP r).1.input.map encSt) = true := by
    have := resP_form (vars5 a b c) ((drawP r).1.start.map encSt) ((drawP r).1.message.map encSt) ((drawP r).1.tick.map encSt) ((drawP r).1.input.map encSt)
    rw [← hv5, hres] at this
    rw [← hv5]
    cases hb : resOK (drawP r).1.vars ((drawP r).1.start.map encSt) ((drawP r).1.message.map encSt) ((drawP r).1.tick.map encSt) ((drawP r).1.input.map encSt) with
    | true => rfl
    | false =>
      rw [hb] at this
      simp only [cond_false, ans1, ans0, AV.tup.injEq, List.cons.injEq, AV.agg.injEq, AV.d.injEq, DV.sl.injEq, true_and, and_true] at this
      exact absurd (congrArg List.length this.1.1) (by simp [hq, hql])
  have hans : ans1 (ini (vars5 a b c)) (res1L (vars5 a b c) ((drawP r).1.start.map encSt)).1 (res2L (vars5 a b c) ((drawP r).1.start.map encSt) ((drawP r).1.message.map encSt)).1 (res3L (vars5 a b c) ((drawP r).1.start.map encSt) ((drawP r).1.message.map encSt) ((drawP r).1.tick.map encSt)).1 (res4L (vars5 a b c) ((drawP r).1.start.map encSt) ((drawP r).1.message.map encSt) ((drawP r).1.tick.map encSt) ((drawP r).1.input.map encSt)).1 = ans1 (ini (vars5 a b c)) w1 w2 w3 w4 := by
    have := resP_form (vars5 a b c) ((drawP r).1.start.map encSt) ((drawP r).1.message.map encSt) ((drawP r).1.tick.map encSt) ((drawP r).1.input.map encSt)
    rw [hok, cond_true, ← hv5, hres, hv5] at this
    exact this.symm
  simp only [ans1, AV.tup.injEq, List.cons.injEq, AV.agg.injEq, AV.d.injEq, DV.sl.injEq, true_and, and_true] at hans
  obtain ⟨g1, g2, g3, g4⟩ := hans
  simp only [fitP, Bool.and_eq_true] at hf
  obtain ⟨f1, f2, f3, f4⟩ := hf
  have k1 : fitS 9 (w1.map encSt) = true := by rw [e1]; exact resS_fit 9 _ _ f1
  have k2 : fitS 9 (w2.map encSt) = true := by rw [e2]; exact resS_fit 9 _ _ f2
  have k3 : fitS 9 (w3.map encSt) = true := by rw [e3]; exact resS_fit 9 _ _ f3
  have k4 : fitS 9 (w4.map encSt) = true := by rw [e4]; exact resS_fit 9 _ _ f4
  have hqi : unL unI (ini (vars5 a b c)) = some q := by rw [hq]; exact hi q
  have hil : (ini (vars5 a b c)).length = 6 + b.toNat := by rw [hq, List.length_map, hql]
  refine ⟨[[.d (.sl 1 ((s.take (200 : Int).toNat).map encU8)), .d (.int .i64 (atOf (s.take (200 : Int).toNat) (drawP r).2))]], (Tr.run_no rfl).trans (Tr.opt_to (hu s) (Tr.dec_yes (by decide) (Tr.opt_to (hu _) (Tr.dec_yes ⟨by omega, by omega, by simp; omega⟩ ?_))))⟩
  rw [hr]
  simp only [hv5]
  refine Tr.opt_to (hv _) ((Tr.run_yes ?_).trans ((Tr.run_yes hok).trans ((Tr.run_no rfl).trans (Tr.opt_to (hv _) (Tr.opt_to (hv _) (Tr.opt_to hqi ((Tr.run_yes ?_).trans (Tr.dec_yes ?_ ?_))))))))
  · simp only [fitP, f1, f2, f3, f4, Bool.and_true]
    simp [short, vars5, big]
  · rw [hall, Bool.and_true]
    refine decide_eq_true ⟨rfl, by simp, trivial, by simp [vars5], by omega, trivial⟩
  · rw [hend, hil]; omega
  · simp only [g1, g2, g3, g4, hend]
    exact (Tr.run_yes k1).trans ((Tr.run_yes t1).trans ((Tr.run_yes k2).trans ((Tr.run_yes t2).trans ((Tr.run_yes k3).trans ((Tr.run_yes t3).trans ((Tr.run_yes k4).trans (by rw [t4]; rfl)))))))
end Go.AI.RD
