/- The laws of the printed tokens: their trees. -/
import Derived.Test.YtkkmdjkahdglhaaDoorTdE
import Derived.Test.YtkkmdjkahdglhaaDoorTdP
import Derived.Test.YtkkmdjkahdglhaaDoorAxPoke
namespace Go.AI.TD
open Go Go.Proofs
set_option maxRecDepth 100000
set_option linter.unusedVariables false
set_option linter.unusedSimpArgs false

instance decChain (s : List UInt8) : ∀ (i : Int) (l : List Tok), Decidable (Chain s i l)
  | _, [] => isTrue trivial
  | i, t :: r => by
    unfold Chain
    have := decChain s (t.pos + (prT t).length) r
    infer_instance
def offPre (s : List UInt8) (l : List Tok) (i len n : Int) : Prop := (s.length : Int) ≤ 4096 ∧ (l.length : Int) ≤ 4096 ∧ len = l.length ∧ 0 ≤ n ∧ n ≤ l.length ∧ 0 ≤ i ∧ i ≤ s.length ∧ Chain s i (l.drop n.toNat)
instance (s : List UInt8) (l : List Tok) (i len n : Int) : Decidable (offPre s l i len n) := by unfold offPre; infer_instance

noncomputable abbrev Xbk : TX := ⟨Tryd.prog, tbl [(8, awakeT), (11, scanT), (9, printT), (12, rsameT)], iso, gl, vw⟩

theorem xok_Xbk (f : Nat) : XOK Xbk (ann f) gl := XOK.of base (l := [(8, awakeT), (11, scanT), (9, printT), (12, rsameT)]) ⟨ok_awake, ok_scan, ok_print, ok_rsame, trivial⟩ f

/-- rollbacknet/rollbacknetlaw01.TokenBack -/
def c_lback : CC := .seq (.region [
    ⟨.yes, (some 2), .assign (.const (.bool false)), false, false, []⟩] [0]) <|
  .seq (.seq (.region [
    ⟨.yes, (some 9), .call ⟨.value (.func 8), #[], #[]⟩, false, false, []⟩,
    ⟨.yes, (some 10), .unOp .not 4 (.tmp 9), false, false, []⟩] [0, 10]) <|
  .cond (.tmp 10)
    (.seq (.region [
      ⟨.yes, (some 2), .assign (.const (.bool false)), false, false, []⟩] [2]) <|
    .ret)
    (.skip)) <|
  .seq (.region [
    ⟨.yes, (some 12), .move (.tmp 0), true, false, []⟩,
    ⟨.yes, (some 13), .call ⟨.value (.func 11), #[(.tmp 12)], #[9]⟩, false, false, []⟩,
    ⟨.yes, (some 11), .move (.tmp 13), true, false, []⟩,
    ⟨.yes, (some 14), .extract (.tmp 11) 0, false, false, [(some 4)]⟩,
    ⟨.yes, (some 15), .extract (.tmp 11) 1, false, false, []⟩,
    ⟨.yes, (some 16), .extract (.tmp 11) 2, false, false, []⟩,
    ⟨.yes, (some 3), .assign (.tmp 14), true, false, [(some 4)]⟩,
    ⟨.yes, (some 4), .assign (.tmp 15), true, false, []⟩,
    ⟨.yes, (some 5), .assign (.tmp 16), true, false, []⟩] [3, 5]) <|
  .seq (.seq (.region [
    ⟨.yes, (some 17), .move (.tmp 5), false, false, []⟩,
    ⟨.yes, (some 18), .binOp .neq 26 (.tmp 17) (.const (.int .i64 (0))) 26, false, false, []⟩,
    ⟨.yes, (some 19), .move (.tmp 18), true, false, []⟩,
    ⟨(.on 19 false), (some 20), .move (.tmp 3), false, false, [(some 4)]⟩,
    ⟨(.on 19 false), (some 21), .call ⟨.value (.func 9), #[(.tmp 20)], #[22]⟩, false, false, []⟩,
    ⟨(.on 19 false), (some 22), .call ⟨.builtin .len, #[(.tmp 21)], #[9]⟩, false, false, []⟩,
    ⟨(.on 19 false), (some 23), .binOp .gtr 3 (.tmp 22) (.const (.int .i64 (4096))) 3, false, false, []⟩,
    ⟨.yes, (some 24), .pick (.tmp 19) (.const (.bool true)) (.tmp 23), false, false, []⟩] [3, 5, 24]) <|
  .cond (.tmp 24)
    (.seq (.region [
      ⟨.yes, (some 25), .move (.tmp 3), true, false, [(some 4)]⟩,
      ⟨.yes, (some 26), .call ⟨.builtin .len, #[(.tmp 25)], #[22]⟩, false, false, []⟩,
      ⟨.yes, (some 27), .binOp .eql 3 (.tmp 26) (.const (.int .i64 (0))) 3, false, false, []⟩,
      ⟨.yes, (some 28), .move (.tmp 27), true, false, []⟩,
      ⟨(.on 28 false), (some 29), .move (.tmp 5), true, false, []⟩,
      ⟨(.on 28 false), (some 30), .binOp .eql 26 (.tmp 29) (.const (.int .i64 (0))) 26, false, false, []⟩,
      ⟨.yes, (some 31), .pick (.tmp 28) (.const (.bool true)) (.tmp 30), false, false, []⟩,
      ⟨.yes, (some 2), .assign (.tmp 31), true, false, []⟩] [2]) <|
    .ret)
    (.skip)) <|
  .seq (.region [
    ⟨.yes, (some 33), .move (.tmp 3), false, false, [(some 4)]⟩,
    ⟨.yes, (some 34), .call ⟨.value (.func 9), #[(.tmp 33)], #[22]⟩, false, false, []⟩,
    ⟨.yes, (some 35), .call ⟨.value (.func 11), #[(.tmp 34)], #[9]⟩, false, false, []⟩,
    ⟨.yes, (some 32), .move (.tmp 35), true, false, []⟩,
    ⟨.yes, (some 36), .extract (.tmp 32) 0, false, false, [(some 4)]⟩,
    ⟨.yes, (some 37), .extract (.tmp 32) 1, false, false, []⟩,
    ⟨.yes, (some 38), .extract (.tmp 32) 2, false, false, []⟩,
    ⟨.yes, (some 6), .assign (.tmp 36), true, false, [(some 4)]⟩,
    ⟨.yes, (some 7), .assign (.tmp 37), true, false, []⟩,
    ⟨.yes, (some 8), .assign (.tmp 38), true, false, []⟩] [3, 6, 8]) <|
  .seq (.region [
    ⟨.yes, (some 39), .move (.tmp 8), true, false, []⟩,
    ⟨.yes, (some 40), .binOp .eql 26 (.tmp 39) (.const (.int .i64 (0))) 26, false, false, []⟩,
    ⟨.yes, (some 41), .move (.tmp 40), true, false, []⟩,
    ⟨(.on 41 true), (some 42), .move (.tmp 3), true, false, [(some 4)]⟩,
    ⟨(.on 41 true), (some 43), .move (.tmp 6), true, false, [(some 4)]⟩,
    ⟨(.on 41 true), (some 44), .call ⟨.value (.func 12), #[(.tmp 42), (.tmp 43)], #[22, 22]⟩, false, false, []⟩,
    ⟨.yes, (some 45), .pick (.tmp 41) (.tmp 44) (.const (.bool false)), false, false, []⟩,
    ⟨.yes, (some 2), .assign (.tmp 45), true, false, []⟩] [2]) <|
  .ret

theorem c_lback_eq : ∃ c, Tryd.f4.body = some c ∧ codeOK Tryd.f4.ntmps c = true ∧ comp Tryd.prog (ann 4) c = erase c_lback := ⟨_, rfl, by kernel_rfl, by kernel_rfl⟩

theorem tree_lback (s : List UInt8) : fnT Xbk c_lback Tryd.f4.results.toList [.d (.str s)] [] = (
    .br false
 (.leaf (.d (.bool false), []))
 (.br (!decide (((scan s).2.2) = 0))
 (.br (decide ((((scan s).1.map encTok).length : Int) = 0))
 (.leaf (.d (.bool true), []))
 (.leaf (.d (.bool (decide (((scan s).2.2) = 0))), [])))
 (.opt (unL unTok ((scan s).1.map encTok)) fun l1 => .br (decide ((l1.length : Int) ≤ 100000 ∧ ((prS l1).length : Int) ≤ 70368744177664) && l1.all inR)
 (.br (decide ((4096 : Int) < ((prS l1).length : Int)))
 (.br (decide ((((scan s).1.map encTok).length : Int) = 0))
 (.leaf (.d (.bool true), []))
 (.leaf (.d (.bool (decide (((scan s).2.2) = 0))), [])))
 (.opt (unL unTok ((scan s).1.map encTok)) fun l2 => .br (decide ((l2.length : Int) ≤ 100000 ∧ ((prS l2).length : Int) ≤ 70368744177664) && l2.all inR)
 (.br (decide (((scan (prS l2)).2.2) = 0))
 (.opt (unToks ((scan s).1.map encTok)) fun a3 => .opt (unToks ((scan (prS l2)).1.map encTok)) fun b4 => .br (decide ((a3.length : Int) ≤ big))
 (.leaf (.d (.bool (sameToks a3 b4)), []))
 (.fail))
 (.leaf (.d (.bool false), [])))
 (.fail)))
 (.fail))) : Tr (AV × Hp)) := by kernel_rfl

noncomputable abbrev Xof : TX := ⟨Tryd.prog, tbl [(8, awakeT), (11, scanT), (9, printT)], iso, gl, vw⟩

theorem xok_Xof (f : Nat) : XOK Xof (ann f) gl := XOK.of base (l := [(8, awakeT), (11, scanT), (9, printT)]) ⟨ok_awake, ok_scan, ok_print, trivial⟩ f

def L_loffsets_0 : ST → Tr (Ex × ST)
  | ⟨[(0, .d (.str s)), (3, .d (.sl 4 xs)), (6, .d (.int .i64 i)), (33, .d (.int .i64 len)), (34, .d (.int .i64 n))], []⟩ => .opt (unToks xs) fun l => .br (decide (offPre s l i len n)) (.leaf ((.ext 0), ⟨[], []⟩)) .fail
  | _ => .fail

def l_loffsets_0 : CC := .seq (.region [
    ⟨.yes, (some 35), .binOp .lss 3 (.tmp 34) (.tmp 33) 3, false, false, []⟩] [0, 3, 6, 33, 34, 35]) <|
  .seq (.cond (.tmp 35)
    (.skip)
    (.exit 0)) <|
  .seq (.block 1 <| .seq (.region [
    ⟨.yes, (some 36), .move (.tmp 34), false, false, []⟩,
    ⟨.yes, (some 7), .assign (.tmp 36), true, false, []⟩] [0, 3, 6, 7, 33, 34]) <|
  .seq (.region [
    ⟨.yes, (some 37), .move (.tmp 3), false, false, [(some 4)]⟩,
    ⟨.yes, (some 38), .move (.tmp 7), false, false, []⟩,
    ⟨.yes, (some 39), .move (.tmp 7), false, false, []⟩,
    ⟨.yes, (some 40), .binOp .add 3 (.tmp 39) (.const (.int .i64 (1))) 3, false, false, []⟩,
    ⟨.yes, (some 41), .slice 22 (.tmp 37) (some (.tmp 38)) (some (.tmp 40)) none, false, false, [(some 4)]⟩,
    ⟨.yes, (some 42), .call ⟨.value (.func 9), #[(.tmp 41)], #[22]⟩, false, false, []⟩,
    ⟨.yes, (some 8), .assign (.tmp 42), true, false, []⟩] [0, 3, 6, 7, 8, 33, 34]) <|
  .seq (.seq (.drawn ⟨[5, 7, 20, 25], [], [0, 3, 7, 8, 33, 34, 86]⟩ [
    ⟨(some 43), .move (.tmp 3), 22, "law.go:90", #[], none⟩,
    ⟨(some 44), .move (.tmp 7), 3, "law.go:90", #[], none⟩,
    ⟨(some 45), .indexAddr 22 (.tmp 43) (.tmp 44), 0, "law.go:90", #[⟨0, .data⟩, ⟨1, .data⟩], none⟩,
    ⟨(some 46), .fieldAddr 38 (.tmp 45) 3, 0, "law.go:90", #[⟨2, .data⟩], none⟩,
    ⟨(some 47), .load 3 (.tmp 46), 3, "law.go:90", #[⟨3, .data⟩], none⟩,
    ⟨(some 48), .move (.tmp 6), 3, "law.go:90", #[], none⟩,
    ⟨(some 49), .binOp .lss 3 (.tmp 47) (.tmp 48) 3, 4, "law.go:90", #[⟨4, .data⟩, ⟨5, .data⟩], none⟩,
    ⟨(some 50), .move (.tmp 49), 4, "law.go:90", #[⟨6, .data⟩], none⟩,
    ⟨(some 51), .move (.tmp 3), 22, "law.go:90", #[⟨7, .guard⟩], (some (7, false))⟩,
    ⟨(some 52), .move (.tmp 7), 3, "law.go:90", #[⟨7, .guard⟩], (some (7, false))⟩,
    ⟨(some 53), .indexAddr 22 (.tmp 51) (.tmp 52), 0, "law.go:90", #[⟨8, .data⟩, ⟨9, .data⟩, ⟨7, .guard⟩], (some (7, false))⟩,
    ⟨(some 54), .fieldAddr 38 (.tmp 53) 3, 0, "law.go:90", #[⟨10, .data⟩, ⟨7, .guard⟩], (some (7, false))⟩,
    ⟨(some 55), .load 3 (.tmp 54), 3, "law.go:90", #[⟨11, .data⟩, ⟨7, .guard⟩], (some (7, false))⟩,
    ⟨(some 56), .move (.tmp 8), 9, "law.go:90", #[⟨7, .guard⟩], (some (7, false))⟩,
    ⟨(some 57), .call ⟨.builtin .len, #[(.tmp 56)], #[9]⟩, 3, "law.go:90", #[⟨13, .data⟩, ⟨7, .guard⟩], (some (7, false))⟩,
    ⟨(some 58), .binOp .add 3 (.tmp 55) (.tmp 57) 3, 3, "law.go:90", #[⟨12, .data⟩, ⟨14, .data⟩, ⟨7, .guard⟩], (some (7, false))⟩,
    ⟨(some 59), .move (.tmp 0), 9, "law.go:90", #[⟨7, .guard⟩], (some (7, false))⟩,
    ⟨(some 60), .call ⟨.builtin .len, #[(.tmp 59)], #[9]⟩, 3, "law.go:90", #[⟨16, .data⟩, ⟨7, .guard⟩], (some (7, false))⟩,
    ⟨(some 61), .binOp .gtr 3 (.tmp 58) (.tmp 60) 3, 4, "law.go:90", #[⟨15, .data⟩, ⟨17, .data⟩, ⟨7, .guard⟩], (some (7, false))⟩,
    ⟨(some 62), .pick (.tmp 50) (.const (.bool true)) (.tmp 61), 4, "law.go:90", #[⟨7, .data⟩, ⟨18, .data⟩], none⟩,
    ⟨(some 63), .move (.tmp 62), 4, "law.go:90", #[⟨19, .data⟩, ⟨7, .chain⟩], none⟩,
    ⟨(some 64), .move (.tmp 8), 9, "law.go:90", #[⟨20, .guard⟩], (some (20, false))⟩,
    ⟨(some 65), .call ⟨.builtin .len, #[(.tmp 64)], #[9]⟩, 3, "law.go:90", #[⟨21, .data⟩, ⟨20, .guard⟩], (some (20, false))⟩,
    ⟨(some 66), .binOp .eql 3 (.tmp 65) (.const (.int .i64 (0))) 3, 4, "law.go:90", #[⟨22, .data⟩, ⟨20, .guard⟩], (some (20, false))⟩,
    ⟨(some 67), .pick (.tmp 63) (.const (.bool true)) (.tmp 66), 4, "law.go:90", #[⟨20, .data⟩, ⟨23, .data⟩], none⟩,
    ⟨(some 68), .move (.tmp 67), 4, "law.go:90", #[⟨24, .data⟩, ⟨20, .chain⟩], none⟩,
    ⟨(some 69), .move (.tmp 0), 9, "law.go:90", #[⟨25, .guard⟩], (some (25, false))⟩,
    ⟨(some 70), .move (.tmp 3), 22, "law.go:90", #[⟨25, .guard⟩], (some (25, false))⟩,
    ⟨(some 71), .move (.tmp 7), 3, "law.go:90", #[⟨25, .guard⟩], (some (25, false))⟩,
    ⟨(some 72), .indexAddr 22 (.tmp 70) (.tmp 71), 0, "law.go:90", #[⟨27, .data⟩, ⟨28, .data⟩, ⟨25, .guard⟩], (some (25, false))⟩,
    ⟨(some 73), .fieldAddr 38 (.tmp 72) 3, 0, "law.go:90", #[⟨29, .data⟩, ⟨25, .guard⟩], (some (25, false))⟩,
    ⟨(some 74), .load 3 (.tmp 73), 3, "law.go:90", #[⟨30, .data⟩, ⟨25, .guard⟩], (some (25, false))⟩,
    ⟨(some 75), .move (.tmp 3), 22, "law.go:90", #[⟨25, .guard⟩], (some (25, false))⟩,
    ⟨(some 76), .move (.tmp 7), 3, "law.go:90", #[⟨25, .guard⟩], (some (25, false))⟩,
    ⟨(some 77), .indexAddr 22 (.tmp 75) (.tmp 76), 0, "law.go:90", #[⟨32, .data⟩, ⟨33, .data⟩, ⟨25, .guard⟩], (some (25, false))⟩,
    ⟨(some 78), .fieldAddr 38 (.tmp 77) 3, 0, "law.go:90", #[⟨34, .data⟩, ⟨25, .guard⟩], (some (25, false))⟩,
    ⟨(some 79), .load 3 (.tmp 78), 3, "law.go:90", #[⟨35, .data⟩, ⟨25, .guard⟩], (some (25, false))⟩,
    ⟨(some 80), .move (.tmp 8), 9, "law.go:90", #[⟨25, .guard⟩], (some (25, false))⟩,
    ⟨(some 81), .call ⟨.builtin .len, #[(.tmp 80)], #[9]⟩, 3, "law.go:90", #[⟨37, .data⟩, ⟨25, .guard⟩], (some (25, false))⟩,
    ⟨(some 82), .binOp .add 3 (.tmp 79) (.tmp 81) 3, 3, "law.go:90", #[⟨36, .data⟩, ⟨38, .data⟩, ⟨25, .guard⟩], (some (25, false))⟩,
    ⟨(some 83), .slice 9 (.tmp 69) (some (.tmp 74)) (some (.tmp 82)) none, 9, "law.go:90", #[⟨26, .data⟩, ⟨31, .data⟩, ⟨39, .data⟩, ⟨25, .guard⟩], (some (25, false))⟩,
    ⟨(some 84), .move (.tmp 8), 9, "law.go:90", #[⟨25, .guard⟩], (some (25, false))⟩,
    ⟨(some 85), .binOp .neq 9 (.tmp 83) (.tmp 84) 9, 4, "law.go:90", #[⟨40, .data⟩, ⟨41, .data⟩, ⟨25, .guard⟩], (some (25, false))⟩,
    ⟨(some 86), .pick (.tmp 68) (.const (.bool true)) (.tmp 85), 4, "law.go:90", #[⟨25, .data⟩, ⟨42, .data⟩], none⟩]) <|
  .cond (.tmp 86)
    (.seq (.region [
      ⟨.yes, (some 2), .assign (.const (.bool false)), false, false, []⟩] [2]) <|
    .ret)
    (.skip)) <|
  .region [
    ⟨.yes, (some 87), .move (.tmp 3), false, false, [(some 4)]⟩,
    ⟨.yes, (some 88), .move (.tmp 7), true, false, []⟩,
    ⟨.yes, (some 89), .indexAddr 22 (.tmp 87) (.tmp 88), false, false, []⟩,
    ⟨.yes, (some 90), .fieldAddr 38 (.tmp 89) 3, false, false, []⟩,
    ⟨.yes, (some 91), .load 3 (.tmp 90), false, false, []⟩,
    ⟨.yes, (some 92), .move (.tmp 8), true, false, []⟩,
    ⟨.yes, (some 93), .call ⟨.builtin .len, #[(.tmp 92)], #[9]⟩, false, false, []⟩,
    ⟨.yes, (some 94), .binOp .add 3 (.tmp 91) (.tmp 93) 3, false, false, []⟩,
    ⟨.yes, (some 6), .assign (.tmp 94), true, false, []⟩] [0, 3, 6, 33, 34]) <|
  .region [
    ⟨.yes, (some 95), .binOp .add 3 (.tmp 34) (.const (.int .i64 (1))) 3, false, false, []⟩,
    ⟨.yes, (some 34), .move (.tmp 95), true, false, []⟩] [0, 3, 6, 33, 34]

/-- rollbacknet/rollbacknetlaw01.TokenOffsets -/
def c_loffsets : CC := .seq (.region [
    ⟨.yes, (some 2), .assign (.const (.bool false)), false, false, []⟩] [0]) <|
  .seq (.seq (.region [
    ⟨.yes, (some 9), .call ⟨.value (.func 8), #[], #[]⟩, false, false, []⟩,
    ⟨.yes, (some 10), .unOp .not 4 (.tmp 9), false, false, []⟩] [0, 10]) <|
  .cond (.tmp 10)
    (.seq (.region [
      ⟨.yes, (some 2), .assign (.const (.bool false)), false, false, []⟩] [2]) <|
    .ret)
    (.skip)) <|
  .seq (.region [
    ⟨.yes, (some 12), .move (.tmp 0), false, false, []⟩,
    ⟨.yes, (some 13), .call ⟨.value (.func 11), #[(.tmp 12)], #[9]⟩, false, false, []⟩,
    ⟨.yes, (some 11), .move (.tmp 13), true, false, []⟩,
    ⟨.yes, (some 14), .extract (.tmp 11) 0, false, false, [(some 4)]⟩,
    ⟨.yes, (some 15), .extract (.tmp 11) 1, false, false, []⟩,
    ⟨.yes, (some 16), .extract (.tmp 11) 2, false, false, []⟩,
    ⟨.yes, (some 3), .assign (.tmp 14), true, false, [(some 4)]⟩,
    ⟨.yes, (some 4), .assign (.tmp 15), true, false, []⟩,
    ⟨.yes, (some 5), .assign (.tmp 16), true, false, []⟩] [0, 3, 4, 5]) <|
  .seq (.seq (.region [
    ⟨.yes, (some 17), .move (.tmp 5), true, false, []⟩,
    ⟨.yes, (some 18), .binOp .neq 26 (.tmp 17) (.const (.int .i64 (0))) 26, false, false, []⟩] [0, 3, 4, 18]) <|
  .cond (.tmp 18)
    (.seq (.region [
      ⟨.yes, (some 19), .move (.tmp 3), true, false, [(some 4)]⟩,
      ⟨.yes, (some 20), .call ⟨.builtin .len, #[(.tmp 19)], #[22]⟩, false, false, []⟩,
      ⟨.yes, (some 21), .binOp .eql 3 (.tmp 20) (.const (.int .i64 (0))) 3, false, false, []⟩,
      ⟨.yes, (some 22), .move (.tmp 21), true, false, []⟩,
      ⟨(.on 22 true), (some 23), .move (.tmp 4), false, false, []⟩,
      ⟨(.on 22 true), (some 24), .binOp .geq 3 (.tmp 23) (.const (.int .i64 (0))) 3, false, false, []⟩,
      ⟨.yes, (some 25), .pick (.tmp 22) (.tmp 24) (.const (.bool false)), false, false, []⟩,
      ⟨.yes, (some 26), .move (.tmp 25), true, false, []⟩,
      ⟨(.on 26 true), (some 27), .move (.tmp 4), true, false, []⟩,
      ⟨(.on 26 true), (some 28), .move (.tmp 0), true, false, []⟩,
      ⟨(.on 26 true), (some 29), .call ⟨.builtin .len, #[(.tmp 28)], #[9]⟩, false, false, []⟩,
      ⟨(.on 26 true), (some 30), .binOp .leq 3 (.tmp 27) (.tmp 29) 3, false, false, []⟩,
      ⟨.yes, (some 31), .pick (.tmp 26) (.tmp 30) (.const (.bool false)), false, false, []⟩,
      ⟨.yes, (some 2), .assign (.tmp 31), true, false, []⟩] [2]) <|
    .ret)
    (.skip)) <|
  .seq (.region [
    ⟨.yes, (some 6), .assign (.const (.int .i64 (0))), false, false, []⟩] [0, 3, 6]) <|
  .seq (.seq (.region [
    ⟨.yes, (some 32), .move (.tmp 3), false, false, [(some 4)]⟩,
    ⟨.yes, (some 33), .call ⟨.builtin .len, #[(.tmp 32)], #[22]⟩, false, false, []⟩,
    ⟨.yes, (some 34), .move (.const (.int .i64 (0))), false, false, []⟩] [0, 3, 6, 33, 34]) <|
  .block 0 <| .keep [0, 3, 6, 33, 34] <| .sum L_loffsets_0 (.loop l_loffsets_0)) <|
  .seq (.region [
    ⟨.yes, (some 2), .assign (.const (.bool true)), false, false, []⟩] [2]) <|
  .ret

theorem c_loffsets_eq : ∃ c, Tryd.f6.body = some c ∧ codeOK Tryd.f6.ntmps c = true ∧ comp Tryd.prog (ann 6) c = erase c_loffsets := ⟨_, rfl, by kernel_rfl, by kernel_rfl⟩

theorem body_loffsets_0 (s : List UInt8) (l : List Tok) (i len n : Int) : bodyT Xof [0, 3, 6, 33, 34] [2] [(0, [])] l_loffsets_0 ⟨[(0, .d (.str s)), (3, .d (.sl 4 (l.map encTok))), (6, .d (.int .i64 i)), (33, .d (.int .i64 len)), (34, .d (.int .i64 n))], []⟩ = (
    .br (decide (n < len))
 (.br (decide ((0 : Int) ≤ n ∧ n ≤ (IntKind.i64.wrap (n + 1)) ∧ (IntKind.i64.wrap (n + 1)) ≤ ((l.map encTok).length : Int)))
 (.opt (unL unTok (List.drop (Int.toNat n) (List.take (Int.toNat (IntKind.i64.wrap (n + 1))) (l.map encTok)))) fun l1 => .br (decide ((l1.length : Int) ≤ 100000 ∧ ((prS l1).length : Int) ≤ 70368744177664) && l1.all inR)
 (.br (decide ((0 : Int) ≤ n))
 (.opt (((l.map encTok)[(Int.toNat n)]?).bind unTok) fun y2 => .br (decide (y2.pos < i))
 (.leaf (.ret, ⟨[(2, .d (.bool false))], []⟩))
 (.br (decide ((0 : Int) ≤ n))
 (.opt (((l.map encTok)[(Int.toNat n)]?).bind unTok) fun y3 => .br (decide ((s.length : Int) < (IntKind.i64.wrap (y3.pos + ((prS l1).length : Int)))))
 (.leaf (.ret, ⟨[(2, .d (.bool false))], []⟩))
 (.br (decide (((prS l1).length : Int) = 0))
 (.leaf (.ret, ⟨[(2, .d (.bool false))], []⟩))
 (.br (decide ((0 : Int) ≤ n))
 (.opt (((l.map encTok)[(Int.toNat n)]?).bind unTok) fun y4 => .br (decide ((0 : Int) ≤ n))
 (.opt (((l.map encTok)[(Int.toNat n)]?).bind unTok) fun y5 => .br (decide ((0 : Int) ≤ y4.pos ∧ y4.pos ≤ (IntKind.i64.wrap (y5.pos + ((prS l1).length : Int))) ∧ (IntKind.i64.wrap (y5.pos + ((prS l1).length : Int))) ≤ (s.length : Int)))
 (.br (!decide ((List.drop (Int.toNat y4.pos) (List.take (Int.toNat (IntKind.i64.wrap (y5.pos + ((prS l1).length : Int)))) s)) = (prS l1)))
 (.leaf (.ret, ⟨[(2, .d (.bool false))], []⟩))
 (.br (decide ((0 : Int) ≤ n))
 (.opt (((l.map encTok)[(Int.toNat n)]?).bind unTok) fun y6 => .leaf (.nrm, ⟨[(0, .d (.str s)), (3, .d (.sl 4 (l.map encTok))), (6, .d (.int .i64 (IntKind.i64.wrap (y6.pos + ((prS l1).length : Int))))), (33, .d (.int .i64 len)), (34, .d (.int .i64 (IntKind.i64.wrap (n + 1))))], []⟩))
 (.fail)))
 (.fail))
 (.fail))
 (.fail))))
 (.fail)))
 (.fail))
 (.fail))
 (.fail))
 (.leaf ((.ext 0), ⟨[], []⟩)) : Tr (Ex × ST)) := by kernel_rfl

theorem tree_loffsets (s : List UInt8) : fnT Xof c_loffsets Tryd.f6.results.toList [.d (.str s)] [] = (
    .br false
 (.leaf (.d (.bool false), []))
 (.br (!decide (((scan s).2.2) = 0))
 (.br (decide ((((scan s).1.map encTok).length : Int) = 0))
 (.br (decide ((0 : Int) ≤ ((scan s).2.1)))
 (.leaf (.d (.bool (decide (((scan s).2.1) ≤ (s.length : Int)))), []))
 (.leaf (.d (.bool false), [])))
 (.leaf (.d (.bool false), [])))
 (.opt (unToks ((scan s).1.map encTok)) fun l1 => .br (decide (offPre s l1 (0 : Int) (((scan s).1.map encTok).length : Int) (0 : Int)))
 (.leaf (.d (.bool true), []))
 (.fail))) : Tr (AV × Hp)) := by kernel_rfl

end Go.AI.TD

/- The laws of the printed tokens: that they come back, and their places. -/
namespace Go.AI.TD
open Go Go.Proofs
set_option maxRecDepth 100000
set_option linter.unusedVariables false
set_option linter.unusedSimpArgs false

theorem prS_one (t : Tok) : prS [t] = prT t := by simp [prS, prR]
theorem scan_len' (s : List UInt8) : ((scan s).1.length : Int) ≤ 4096 := by
  unfold scan
  split
  · simp
  · split
    · have := scanF_len (s.length + 1) s 0
      dsimp only; omega
    · simp
/-- What stands behind a scan that failed. -/
theorem scanF_at : ∀ (k : Nat) (s : List UInt8) (i : Int), s.length < k → ¬ (scanF k s i).2.2 = 0 → i ≤ (scanF k s i).2.1 ∧ (scanF k s i).2.1 ≤ i + s.length
  | 0, s, i, h, _ => absurd h (by omega)
  | k + 1, [], i, _, h => absurd rfl h
  | k + 1, c :: r, i, hk, h => by
    simp only [List.length_cons] at hk ⊢
    cases hb : isBlank c with
    | true =>
      rw [scanF_blank hb] at h ⊢
      have := scanF_at k r (i + 1) (by omega) h
      omega
    | false =>
      by_cases h1 : (c.toNat : Int) = 35
      · rw [scanF_note hb h1] at h ⊢
        have h3 : pre notNl (c :: r) ≤ (c :: r).length := pre_le _ _
        have h4 : 1 ≤ pre notNl (c :: r) := by rw [pre_yes (by simp [notNl, h1])]; omega
        simp only [List.length_cons] at h3
        have := scanF_at k ((c :: r).drop (pre notNl (c :: r))) (i + pre notNl (c :: r)) (by rw [List.length_drop, List.length_cons]; omega) h
        rw [List.length_drop, List.length_cons] at this
        omega
      · by_cases h2 : (oneRes (c :: r)).er = 0
        · rw [scanF_tok hb h1 h2] at h ⊢
          obtain ⟨g1, g2, g3, g4⟩ := take_ln h2
          simp only [List.length_cons] at g4
          have := scanF_at k ((c :: r).drop (oneRes (c :: r)).ln.toNat) (i + (oneRes (c :: r)).ln) (by rw [List.length_drop, List.length_cons]; omega) h
          rw [List.length_drop, List.length_cons] at this
          dsimp only
          omega
        · rw [scanF_err hb h1 h2]
          dsimp only
          omega
theorem scan_err {s : List UInt8} (h : ¬ (scan s).2.2 = 0) : (scan s).1 = [] ∧ 0 ≤ (scan s).2.1 ∧ (scan s).2.1 ≤ s.length := by
  unfold scan at h ⊢
  by_cases hl : 4096 < (s.length : Int)
  · rw [if_pos hl]; exact ⟨rfl, Int.le_refl _, by show (0 : Int) ≤ _; omega⟩
  · rw [if_neg hl] at h ⊢
    by_cases h0 : (scanF (s.length + 1) s 0).2.2 = 0
    · rw [if_pos h0] at h; exact absurd rfl h
    · rw [if_neg h0] at h ⊢
      have := scanF_at (s.length + 1) s 0 (by omega) h0
      exact ⟨rfl, this.1, by have := this.2; dsimp only; omega⟩

theorem sub_at {l : List Tok} {n : Nat} {v : Tok} (h : l[n]? = some v) : unL unTok (List.drop n (List.take (n + 1) (l.map encTok))) = some [v] := by
  have h1 : List.drop n (List.take (n + 1) (l.map encTok)) = [v].map encTok := by
    rw [← List.map_take, ← List.map_drop, List.drop_take, toks_at h, show n + 1 - n = 1 by omega]; rfl
  rw [h1]; exact unL_map unTok_enc [v]

theorem sum_loffsets_0 : SumOK Tryd.prog gl (ann 6) L_loffsets_0 (.loop l_loffsets_0) := by
  refine SumOK.range (X := Xof) (xok_Xof 6) (by simp only [Sums, l_loffsets_0, and_true]) (by kernel_rfl) (lv := [0, 3, 6, 33, 34]) (rt := [2]) (xs := [(0, [])]) (by decide) unTok_enc
    (fun (z : List UInt8 × Int) (l : List Tok) n => ⟨[(0, .d (.str z.1)), (3, .d (.sl 4 (l.map encTok))), (6, .d (.int .i64 z.2)), (33, .d (.int .i64 (l.length : Int))), (34, .d (.int .i64 (n : Int)))], []⟩)
    (fun z l n => (z.1.length : Int) ≤ 4096 ∧ (l.length : Int) ≤ 4096 ∧ 0 ≤ z.2 ∧ z.2 ≤ z.1.length ∧ Chain z.1 z.2 (l.drop n))
    (fun z l n _ => (.ext 0, ⟨[], []⟩)) ?_ ?_ ?_
  · intro st r h
    unfold L_loffsets_0 at h
    split at h
    · rename_i s xs i len n
      obtain ⟨l, hl, h1⟩ := Tr.opt_some h
      rcases Tr.br_some h1 with ⟨h2, h3⟩ | ⟨_, h3⟩
      · obtain ⟨h4, hL, rfl, h5, h6, h7, h8, h9⟩ := of_decide_eq_true h2
        obtain ⟨k, rfl⟩ := Int.eq_ofNat_of_zero_le h5
        simp only [Int.ofNat_eq_natCast, Int.toNat_natCast] at h9
        exact ⟨(s, i), l, k, by rw [unToks_inv hl], by omega, ⟨h4, hL, h7, h8, h9⟩, (Tr.leaf_some h3).symm⟩
      · exact Tr.fail_some h3
    · exact Tr.fail_some h
  · rintro ⟨s, i⟩ l n ⟨h1, h2, h3, h4, h5⟩ hn hv
    rw [body_loffsets_0]
    exact ⟨.ext 0, _, Tr.dec_no (by omega) rfl, by simp, rfl⟩
  · rintro ⟨s, i⟩ l n v ⟨h1, h2, h3, h4, h5⟩ hn hv hb
    right
    dsimp only at h1 h2 h3 h4 h5
    rw [body_loffsets_0]
    rw [toks_at hv] at h5
    obtain ⟨g1, g2, g3, g4, g5, g6⟩ := h5
    have hw : IntKind.i64.wrap ((n : Int) + 1) = ((n + 1 : Nat) : Int) := by rw [wrap_in] <;> omega
    have hw2 : IntKind.i64.wrap (v.pos + ((prT v).length : Int)) = v.pos + ((prT v).length : Int) := by rw [wrap_in] <;> omega
    have h0 : (0 : Int) ≤ (n : Int) := by omega
    simp only [hw, Int.toNat_natCast, List.length_map, tok_at, sub_at hv, hv]
    have hne : ¬ ((prT v).length : Int) = 0 := by
      cases hp : prT v with
      | nil => exact absurd hp g3
      | cons => simp; omega
    refine ⟨(s, v.pos + (prT v).length), ?_, ⟨h1, h2, by show 0 ≤ v.pos + _; omega, g2, g6⟩, trivial⟩
    refine Tr.dec_yes (by omega) (Tr.dec_yes (by omega) (Tr.opt_to rfl ?_))
    simp only [prS_one]
    rw [Tr.run_yes (by simp [g5]; omega)]
    refine Tr.dec_yes h0 (Tr.opt_to rfl (Tr.dec_no (by omega) (Tr.dec_yes h0 (Tr.opt_to rfl ?_))))
    rw [hw2]
    refine Tr.dec_no (by omega) (Tr.dec_no hne (Tr.dec_yes h0 (Tr.opt_to rfl (Tr.dec_yes h0 (Tr.opt_to rfl ?_)))))
    rw [hw2]
    refine Tr.dec_yes (by omega) ?_
    have hs : List.drop (Int.toNat v.pos) (List.take (Int.toNat (v.pos + ((prT v).length : Int))) s) = prT v := by
      have e : (v.pos + ((prT v).length : Int)).toNat = v.pos.toNat + (prT v).length := by omega
      rw [e, List.drop_take, show v.pos.toNat + (prT v).length - v.pos.toNat = (prT v).length by omega, g4]
    rw [hs, Tr.run_no (by simp)]
    refine Tr.dec_yes h0 (Tr.opt_to rfl ?_)
    rw [hw2]; rfl

def loffsetsT : FT
  | [.d (.str s)], [] => .leaf (.d (.bool true), [])
  | _, _ => .fail

def lbackT : FT
  | [.d (.str s)], [] => .leaf (.d (.bool true), [])
  | _, _ => .fail

theorem ok_loffsets : FnOK Tryd.prog gl 6 loffsetsT := by
  refine fn_of (X := Xof) (xok_Xof 6) Tryd.func6 c_loffsets_eq (by kernel_rfl) (by simp only [Sums, c_loffsets, and_true, true_and]; exact sum_loffsets_0) ?_
  intro xs H o h
  unfold loffsetsT at h
  split at h
  · rw [tree_loffsets]
    obtain rfl := Tr.leaf_some h
    rename_i s
    refine (Tr.run_no rfl).trans ?_
    by_cases h0 : (scan s).2.2 = 0
    · rw [Tr.run_no (by simp [h0])]
      have hc := scan_chain h0
      have hl := scan_len' s
      obtain ⟨h1, _⟩ := scan_ok h0
      refine Tr.opt_to (unToks_of _) (Tr.dec_yes ⟨h1, hl, by rw [List.length_map], by omega, by omega, by omega, by omega, by rw [show (0 : Int).toNat = 0 from rfl, List.drop_zero]; exact hc⟩ rfl)
    · rw [Tr.run_yes (by simp [h0])]
      obtain ⟨h1, h2, h3⟩ := scan_err h0
      rw [h1]
      refine Tr.dec_yes rfl (Tr.dec_yes h2 ?_)
      rw [decide_eq_true h3]; rfl
  · exact Tr.fail_some h

theorem ok_lback : FnOK Tryd.prog gl 4 lbackT := by
  refine fn_of (X := Xbk) (xok_Xbk 4) Tryd.func4 c_lback_eq (by kernel_rfl) (by simp only [Sums, c_lback, and_true]) ?_
  intro xs H o h
  unfold lbackT at h
  split at h
  · rw [tree_lback]
    obtain rfl := Tr.leaf_some h
    rename_i s
    refine (Tr.run_no rfl).trans ?_
    by_cases h0 : (scan s).2.2 = 0
    · rw [Tr.run_no (by simp [h0])]
      have hc := scan_chain h0
      have hl := scan_len' s
      obtain ⟨h1, _⟩ := scan_ok h0
      have hp := hc.length (by omega) 0
      have hpl : ((prS (scan s).1).length : Int) ≤ 2 * (s.length - 0) := hp.1
      refine Tr.opt_to (unToks_of _) ?_
      rw [Tr.run_yes (by rw [hc.all]; simp; omega)]
      by_cases h2 : (4096 : Int) < ((prS (scan s).1).length : Int)
      · refine Tr.dec_yes h2 (Tr.dec_to (fun _ => rfl) fun _ => ?_)
        rw [decide_eq_true h0]; rfl
      · refine Tr.dec_no h2 (Tr.opt_to (unToks_of _) ?_)
        rw [Tr.run_yes (by rw [hc.all]; simp; omega)]
        obtain ⟨h3, h4⟩ := back (scan_good s) (by omega : ((prS (scan s).1).length : Int) ≤ 4096)
        refine Tr.dec_yes h3 (Tr.opt_to (unToks_of _) (Tr.opt_to (unToks_of _) (Tr.dec_yes (by unfold big; omega) ?_)))
        rw [h4]; rfl
    · rw [Tr.run_yes (by simp [h0])]
      obtain ⟨h1, h2, h3⟩ := scan_err h0
      rw [h1]
      exact Tr.dec_yes rfl rfl
  · exact Tr.fail_some h

end Go.AI.TD
