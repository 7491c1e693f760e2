/- The reference's one, in sum. -/
import Derived.Test.YtkkmdjkahdglhaaTkF
namespace Go.AI.TK
open Go Go.Proofs
set_option maxRecDepth 10000
set_option linter.unusedVariables false
set_option linter.unusedSimpArgs false

def rAt (t : TR) (i : Int) : Int := if t.er = 0 then i else 0
def ronePre (s : List UInt8) (i : Int) : Prop := 0 ≤ i ∧ i < s.length ∧ (s.length : Int) ≤ big
instance (s : List UInt8) (i : Int) : Decidable (ronePre s i) := by unfold ronePre; infer_instance

def L_rone_0 : ST → Tr (Ex × ST)
  | ⟨[(0, .d (.str s)), (1, .d (.int .i64 a)), (4, (.box [(.d (.int .i64 0)), (.d (.str [])), (.d (.int .i64 0)), (.d (.int .i64 0))])), (8, .d (.int .i64 n))], []⟩ => .br (decide (0 ≤ n ∧ n ≤ s.length ∧ (s.length : Int) ≤ big)) (.leaf ((.ext 1), ⟨[(0, .d (.str s)), (1, .d (.int .i64 a)), (4, (.box [(.d (.int .i64 0)), (.d (.str [])), (.d (.int .i64 0)), (.d (.int .i64 0))])), (8, .d (.int .i64 (n + (pre isWord (s.drop n.toNat) : Int))))], []⟩)) .fail
  | _ => .fail

def L_rone_1 : ST → Tr (Ex × ST)
  | ⟨[(0, .d (.str s)), (1, .d (.int .i64 a)), (4, (.box [(.d (.int .i64 0)), (.d (.str [])), (.d (.int .i64 0)), (.d (.int .i64 0))])), (8, .d (.int .i64 n))], []⟩ => .br (decide (0 ≤ n ∧ n ≤ s.length ∧ (s.length : Int) ≤ big)) (.leaf ((.ext 3), ⟨[(0, .d (.str s)), (1, .d (.int .i64 a)), (4, (.box [(.d (.int .i64 0)), (.d (.str [])), (.d (.int .i64 0)), (.d (.int .i64 0))])), (8, .d (.int .i64 (n + (pre isDig (s.drop n.toNat) : Int))))], []⟩)) .fail
  | _ => .fail

def roneT : FT
  | [.d (.str s), .d (.int .i64 i)], [] => .br (decide (ronePre s i)) (.leaf ((.tup [.agg [.d (.int .i64 (oneRes (s.drop i.toNat)).kd), .d (.str (oneRes (s.drop i.toNat)).tx), .d (.int .i64 (oneRes (s.drop i.toNat)).vl), .d (.int .i64 (rAt (oneRes (s.drop i.toNat)) i))], .d (.int .i64 (rAt (oneRes (s.drop i.toNat)) (i + (oneRes (s.drop i.toNat)).ln))), .d (.int .i64 (oneRes (s.drop i.toNat)).er)]), [])) .fail
  | _, _ => .fail

noncomputable abbrev Xrone : TX := ⟨Try.prog, tbl [(21, rletterT), (22, rdigitT), (26, rnumberT), (27, rdoubleT), (28, rsingleT)], iso, gl, vw⟩

theorem xok_Xrone (f : Nat) : XOK Xrone (ann f) gl := XOK.of base (l := [(21, rletterT), (22, rdigitT), (26, rnumberT), (27, rdoubleT), (28, rsingleT)]) ⟨ok_rletter, ok_rdigit, ok_rnumber, ok_rdouble, ok_rsingle, trivial⟩ f

def l_rone_0 : CC := .seq (.seq (.region [
    ⟨.yes, (some 19), .move (.tmp 8), false, false, []⟩,
    ⟨.yes, (some 20), .move (.tmp 0), false, false, []⟩,
    ⟨.yes, (some 21), .call ⟨.builtin .len, #[(.tmp 20)], #[9]⟩, false, false, []⟩,
    ⟨.yes, (some 22), .binOp .lss 3 (.tmp 19) (.tmp 21) 3, false, false, []⟩,
    ⟨.yes, (some 23), .move (.tmp 22), true, false, []⟩,
    ⟨(.on 23 true), (some 24), .move (.tmp 0), false, false, []⟩,
    ⟨(.on 23 true), (some 25), .move (.tmp 8), false, false, []⟩,
    ⟨(.on 23 true), (some 26), .index 9 (.tmp 24) (.tmp 25), false, false, []⟩,
    ⟨(.on 23 true), (some 27), .call ⟨.value (.func 21), #[(.tmp 26)], #[5]⟩, false, false, []⟩,
    ⟨(.on 23 true), (some 28), .move (.tmp 27), true, false, []⟩,
    ⟨(.on 28 false), (some 29), .move (.tmp 0), false, false, []⟩,
    ⟨(.on 28 false), (some 30), .move (.tmp 8), false, false, []⟩,
    ⟨(.on 28 false), (some 31), .index 9 (.tmp 29) (.tmp 30), false, false, []⟩,
    ⟨(.on 28 false), (some 32), .call ⟨.value (.func 22), #[(.tmp 31)], #[5]⟩, false, false, []⟩,
    ⟨(.on 23 true), (some 33), .pick (.tmp 28) (.const (.bool true)) (.tmp 32), false, false, []⟩,
    ⟨.yes, (some 34), .pick (.tmp 23) (.tmp 33) (.const (.bool false)), false, false, []⟩] [0, 1, 4, 8, 34]) <|
  .cond (.tmp 34)
    (.skip)
    (.exit 1)) <|
  .block 2 <| .region [
    ⟨.yes, (some 35), .move (.tmp 8), true, false, []⟩,
    ⟨.yes, (some 36), .binOp .add 3 (.tmp 35) (.const (.int .i64 (1))) 3, false, false, []⟩,
    ⟨.yes, (some 8), .assign (.tmp 36), true, false, []⟩] [0, 1, 4, 8]

def l_rone_1 : CC := .seq (.seq (.region [
    ⟨.yes, (some 54), .move (.tmp 8), false, false, []⟩,
    ⟨.yes, (some 55), .move (.tmp 0), false, false, []⟩,
    ⟨.yes, (some 56), .call ⟨.builtin .len, #[(.tmp 55)], #[9]⟩, false, false, []⟩,
    ⟨.yes, (some 57), .binOp .lss 3 (.tmp 54) (.tmp 56) 3, false, false, []⟩,
    ⟨.yes, (some 58), .move (.tmp 57), true, false, []⟩,
    ⟨(.on 58 true), (some 59), .move (.tmp 0), false, false, []⟩,
    ⟨(.on 58 true), (some 60), .move (.tmp 8), false, false, []⟩,
    ⟨(.on 58 true), (some 61), .index 9 (.tmp 59) (.tmp 60), false, false, []⟩,
    ⟨(.on 58 true), (some 62), .call ⟨.value (.func 22), #[(.tmp 61)], #[5]⟩, false, false, []⟩,
    ⟨.yes, (some 63), .pick (.tmp 58) (.tmp 62) (.const (.bool false)), false, false, []⟩] [0, 1, 4, 8, 63]) <|
  .cond (.tmp 63)
    (.skip)
    (.exit 3)) <|
  .block 4 <| .region [
    ⟨.yes, (some 64), .move (.tmp 8), true, false, []⟩,
    ⟨.yes, (some 65), .binOp .add 3 (.tmp 64) (.const (.int .i64 (1))) 3, false, false, []⟩,
    ⟨.yes, (some 8), .assign (.tmp 65), true, false, []⟩] [0, 1, 4, 8]

/-- rollbacknet/rollbacknetref01.one -/
def c_rone : CC := .seq (.region [
    ⟨.yes, (some 4), .alloc 31, false, false, []⟩,
    ⟨.yes, (some 5), .assign (.const (.int .i64 (0))), false, false, []⟩,
    ⟨.yes, (some 6), .assign (.const (.int .i64 (0))), false, false, []⟩] [0, 1, 4]) <|
  .seq (.region [
    ⟨.yes, (some 11), .move (.tmp 0), false, false, []⟩,
    ⟨.yes, (some 12), .move (.tmp 1), false, false, []⟩,
    ⟨.yes, (some 13), .index 9 (.tmp 11) (.tmp 12), false, false, []⟩,
    ⟨.yes, (some 7), .assign (.tmp 13), true, false, []⟩] [0, 1, 4, 7]) <|
  .seq (.region [
    ⟨.yes, (some 14), .move (.tmp 1), false, false, []⟩,
    ⟨.yes, (some 15), .binOp .add 3 (.tmp 14) (.const (.int .i64 (1))) 3, false, false, []⟩,
    ⟨.yes, (some 8), .assign (.tmp 15), true, false, []⟩] [0, 1, 4, 7, 8]) <|
  .seq (.block 0 <| .seq (.region [
    ⟨.yes, (some 17), .move (.tmp 7), false, false, []⟩,
    ⟨.yes, (some 18), .call ⟨.value (.func 21), #[(.tmp 17)], #[5]⟩, false, false, []⟩,
    ⟨.yes, (some 16), .assign (.tmp 18), true, false, []⟩] [0, 1, 4, 7, 8, 16]) <|
  .cond (.tmp 16)
    (.seq (.block 1 <| .keep [0, 1, 4, 8] <| .sum L_rone_0 (.loop l_rone_0)) <|
    .seq (.seq (.region [
      ⟨.yes, (some 37), .move (.tmp 8), false, false, []⟩,
      ⟨.yes, (some 38), .move (.tmp 1), false, false, []⟩,
      ⟨.yes, (some 39), .binOp .sub 3 (.tmp 37) (.tmp 38) 3, false, false, []⟩,
      ⟨.yes, (some 40), .binOp .gtr 3 (.tmp 39) (.const (.int .i64 (16))) 3, false, false, []⟩] [0, 1, 4, 8, 40]) <|
    .cond (.tmp 40)
      (.seq (.region [
        ⟨.yes, (some 41), .build 31 #[], false, false, []⟩,
        ⟨.yes, none, .store 31 (.tmp 4) (.tmp 41), true, false, []⟩,
        ⟨.yes, (some 5), .assign (.const (.int .i64 (0))), false, false, []⟩,
        ⟨.yes, (some 6), .assign (.const (.int .i64 (5))), false, false, []⟩] [4, 5, 6]) <|
      .ret)
      (.skip)) <|
    .seq (.region [
      ⟨.yes, (some 42), .move (.tmp 0), true, false, []⟩,
      ⟨.yes, (some 43), .move (.tmp 1), false, false, []⟩,
      ⟨.yes, (some 44), .move (.tmp 8), false, false, []⟩,
      ⟨.yes, (some 45), .slice 9 (.tmp 42) (some (.tmp 43)) (some (.tmp 44)) none, false, false, []⟩,
      ⟨.yes, (some 46), .move (.tmp 1), true, false, []⟩,
      ⟨.yes, (some 47), .build 31 #[(0, (.const (.int .i64 (1)))), (1, (.tmp 45)), (3, (.tmp 46))], true, false, []⟩,
      ⟨.yes, (some 48), .move (.tmp 8), true, false, []⟩,
      ⟨.yes, none, .store 31 (.tmp 4) (.tmp 47), true, false, []⟩,
      ⟨.yes, (some 5), .assign (.tmp 48), true, false, []⟩,
      ⟨.yes, (some 6), .assign (.const (.int .i64 (0))), false, false, []⟩] [4, 5, 6]) <|
    .ret)
    (.seq (.region [
      ⟨.yes, (some 50), .move (.tmp 7), false, false, []⟩,
      ⟨.yes, (some 51), .call ⟨.value (.func 22), #[(.tmp 50)], #[5]⟩, false, false, []⟩,
      ⟨.yes, (some 49), .assign (.tmp 51), true, false, []⟩] [0, 1, 4, 7, 8, 49]) <|
    .cond (.tmp 49)
      (.seq (.seq (.region [
        ⟨.yes, (some 52), .move (.tmp 7), true, false, []⟩,
        ⟨.yes, (some 53), .binOp .neq 5 (.tmp 52) (.const (.int .u8 (48))) 5, false, false, []⟩] [0, 1, 4, 8, 53]) <|
      .cond (.tmp 53)
        (.block 3 <| .keep [0, 1, 4, 8] <| .sum L_rone_1 (.loop l_rone_1))
        (.skip)) <|
      .seq (.seq (.region [
        ⟨.yes, (some 66), .move (.tmp 8), false, false, []⟩,
        ⟨.yes, (some 67), .move (.tmp 0), false, false, []⟩,
        ⟨.yes, (some 68), .call ⟨.builtin .len, #[(.tmp 67)], #[9]⟩, false, false, []⟩,
        ⟨.yes, (some 69), .binOp .lss 3 (.tmp 66) (.tmp 68) 3, false, false, []⟩,
        ⟨.yes, (some 70), .move (.tmp 69), true, false, []⟩,
        ⟨(.on 70 true), (some 71), .move (.tmp 0), false, false, []⟩,
        ⟨(.on 70 true), (some 72), .move (.tmp 8), false, false, []⟩,
        ⟨(.on 70 true), (some 73), .index 9 (.tmp 71) (.tmp 72), false, false, []⟩,
        ⟨(.on 70 true), (some 74), .call ⟨.value (.func 21), #[(.tmp 73)], #[5]⟩, false, false, []⟩,
        ⟨(.on 70 true), (some 75), .move (.tmp 74), true, false, []⟩,
        ⟨(.on 75 false), (some 76), .move (.tmp 0), false, false, []⟩,
        ⟨(.on 75 false), (some 77), .move (.tmp 8), false, false, []⟩,
        ⟨(.on 75 false), (some 78), .index 9 (.tmp 76) (.tmp 77), false, false, []⟩,
        ⟨(.on 75 false), (some 79), .call ⟨.value (.func 22), #[(.tmp 78)], #[5]⟩, false, false, []⟩,
        ⟨(.on 70 true), (some 80), .pick (.tmp 75) (.const (.bool true)) (.tmp 79), false, false, []⟩,
        ⟨.yes, (some 81), .pick (.tmp 70) (.tmp 80) (.const (.bool false)), false, false, []⟩] [0, 1, 4, 8, 81]) <|
      .cond (.tmp 81)
        (.seq (.region [
          ⟨.yes, (some 82), .build 31 #[], false, false, []⟩,
          ⟨.yes, none, .store 31 (.tmp 4) (.tmp 82), true, false, []⟩,
          ⟨.yes, (some 5), .assign (.const (.int .i64 (0))), false, false, []⟩,
          ⟨.yes, (some 6), .assign (.const (.int .i64 (1))), false, false, []⟩] [4, 5, 6]) <|
        .ret)
        (.skip)) <|
      .seq (.region [
        ⟨.yes, (some 84), .move (.tmp 0), true, false, []⟩,
        ⟨.yes, (some 85), .move (.tmp 1), false, false, []⟩,
        ⟨.yes, (some 86), .move (.tmp 8), false, false, []⟩,
        ⟨.yes, (some 87), .slice 9 (.tmp 84) (some (.tmp 85)) (some (.tmp 86)) none, false, false, []⟩,
        ⟨.yes, (some 88), .call ⟨.value (.func 26), #[(.tmp 87)], #[9]⟩, false, false, []⟩,
        ⟨.yes, (some 83), .move (.tmp 88), true, false, []⟩,
        ⟨.yes, (some 89), .extract (.tmp 83) 0, false, false, []⟩,
        ⟨.yes, (some 90), .extract (.tmp 83) 1, false, false, []⟩,
        ⟨.yes, (some 9), .assign (.tmp 89), true, false, []⟩,
        ⟨.yes, (some 10), .assign (.tmp 90), true, false, []⟩] [1, 4, 8, 9, 10]) <|
      .seq (.seq (.region [
        ⟨.yes, (some 91), .move (.tmp 10), true, false, []⟩,
        ⟨.yes, (some 92), .unOp .not 4 (.tmp 91), false, false, []⟩] [1, 4, 8, 9, 92]) <|
      .cond (.tmp 92)
        (.seq (.region [
          ⟨.yes, (some 93), .build 31 #[], false, false, []⟩,
          ⟨.yes, none, .store 31 (.tmp 4) (.tmp 93), true, false, []⟩,
          ⟨.yes, (some 5), .assign (.const (.int .i64 (0))), false, false, []⟩,
          ⟨.yes, (some 6), .assign (.const (.int .i64 (3))), false, false, []⟩] [4, 5, 6]) <|
        .ret)
        (.skip)) <|
      .seq (.region [
        ⟨.yes, (some 94), .move (.tmp 9), true, false, []⟩,
        ⟨.yes, (some 95), .move (.tmp 1), true, false, []⟩,
        ⟨.yes, (some 96), .build 31 #[(0, (.const (.int .i64 (2)))), (2, (.tmp 94)), (3, (.tmp 95))], true, false, []⟩,
        ⟨.yes, (some 97), .move (.tmp 8), true, false, []⟩,
        ⟨.yes, none, .store 31 (.tmp 4) (.tmp 96), true, false, []⟩,
        ⟨.yes, (some 5), .assign (.tmp 97), true, false, []⟩,
        ⟨.yes, (some 6), .assign (.const (.int .i64 (0))), false, false, []⟩] [4, 5, 6]) <|
      .ret)
      (.seq (.region [
        ⟨.yes, (some 99), .move (.tmp 8), false, false, []⟩,
        ⟨.yes, (some 100), .move (.tmp 0), false, false, []⟩,
        ⟨.yes, (some 101), .call ⟨.builtin .len, #[(.tmp 100)], #[9]⟩, false, false, []⟩,
        ⟨.yes, (some 102), .binOp .lss 3 (.tmp 99) (.tmp 101) 3, false, false, []⟩,
        ⟨.yes, (some 103), .move (.tmp 102), true, false, []⟩,
        ⟨(.on 103 true), (some 104), .move (.tmp 7), false, false, []⟩,
        ⟨(.on 103 true), (some 105), .move (.tmp 0), false, false, []⟩,
        ⟨(.on 103 true), (some 106), .move (.tmp 8), false, false, []⟩,
        ⟨(.on 103 true), (some 107), .index 9 (.tmp 105) (.tmp 106), false, false, []⟩,
        ⟨(.on 103 true), (some 108), .call ⟨.value (.func 27), #[(.tmp 104), (.tmp 107)], #[5, 5]⟩, false, false, []⟩,
        ⟨.yes, (some 109), .pick (.tmp 103) (.tmp 108) (.const (.bool false)), false, false, []⟩,
        ⟨.yes, (some 98), .assign (.tmp 109), true, false, []⟩] [0, 1, 4, 7, 8, 98]) <|
      .cond (.tmp 98)
        (.seq (.region [
          ⟨.yes, (some 110), .move (.tmp 0), true, false, []⟩,
          ⟨.yes, (some 111), .move (.tmp 1), false, false, []⟩,
          ⟨.yes, (some 112), .move (.tmp 8), false, false, []⟩,
          ⟨.yes, (some 113), .binOp .add 3 (.tmp 112) (.const (.int .i64 (1))) 3, false, false, []⟩,
          ⟨.yes, (some 114), .slice 9 (.tmp 110) (some (.tmp 111)) (some (.tmp 113)) none, false, false, []⟩,
          ⟨.yes, (some 115), .move (.tmp 1), true, false, []⟩,
          ⟨.yes, (some 116), .build 31 #[(0, (.const (.int .i64 (3)))), (1, (.tmp 114)), (3, (.tmp 115))], true, false, []⟩,
          ⟨.yes, (some 117), .move (.tmp 8), true, false, []⟩,
          ⟨.yes, (some 118), .binOp .add 3 (.tmp 117) (.const (.int .i64 (1))) 3, false, false, []⟩,
          ⟨.yes, none, .store 31 (.tmp 4) (.tmp 116), true, false, []⟩,
          ⟨.yes, (some 5), .assign (.tmp 118), true, false, []⟩,
          ⟨.yes, (some 6), .assign (.const (.int .i64 (0))), false, false, []⟩] [4, 5, 6]) <|
        .ret)
        (.seq (.region [
          ⟨.yes, (some 120), .move (.tmp 7), true, false, []⟩,
          ⟨.yes, (some 121), .call ⟨.value (.func 28), #[(.tmp 120)], #[5]⟩, false, false, []⟩,
          ⟨.yes, (some 119), .assign (.tmp 121), true, false, []⟩] [0, 1, 4, 8, 119]) <|
        .cond (.tmp 119)
          (.seq (.region [
            ⟨.yes, (some 122), .move (.tmp 0), true, false, []⟩,
            ⟨.yes, (some 123), .move (.tmp 1), false, false, []⟩,
            ⟨.yes, (some 124), .move (.tmp 8), false, false, []⟩,
            ⟨.yes, (some 125), .slice 9 (.tmp 122) (some (.tmp 123)) (some (.tmp 124)) none, false, false, []⟩,
            ⟨.yes, (some 126), .move (.tmp 1), true, false, []⟩,
            ⟨.yes, (some 127), .build 31 #[(0, (.const (.int .i64 (3)))), (1, (.tmp 125)), (3, (.tmp 126))], true, false, []⟩,
            ⟨.yes, (some 128), .move (.tmp 8), true, false, []⟩,
            ⟨.yes, none, .store 31 (.tmp 4) (.tmp 127), true, false, []⟩,
            ⟨.yes, (some 5), .assign (.tmp 128), true, false, []⟩,
            ⟨.yes, (some 6), .assign (.const (.int .i64 (0))), false, false, []⟩] [4, 5, 6]) <|
          .ret)
          (.skip))))) <|
  .seq (.region [
    ⟨.yes, (some 129), .build 31 #[], false, false, []⟩,
    ⟨.yes, none, .store 31 (.tmp 4) (.tmp 129), true, false, []⟩,
    ⟨.yes, (some 5), .assign (.const (.int .i64 (0))), false, false, []⟩,
    ⟨.yes, (some 6), .assign (.const (.int .i64 (1))), false, false, []⟩] [4, 5, 6]) <|
  .ret

theorem c_rone_eq : ∃ c, Try.f17.body = some c ∧ codeOK Try.f17.ntmps c = true ∧ comp Try.prog (ann 17) c = erase c_rone := ⟨_, rfl, by kernel_rfl, by kernel_rfl⟩

theorem body_rone_0 (s : List UInt8) (a n : Int) : bodyT Xrone [0, 1, 4, 8] [4, 5, 6] [(0, [4]), (1, [0, 1, 4, 8])] l_rone_0 ⟨[(0, .d (.str s)), (1, .d (.int .i64 a)), (4, (.box [(.d (.int .i64 0)), (.d (.str [])), (.d (.int .i64 0)), (.d (.int .i64 0))])), (8, .d (.int .i64 n))], []⟩ = (
    .br (decide (n < (s.length : Int)))
    (.br (decide ((0 : Int) ≤ n))
      (.opt (s[(Int.toNat n)]?) fun b1 => .br (isLetter (b1.toNat : Int))
        (.leaf (.nrm, ⟨[(0, (.d (.str s))), (1, (.d (.int .i64 a))), (4, (.box [(.d (.int .i64 0)), (.d (.str [])), (.d (.int .i64 0)), (.d (.int .i64 0))])), (8, (.d (.int .i64 (IntKind.i64.wrap (n + 1)))))], []⟩))
        (.br (decide ((0 : Int) ≤ n))
          (.opt (s[(Int.toNat n)]?) fun b2 => .br (isDigit (b2.toNat : Int))
            (.leaf (.nrm, ⟨[(0, (.d (.str s))), (1, (.d (.int .i64 a))), (4, (.box [(.d (.int .i64 0)), (.d (.str [])), (.d (.int .i64 0)), (.d (.int .i64 0))])), (8, (.d (.int .i64 (IntKind.i64.wrap (n + 1)))))], []⟩))
            (.leaf ((.ext 1), ⟨[(0, (.d (.str s))), (1, (.d (.int .i64 a))), (4, (.box [(.d (.int .i64 0)), (.d (.str [])), (.d (.int .i64 0)), (.d (.int .i64 0))])), (8, (.d (.int .i64 n)))], []⟩)))
          (.fail)))
      (.fail))
    (.leaf ((.ext 1), ⟨[(0, (.d (.str s))), (1, (.d (.int .i64 a))), (4, (.box [(.d (.int .i64 0)), (.d (.str [])), (.d (.int .i64 0)), (.d (.int .i64 0))])), (8, (.d (.int .i64 n)))], []⟩)) : Tr (Ex × ST)) := by kernel_rfl

theorem body_rone_1 (s : List UInt8) (a n : Int) : bodyT Xrone [0, 1, 4, 8] [4, 5, 6] [(0, [4]), (3, [0, 1, 4, 8])] l_rone_1 ⟨[(0, .d (.str s)), (1, .d (.int .i64 a)), (4, (.box [(.d (.int .i64 0)), (.d (.str [])), (.d (.int .i64 0)), (.d (.int .i64 0))])), (8, .d (.int .i64 n))], []⟩ = (
    .br (decide (n < (s.length : Int)))
    (.br (decide ((0 : Int) ≤ n))
      (.opt (s[(Int.toNat n)]?) fun b1 => .br (isDigit (b1.toNat : Int))
        (.leaf (.nrm, ⟨[(0, (.d (.str s))), (1, (.d (.int .i64 a))), (4, (.box [(.d (.int .i64 0)), (.d (.str [])), (.d (.int .i64 0)), (.d (.int .i64 0))])), (8, (.d (.int .i64 (IntKind.i64.wrap (n + 1)))))], []⟩))
        (.leaf ((.ext 3), ⟨[(0, (.d (.str s))), (1, (.d (.int .i64 a))), (4, (.box [(.d (.int .i64 0)), (.d (.str [])), (.d (.int .i64 0)), (.d (.int .i64 0))])), (8, (.d (.int .i64 n)))], []⟩)))
      (.fail))
    (.leaf ((.ext 3), ⟨[(0, (.d (.str s))), (1, (.d (.int .i64 a))), (4, (.box [(.d (.int .i64 0)), (.d (.str [])), (.d (.int .i64 0)), (.d (.int .i64 0))])), (8, (.d (.int .i64 n)))], []⟩)) : Tr (Ex × ST)) := by kernel_rfl

theorem tree_rone (s : List UInt8) (i : Int) : fnT Xrone c_rone Try.f17.results.toList [.d (.str s), .d (.int .i64 i)] [] = (
    .br (decide ((0 : Int) ≤ i))
    (.opt (s[(Int.toNat i)]?) fun b1 => .br (isLetter (b1.toNat : Int))
      (.br (decide (0 ≤ (IntKind.i64.wrap (i + 1)) ∧ (IntKind.i64.wrap (i + 1)) ≤ s.length ∧ (s.length : Int) ≤ big))
        (.br (decide ((16 : Int) < (IntKind.i64.wrap (((IntKind.i64.wrap (i + 1)) + (pre isWord (s.drop (IntKind.i64.wrap (i + 1)).toNat) : Int)) - i))))
          (.leaf ((.tup [(.agg [(.d (.int .i64 0)), (.d (.str [])), (.d (.int .i64 0)), (.d (.int .i64 0))]), (.d (.int .i64 0)), (.d (.int .i64 5))]), []))
          (.br (decide ((0 : Int) ≤ i ∧ i ≤ ((IntKind.i64.wrap (i + 1)) + (pre isWord (s.drop (IntKind.i64.wrap (i + 1)).toNat) : Int)) ∧ ((IntKind.i64.wrap (i + 1)) + (pre isWord (s.drop (IntKind.i64.wrap (i + 1)).toNat) : Int)) ≤ (s.length : Int)))
            (.leaf ((.tup [(.agg [(.d (.int .i64 1)), (.d (.str (List.drop (Int.toNat i) (List.take (Int.toNat ((IntKind.i64.wrap (i + 1)) + (pre isWord (s.drop (IntKind.i64.wrap (i + 1)).toNat) : Int))) s)))), (.d (.int .i64 0)), (.d (.int .i64 i))]), (.d (.int .i64 ((IntKind.i64.wrap (i + 1)) + (pre isWord (s.drop (IntKind.i64.wrap (i + 1)).toNat) : Int)))), (.d (.int .i64 0))]), []))
            (.fail)))
        (.fail))
      (.br (isDigit (b1.toNat : Int))
        (.br (!decide ((b1.toNat : Int) = 48))
          (.br (decide (0 ≤ (IntKind.i64.wrap (i + 1)) ∧ (IntKind.i64.wrap (i + 1)) ≤ s.length ∧ (s.length : Int) ≤ big))
            (.br (decide (((IntKind.i64.wrap (i + 1)) + (pre isDig (s.drop (IntKind.i64.wrap (i + 1)).toNat) : Int)) < (s.length : Int)))
              (.br (decide ((0 : Int) ≤ ((IntKind.i64.wrap (i + 1)) + (pre isDig (s.drop (IntKind.i64.wrap (i + 1)).toNat) : Int))))
                (.opt (s[(Int.toNat ((IntKind.i64.wrap (i + 1)) + (pre isDig (s.drop (IntKind.i64.wrap (i + 1)).toNat) : Int)))]?) fun b2 => .br (isLetter (b2.toNat : Int))
                  (.leaf ((.tup [(.agg [(.d (.int .i64 0)), (.d (.str [])), (.d (.int .i64 0)), (.d (.int .i64 0))]), (.d (.int .i64 0)), (.d (.int .i64 1))]), []))
                  (.br (decide ((0 : Int) ≤ ((IntKind.i64.wrap (i + 1)) + (pre isDig (s.drop (IntKind.i64.wrap (i + 1)).toNat) : Int))))
                    (.opt (s[(Int.toNat ((IntKind.i64.wrap (i + 1)) + (pre isDig (s.drop (IntKind.i64.wrap (i + 1)).toNat) : Int)))]?) fun b3 => .br (isDigit (b3.toNat : Int))
                      (.leaf ((.tup [(.agg [(.d (.int .i64 0)), (.d (.str [])), (.d (.int .i64 0)), (.d (.int .i64 0))]), (.d (.int .i64 0)), (.d (.int .i64 1))]), []))
                      (.br (decide ((0 : Int) ≤ i ∧ i ≤ ((IntKind.i64.wrap (i + 1)) + (pre isDig (s.drop (IntKind.i64.wrap (i + 1)).toNat) : Int)) ∧ ((IntKind.i64.wrap (i + 1)) + (pre isDig (s.drop (IntKind.i64.wrap (i + 1)).toNat) : Int)) ≤ (s.length : Int)))
                        (.br (numsPre (List.drop (Int.toNat i) (List.take (Int.toNat ((IntKind.i64.wrap (i + 1)) + (pre isDig (s.drop (IntKind.i64.wrap (i + 1)).toNat) : Int))) s)))
                          (.br ((accum 0 (List.drop (Int.toNat i) (List.take (Int.toNat ((IntKind.i64.wrap (i + 1)) + (pre isDig (s.drop (IntKind.i64.wrap (i + 1)).toNat) : Int))) s))).isNone)
                            (.br true
                              (.leaf ((.tup [(.agg [(.d (.int .i64 0)), (.d (.str [])), (.d (.int .i64 0)), (.d (.int .i64 0))]), (.d (.int .i64 0)), (.d (.int .i64 3))]), []))
                              (.leaf ((.tup [(.agg [(.d (.int .i64 2)), (.d (.str [])), (.d (.int .i64 0)), (.d (.int .i64 i))]), (.d (.int .i64 ((IntKind.i64.wrap (i + 1)) + (pre isDig (s.drop (IntKind.i64.wrap (i + 1)).toNat) : Int)))), (.d (.int .i64 0))]), [])))
                            (.opt (accum 0 (List.drop (Int.toNat i) (List.take (Int.toNat ((IntKind.i64.wrap (i + 1)) + (pre isDig (s.drop (IntKind.i64.wrap (i + 1)).toNat) : Int))) s))) fun v4 => .br false
                              (.leaf ((.tup [(.agg [(.d (.int .i64 0)), (.d (.str [])), (.d (.int .i64 0)), (.d (.int .i64 0))]), (.d (.int .i64 0)), (.d (.int .i64 3))]), []))
                              (.leaf ((.tup [(.agg [(.d (.int .i64 2)), (.d (.str [])), (.d (.int .i64 v4)), (.d (.int .i64 i))]), (.d (.int .i64 ((IntKind.i64.wrap (i + 1)) + (pre isDig (s.drop (IntKind.i64.wrap (i + 1)).toNat) : Int)))), (.d (.int .i64 0))]), []))))
                          (.fail))
                        (.fail)))
                    (.fail)))
                (.fail))
              (.br (decide ((0 : Int) ≤ i ∧ i ≤ ((IntKind.i64.wrap (i + 1)) + (pre isDig (s.drop (IntKind.i64.wrap (i + 1)).toNat) : Int)) ∧ ((IntKind.i64.wrap (i + 1)) + (pre isDig (s.drop (IntKind.i64.wrap (i + 1)).toNat) : Int)) ≤ (s.length : Int)))
                (.br (numsPre (List.drop (Int.toNat i) (List.take (Int.toNat ((IntKind.i64.wrap (i + 1)) + (pre isDig (s.drop (IntKind.i64.wrap (i + 1)).toNat) : Int))) s)))
                  (.br ((accum 0 (List.drop (Int.toNat i) (List.take (Int.toNat ((IntKind.i64.wrap (i + 1)) + (pre isDig (s.drop (IntKind.i64.wrap (i + 1)).toNat) : Int))) s))).isNone)
                    (.br true
                      (.leaf ((.tup [(.agg [(.d (.int .i64 0)), (.d (.str [])), (.d (.int .i64 0)), (.d (.int .i64 0))]), (.d (.int .i64 0)), (.d (.int .i64 3))]), []))
                      (.leaf ((.tup [(.agg [(.d (.int .i64 2)), (.d (.str [])), (.d (.int .i64 0)), (.d (.int .i64 i))]), (.d (.int .i64 ((IntKind.i64.wrap (i + 1)) + (pre isDig (s.drop (IntKind.i64.wrap (i + 1)).toNat) : Int)))), (.d (.int .i64 0))]), [])))
                    (.opt (accum 0 (List.drop (Int.toNat i) (List.take (Int.toNat ((IntKind.i64.wrap (i + 1)) + (pre isDig (s.drop (IntKind.i64.wrap (i + 1)).toNat) : Int))) s))) fun v5 => .br false
                      (.leaf ((.tup [(.agg [(.d (.int .i64 0)), (.d (.str [])), (.d (.int .i64 0)), (.d (.int .i64 0))]), (.d (.int .i64 0)), (.d (.int .i64 3))]), []))
                      (.leaf ((.tup [(.agg [(.d (.int .i64 2)), (.d (.str [])), (.d (.int .i64 v5)), (.d (.int .i64 i))]), (.d (.int .i64 ((IntKind.i64.wrap (i + 1)) + (pre isDig (s.drop (IntKind.i64.wrap (i + 1)).toNat) : Int)))), (.d (.int .i64 0))]), []))))
                  (.fail))
                (.fail)))
            (.fail))
          (.br (decide ((IntKind.i64.wrap (i + 1)) < (s.length : Int)))
            (.br (decide ((0 : Int) ≤ (IntKind.i64.wrap (i + 1))))
              (.opt (s[(Int.toNat (IntKind.i64.wrap (i + 1)))]?) fun b6 => .br (isLetter (b6.toNat : Int))
                (.leaf ((.tup [(.agg [(.d (.int .i64 0)), (.d (.str [])), (.d (.int .i64 0)), (.d (.int .i64 0))]), (.d (.int .i64 0)), (.d (.int .i64 1))]), []))
                (.br (decide ((0 : Int) ≤ (IntKind.i64.wrap (i + 1))))
                  (.opt (s[(Int.toNat (IntKind.i64.wrap (i + 1)))]?) fun b7 => .br (isDigit (b7.toNat : Int))
                    (.leaf ((.tup [(.agg [(.d (.int .i64 0)), (.d (.str [])), (.d (.int .i64 0)), (.d (.int .i64 0))]), (.d (.int .i64 0)), (.d (.int .i64 1))]), []))
                    (.br (decide ((0 : Int) ≤ i ∧ i ≤ (IntKind.i64.wrap (i + 1)) ∧ (IntKind.i64.wrap (i + 1)) ≤ (s.length : Int)))
                      (.br (numsPre (List.drop (Int.toNat i) (List.take (Int.toNat (IntKind.i64.wrap (i + 1))) s)))
                        (.br ((accum 0 (List.drop (Int.toNat i) (List.take (Int.toNat (IntKind.i64.wrap (i + 1))) s))).isNone)
                          (.br true
                            (.leaf ((.tup [(.agg [(.d (.int .i64 0)), (.d (.str [])), (.d (.int .i64 0)), (.d (.int .i64 0))]), (.d (.int .i64 0)), (.d (.int .i64 3))]), []))
                            (.leaf ((.tup [(.agg [(.d (.int .i64 2)), (.d (.str [])), (.d (.int .i64 0)), (.d (.int .i64 i))]), (.d (.int .i64 (IntKind.i64.wrap (i + 1)))), (.d (.int .i64 0))]), [])))
                          (.opt (accum 0 (List.drop (Int.toNat i) (List.take (Int.toNat (IntKind.i64.wrap (i + 1))) s))) fun v8 => .br false
                            (.leaf ((.tup [(.agg [(.d (.int .i64 0)), (.d (.str [])), (.d (.int .i64 0)), (.d (.int .i64 0))]), (.d (.int .i64 0)), (.d (.int .i64 3))]), []))
                            (.leaf ((.tup [(.agg [(.d (.int .i64 2)), (.d (.str [])), (.d (.int .i64 v8)), (.d (.int .i64 i))]), (.d (.int .i64 (IntKind.i64.wrap (i + 1)))), (.d (.int .i64 0))]), []))))
                        (.fail))
                      (.fail)))
                  (.fail)))
              (.fail))
            (.br (decide ((0 : Int) ≤ i ∧ i ≤ (IntKind.i64.wrap (i + 1)) ∧ (IntKind.i64.wrap (i + 1)) ≤ (s.length : Int)))
              (.br (numsPre (List.drop (Int.toNat i) (List.take (Int.toNat (IntKind.i64.wrap (i + 1))) s)))
                (.br ((accum 0 (List.drop (Int.toNat i) (List.take (Int.toNat (IntKind.i64.wrap (i + 1))) s))).isNone)
                  (.br true
                    (.leaf ((.tup [(.agg [(.d (.int .i64 0)), (.d (.str [])), (.d (.int .i64 0)), (.d (.int .i64 0))]), (.d (.int .i64 0)), (.d (.int .i64 3))]), []))
                    (.leaf ((.tup [(.agg [(.d (.int .i64 2)), (.d (.str [])), (.d (.int .i64 0)), (.d (.int .i64 i))]), (.d (.int .i64 (IntKind.i64.wrap (i + 1)))), (.d (.int .i64 0))]), [])))
                  (.opt (accum 0 (List.drop (Int.toNat i) (List.take (Int.toNat (IntKind.i64.wrap (i + 1))) s))) fun v9 => .br false
                    (.leaf ((.tup [(.agg [(.d (.int .i64 0)), (.d (.str [])), (.d (.int .i64 0)), (.d (.int .i64 0))]), (.d (.int .i64 0)), (.d (.int .i64 3))]), []))
                    (.leaf ((.tup [(.agg [(.d (.int .i64 2)), (.d (.str [])), (.d (.int .i64 v9)), (.d (.int .i64 i))]), (.d (.int .i64 (IntKind.i64.wrap (i + 1)))), (.d (.int .i64 0))]), []))))
                (.fail))
              (.fail))))
        (.br (decide ((IntKind.i64.wrap (i + 1)) < (s.length : Int)))
          (.br (decide ((0 : Int) ≤ (IntKind.i64.wrap (i + 1))))
            (.opt (s[(Int.toNat (IntKind.i64.wrap (i + 1)))]?) fun b10 => .br (isDouble (b1.toNat : Int) (b10.toNat : Int))
              (.br (decide ((0 : Int) ≤ i ∧ i ≤ (IntKind.i64.wrap ((IntKind.i64.wrap (i + 1)) + 1)) ∧ (IntKind.i64.wrap ((IntKind.i64.wrap (i + 1)) + 1)) ≤ (s.length : Int)))
                (.leaf ((.tup [(.agg [(.d (.int .i64 3)), (.d (.str (List.drop (Int.toNat i) (List.take (Int.toNat (IntKind.i64.wrap ((IntKind.i64.wrap (i + 1)) + 1))) s)))), (.d (.int .i64 0)), (.d (.int .i64 i))]), (.d (.int .i64 (IntKind.i64.wrap ((IntKind.i64.wrap (i + 1)) + 1)))), (.d (.int .i64 0))]), []))
                (.fail))
              (.br (isSingle (b1.toNat : Int))
                (.br (decide ((0 : Int) ≤ i ∧ i ≤ (IntKind.i64.wrap (i + 1)) ∧ (IntKind.i64.wrap (i + 1)) ≤ (s.length : Int)))
                  (.leaf ((.tup [(.agg [(.d (.int .i64 3)), (.d (.str (List.drop (Int.toNat i) (List.take (Int.toNat (IntKind.i64.wrap (i + 1))) s)))), (.d (.int .i64 0)), (.d (.int .i64 i))]), (.d (.int .i64 (IntKind.i64.wrap (i + 1)))), (.d (.int .i64 0))]), []))
                  (.fail))
                (.leaf ((.tup [(.agg [(.d (.int .i64 0)), (.d (.str [])), (.d (.int .i64 0)), (.d (.int .i64 0))]), (.d (.int .i64 0)), (.d (.int .i64 1))]), []))))
            (.fail))
          (.br (isSingle (b1.toNat : Int))
            (.br (decide ((0 : Int) ≤ i ∧ i ≤ (IntKind.i64.wrap (i + 1)) ∧ (IntKind.i64.wrap (i + 1)) ≤ (s.length : Int)))
              (.leaf ((.tup [(.agg [(.d (.int .i64 3)), (.d (.str (List.drop (Int.toNat i) (List.take (Int.toNat (IntKind.i64.wrap (i + 1))) s)))), (.d (.int .i64 0)), (.d (.int .i64 i))]), (.d (.int .i64 (IntKind.i64.wrap (i + 1)))), (.d (.int .i64 0))]), []))
              (.fail))
            (.leaf ((.tup [(.agg [(.d (.int .i64 0)), (.d (.str [])), (.d (.int .i64 0)), (.d (.int .i64 0))]), (.d (.int .i64 0)), (.d (.int .i64 1))]), []))))))
    (.fail) : Tr (AV × Hp)) := by kernel_rfl



theorem sum_rone_0 : SumOK Try.prog gl (ann 17) L_rone_0 (.loop l_rone_0) := by
  refine SumOK.of_inv (X := Xrone) (xok_Xrone 17) (by simp only [Sums, l_rone_0, and_true]) (by kernel_rfl) (lv := [0, 1, 4, 8]) (rt := [4, 5, 6]) (xs := [(0, [4]), (1, [0, 1, 4, 8])]) (by decide)
    (fun m st r => ∃ (s : List UInt8) (a : Int) (n : Nat), n ≤ s.length ∧ (s.length : Int) ≤ big ∧ st = ⟨[(0, .d (.str s)), (1, .d (.int .i64 a)), (4, ztok), (8, .d (.int .i64 (n : Int)))], []⟩ ∧ r = (.ext 1, ⟨[(0, .d (.str s)), (1, .d (.int .i64 a)), (4, ztok), (8, .d (.int .i64 ((n : Int) + (pre isWord (s.drop n) : Int))))], []⟩) ∧ m = s.length - n) ?_ ?_
  · intro st r h
    unfold L_rone_0 at h
    split at h
    · rename_i s a n
      rcases Tr.br_some h with ⟨h1, h2⟩ | ⟨_, h2⟩
      · obtain ⟨h3, h4, h5⟩ := of_decide_eq_true h1
        obtain rfl := Tr.leaf_some h2
        obtain ⟨k, rfl⟩ := Int.eq_ofNat_of_zero_le h3
        exact ⟨_, s, a, k, by omega, h5, rfl, by simp, rfl⟩
      · exact Tr.fail_some h2
    · exact Tr.fail_some h
  · rintro m st r ⟨s, a, n, h1, h2, rfl, rfl, rfl⟩
    rw [body_rone_0]
    have hw : n < s.length → IntKind.i64.wrap ((n : Int) + 1) = ((n + 1 : Nat) : Int) := fun h => by unfold big at h2; rw [wrap_in] <;> omega
    cases hb : s[n]? with
    | none =>
      have hl : s.length ≤ n := by simpa using hb
      rw [List.drop_eq_nil_of_le hl]
      refine ⟨.ext 1, _, Tr.dec_no (by omega) rfl, .inl ⟨by simp, by simp [pre_nil]⟩⟩
    | some b =>
      have hl := at_len hb
      have h3 : ((n : Int) < s.length) := by omega
      cases hp : isWord b with
      | true =>
        refine ⟨.nrm, ⟨[(0, .d (.str s)), (1, .d (.int .i64 a)), (4, ztok), (8, .d (.int .i64 ((n + 1 : Nat) : Int)))], []⟩, ?_, .inr ⟨rfl, _, ?_, s, a, n + 1, by omega, h2, rfl, ?_, rfl⟩⟩
        · cases h4 : isLetter (b.toNat : Int) <;> cases h5 : isDigit (b.toNat : Int) <;> simp [Tr.run_br, Tr.run_leaf, Tr.run_opt_, h3, hb, h4, h5, hw hl] <;> simp [isWord, isLet, isDig, h4, h5] at hp
        · omega
        · rw [pre_at_yes hb hp]; simp; omega
      | false =>
        rw [pre_at_no hb hp]
        refine ⟨.ext 1, _, ?_, .inl ⟨by simp, rfl⟩⟩
        cases h4 : isLetter (b.toNat : Int) <;> cases h5 : isDigit (b.toNat : Int) <;> simp [Tr.run_br, Tr.run_leaf, Tr.run_opt_, h3, hb, h4, h5] <;> simp [isWord, isLet, isDig, h4, h5] at hp


theorem sum_rone_1 : SumOK Try.prog gl (ann 17) L_rone_1 (.loop l_rone_1) := by
  refine SumOK.of_inv (X := Xrone) (xok_Xrone 17) (by simp only [Sums, l_rone_1, and_true]) (by kernel_rfl) (lv := [0, 1, 4, 8]) (rt := [4, 5, 6]) (xs := [(0, [4]), (3, [0, 1, 4, 8])]) (by decide)
    (fun m st r => ∃ (s : List UInt8) (a : Int) (n : Nat), n ≤ s.length ∧ (s.length : Int) ≤ big ∧ st = ⟨[(0, .d (.str s)), (1, .d (.int .i64 a)), (4, ztok), (8, .d (.int .i64 (n : Int)))], []⟩ ∧ r = (.ext 3, ⟨[(0, .d (.str s)), (1, .d (.int .i64 a)), (4, ztok), (8, .d (.int .i64 ((n : Int) + (pre isDig (s.drop n) : Int))))], []⟩) ∧ m = s.length - n) ?_ ?_
  · intro st r h
    unfold L_rone_1 at h
    split at h
    · rename_i s a n
      rcases Tr.br_some h with ⟨h1, h2⟩ | ⟨_, h2⟩
      · obtain ⟨h3, h4, h5⟩ := of_decide_eq_true h1
        obtain rfl := Tr.leaf_some h2
        obtain ⟨k, rfl⟩ := Int.eq_ofNat_of_zero_le h3
        exact ⟨_, s, a, k, by omega, h5, rfl, by simp, rfl⟩
      · exact Tr.fail_some h2
    · exact Tr.fail_some h
  · rintro m st r ⟨s, a, n, h1, h2, rfl, rfl, rfl⟩
    rw [body_rone_1]
    have hw : n < s.length → IntKind.i64.wrap ((n : Int) + 1) = ((n + 1 : Nat) : Int) := fun h => by unfold big at h2; rw [wrap_in] <;> omega
    cases hb : s[n]? with
    | none =>
      have hl : s.length ≤ n := by simpa using hb
      rw [List.drop_eq_nil_of_le hl]
      refine ⟨.ext 3, _, Tr.dec_no (by omega) rfl, .inl ⟨by simp, by simp [pre_nil]⟩⟩
    | some b =>
      have hl := at_len hb
      have h3 : ((n : Int) < s.length) := by omega
      cases hp : isDig b with
      | true =>
        refine ⟨.nrm, ⟨[(0, .d (.str s)), (1, .d (.int .i64 a)), (4, ztok), (8, .d (.int .i64 ((n + 1 : Nat) : Int)))], []⟩, ?_, .inr ⟨rfl, _, ?_, s, a, n + 1, by omega, h2, rfl, ?_, rfl⟩⟩
        · cases h4 : isLetter (b.toNat : Int) <;> cases h5 : isDigit (b.toNat : Int) <;> simp [Tr.run_br, Tr.run_leaf, Tr.run_opt_, h3, hb, h4, h5, hw hl] <;> simp [isWord, isLet, isDig, h4, h5] at hp
        · omega
        · rw [pre_at_yes hb hp]; simp; omega
      | false =>
        rw [pre_at_no hb hp]
        refine ⟨.ext 3, _, ?_, .inl ⟨by simp, rfl⟩⟩
        cases h4 : isLetter (b.toNat : Int) <;> cases h5 : isDigit (b.toNat : Int) <;> simp [Tr.run_br, Tr.run_leaf, Tr.run_opt_, h3, hb, h4, h5] <;> simp [isWord, isLet, isDig, h4, h5] at hp


theorem lead_at {s : List UInt8} {k : Nat} {c : UInt8} (h : s[k]? = some c) : numLen (s.drop k) = if c = 48 then 1 else 1 + pre isDig (s.drop (k + 1)) := by
  rw [drop_at h]
  simp only [numLen, lead, List.head?_cons, Option.some.injEq, List.drop_one, List.tail_cons]
  split <;> rfl

theorem take_from {s : List UInt8} {k n : Nat} : (s.take (k + n)).drop k = (s.drop k).take n := by
  rw [List.drop_take]; congr 1; omega

theorem sign_ref (c d : Int) : signI c d = if isDouble c d = true then 2 else if isSingle c = true then 1 else 0 := by
  simp only [signI, isDouble, isSingle, signs, List.any_cons, List.any_nil, Bool.or_false, Bool.or_eq_true, decide_eq_true_eq]
  simp only [show ((40 : UInt8).toNat : Int) = 40 from rfl, show ((41 : UInt8).toNat : Int) = 41 from rfl, show ((123 : UInt8).toNat : Int) = 123 from rfl, show ((125 : UInt8).toNat : Int) = 125 from rfl, show ((91 : UInt8).toNat : Int) = 91 from rfl, show ((93 : UInt8).toNat : Int) = 93 from rfl, show ((44 : UInt8).toNat : Int) = 44 from rfl, show ((59 : UInt8).toNat : Int) = 59 from rfl, show ((61 : UInt8).toNat : Int) = 61 from rfl, show ((60 : UInt8).toNat : Int) = 60 from rfl, show ((62 : UInt8).toNat : Int) = 62 from rfl, show ((43 : UInt8).toNat : Int) = 43 from rfl, show ((45 : UInt8).toNat : Int) = 45 from rfl, show ((42 : UInt8).toNat : Int) = 42 from rfl, show ((47 : UInt8).toNat : Int) = 47 from rfl, show ((37 : UInt8).toNat : Int) = 37 from rfl, show ((33 : UInt8).toNat : Int) = 33 from rfl]
  refine ite_to (fun h1 => ite_to (fun h2 => ?_) (fun h2 => ?_)) (fun h1 => ite_to (fun h2 => ite_to (fun h3 => ?_) (fun h3 => ?_)) (fun h2 => ite_to (fun h3 => ?_) (fun h3 => ?_)))
  all_goals symm
  all_goals (refine ite_to (fun h4 => ?_) (fun h4 => ite_to (fun h5 => ?_) (fun h5 => ?_)))
  all_goals omega

theorem ok_rone : FnOK Try.prog gl 17 roneT := by
  refine fn_of (X := Xrone) (xok_Xrone 17) Try.func17 c_rone_eq (by kernel_rfl) (by simp only [Sums, c_rone, and_true, true_and]; exact ⟨sum_rone_0, sum_rone_1⟩) ?_
  intro xs H o h
  unfold roneT at h
  split at h
  · rw [tree_rone]
    rcases Tr.br_some h with ⟨h1, h2⟩ | ⟨_, h2⟩
    · obtain rfl := Tr.leaf_some h2
      rename_i s i
      obtain ⟨h3, h4, h5⟩ := of_decide_eq_true h1
      clear h h1 h2
      obtain ⟨k, rfl⟩ := Int.eq_ofNat_of_zero_le h3
      have hk : k < s.length := by omega
      obtain ⟨c, hb⟩ : ∃ c, s[k]? = some c := ⟨s[k], List.getElem?_eq_getElem hk⟩
      have w1 : IntKind.i64.wrap ((k : Int) + 1) = ((k + 1 : Nat) : Int) := by unfold big at h5; rw [wrap_in] <;> omega
      have w2 : IntKind.i64.wrap (((k + 1 : Nat) : Int) + 1) = ((k + 2 : Nat) : Int) := by unfold big at h5; rw [wrap_in] <;> omega
      simp only [Int.ofNat_eq_natCast, w1, w2, ← Int.natCast_add, Int.toNat_natCast, hb]
      refine Tr.dec_yes (by omega) (Tr.opt_to rfl ?_)
      have g1 : (0 : Int) ≤ ((k + 1 : Nat) : Int) ∧ ((k + 1 : Nat) : Int) ≤ (s.length : Int) ∧ (s.length : Int) ≤ big := ⟨by omega, by omega, h5⟩
      cases hl : isLetter (c.toNat : Int) with
      | true =>
        have hp := pre_at_yes hb (isWord_of_let (c := c) hl)
        have hle := pre_le isWord (s.drop k)
        rw [List.length_drop] at hle
        have hone : oneRes (s.drop k) = if 16 < pre isWord (s.drop k) then ⟨0, [], 0, 0, 5⟩ else ⟨1, (s.drop k).take (pre isWord (s.drop k)), 0, pre isWord (s.drop k), 0⟩ := by
          rw [drop_at hb]; simp [oneRes, isLet, hl]
        rw [Tr.run_yes rfl]
        refine Tr.dec_yes g1 ?_
        have e : k + 1 + pre isWord (s.drop (k + 1)) = k + pre isWord (s.drop k) := by omega
        rw [e, hone, take_from]
        have w3 : IntKind.i64.wrap (((k + pre isWord (s.drop k) : Nat) : Int) - (k : Int)) = ((pre isWord (s.drop k) : Nat) : Int) := by unfold big at h5; rw [wrap_in] <;> omega
        rw [w3]
        by_cases hn : 16 < pre isWord (s.drop k)
        · rw [if_pos hn]
          exact Tr.dec_yes (by omega) rfl
        · rw [if_neg hn]
          refine Tr.dec_no (by omega) (Tr.dec_yes ⟨by omega, by omega, by omega⟩ ?_)
          simp [Tr.run_leaf, rAt]
      | false =>
        rw [Tr.run_no rfl]
        cases hd' : isDigit (c.toNat : Int) with
        | true =>
          have hd : isDig c = true := hd'
          rw [Tr.run_yes rfl]
          have hnl0 := lead_at hb
          by_cases h48 : c = 48
          · rw [if_pos h48] at hnl0
            have h48' : (c.toNat : Int) = 48 := by rw [h48]; rfl
            rw [Tr.run_no (by simp [h48'])]
            have hn : numLen (s.drop k) = 1 := hnl0
            generalize h1n : (1 : Nat) = n at hn
            have hres := num_fin (s.drop k) n
            have hdg := take_digs (s := s.drop k) (drop_at hb) hd
            have hnl := lead_le (s := s.drop k) (by rw [List.length_drop]; omega)
            rw [hn] at hdg hnl
            rw [List.length_drop] at hnl
            have hnp : numsPre ((s.drop k).take n) = true := by
              simp only [numsPre, Bool.and_eq_true, decide_eq_true_eq]
              exact ⟨by rw [List.length_take, List.length_drop]; unfold big at *; omega, hdg⟩
            simp only [take_from, hnp]
            have hfin : ∀ t : Tr (AV × Hp), (Tr.br (decide ((0 : Int) ≤ (k : Int) ∧ (k : Int) ≤ ((k + n : Nat) : Int) ∧ ((k + n : Nat) : Int) ≤ (s.length : Int))) t .fail).run = t.run := fun t => Tr.run_yes (decide_eq_true ⟨by omega, by omega, by omega⟩)
            have hw2 : wordAt (s.drop k) n = match s[k + n]? with | some b => isWord b | none => false := by unfold wordAt; rw [List.getElem?_drop]; cases s[k + n]? <;> rfl
            have hone : oneRes (s.drop k) = if (match s[k + n]? with | some b => isWord b | none => false) = true then ⟨0, [], 0, 0, 1⟩ else match accum 0 ((s.drop k).take n) with | none => ⟨0, [], 0, 0, 3⟩ | some v => ⟨2, [], v, n, 0⟩ := by
              have hh : oneRes (s.drop k) = numRes (s.drop k) := by rw [drop_at hb]; simp [oneRes, isLet, isDig, hl, show isDigit (c.toNat : Int) = true from hd]
              rw [hh]; unfold numRes; rw [hn, hw2]; rfl
            cases hbn : s[k + n]? with
            | none =>
              have hge : ¬ (((k + n : Nat) : Int) < (s.length : Int)) := by
                have : s.length ≤ k + n := by simpa using hbn
                omega
              simp only [hbn] at hone
              simp only [Bool.false_eq_true, if_false] at hone
              rw [hone]
              refine Tr.dec_no hge ?_
              rw [hfin, Tr.run_yes rfl]
              cases accum 0 ((s.drop k).take n) with
              | none => rfl
              | some v => simp [Tr.run_br, Tr.run_leaf, Tr.run_opt_, rAt]; try omega
            | some b =>
              have hlt : (((k + n : Nat) : Int) < (s.length : Int)) := by have := at_len hbn; omega
              simp only [hbn] at hone
              refine Tr.dec_yes hlt (Tr.dec_yes (by omega) (Tr.opt_to rfl ?_))
              cases hbl : isLetter (b.toNat : Int) with
              | true =>
                rw [show isWord b = true by simp [isWord, isLet, hbl]] at hone
                simp only [if_true] at hone
                rw [hone]; rfl
              | false =>
                rw [Tr.run_no rfl]
                refine Tr.dec_yes (by omega) (Tr.opt_to rfl ?_)
                cases hbd : isDigit (b.toNat : Int) with
                | true =>
                  rw [show isWord b = true by simp [isWord, isDig, hbd]] at hone
                  simp only [if_true] at hone
                  rw [hone]; rfl
                | false =>
                  rw [show isWord b = false by simp [isWord, isLet, isDig, hbl, hbd]] at hone
                  simp only [Bool.false_eq_true, if_false] at hone
                  rw [hone, Tr.run_no rfl, hfin, Tr.run_yes rfl]
                  cases accum 0 ((s.drop k).take n) with
                  | none => rfl
                  | some v => simp [Tr.run_br, Tr.run_leaf, Tr.run_opt_, rAt]; try omega
          · rw [if_neg h48] at hnl0
            have h48' : ¬ (c.toNat : Int) = 48 := byte_ne (n := 48) (by decide) h48
            rw [Tr.run_yes (by simp [h48'])]
            refine Tr.dec_yes g1 ?_
            rw [Nat.add_assoc]
            generalize hn' : 1 + pre isDig (s.drop (k + 1)) = n
            have hn : numLen (s.drop k) = n := by rw [hnl0, hn']
            have hres := num_fin (s.drop k) n
            have hdg := take_digs (s := s.drop k) (drop_at hb) hd
            have hnl := lead_le (s := s.drop k) (by rw [List.length_drop]; omega)
            rw [hn] at hdg hnl
            rw [List.length_drop] at hnl
            have hnp : numsPre ((s.drop k).take n) = true := by
              simp only [numsPre, Bool.and_eq_true, decide_eq_true_eq]
              exact ⟨by rw [List.length_take, List.length_drop]; unfold big at *; omega, hdg⟩
            simp only [take_from, hnp]
            have hfin : ∀ t : Tr (AV × Hp), (Tr.br (decide ((0 : Int) ≤ (k : Int) ∧ (k : Int) ≤ ((k + n : Nat) : Int) ∧ ((k + n : Nat) : Int) ≤ (s.length : Int))) t .fail).run = t.run := fun t => Tr.run_yes (decide_eq_true ⟨by omega, by omega, by omega⟩)
            have hw2 : wordAt (s.drop k) n = match s[k + n]? with | some b => isWord b | none => false := by unfold wordAt; rw [List.getElem?_drop]; cases s[k + n]? <;> rfl
            have hone : oneRes (s.drop k) = if (match s[k + n]? with | some b => isWord b | none => false) = true then ⟨0, [], 0, 0, 1⟩ else match accum 0 ((s.drop k).take n) with | none => ⟨0, [], 0, 0, 3⟩ | some v => ⟨2, [], v, n, 0⟩ := by
              have hh : oneRes (s.drop k) = numRes (s.drop k) := by rw [drop_at hb]; simp [oneRes, isLet, isDig, hl, show isDigit (c.toNat : Int) = true from hd]
              rw [hh]; unfold numRes; rw [hn, hw2]; rfl
            cases hbn : s[k + n]? with
            | none =>
              have hge : ¬ (((k + n : Nat) : Int) < (s.length : Int)) := by
                have : s.length ≤ k + n := by simpa using hbn
                omega
              simp only [hbn] at hone
              simp only [Bool.false_eq_true, if_false] at hone
              rw [hone]
              refine Tr.dec_no hge ?_
              rw [hfin, Tr.run_yes rfl]
              cases accum 0 ((s.drop k).take n) with
              | none => rfl
              | some v => simp [Tr.run_br, Tr.run_leaf, Tr.run_opt_, rAt]; try omega
            | some b =>
              have hlt : (((k + n : Nat) : Int) < (s.length : Int)) := by have := at_len hbn; omega
              simp only [hbn] at hone
              refine Tr.dec_yes hlt (Tr.dec_yes (by omega) (Tr.opt_to rfl ?_))
              cases hbl : isLetter (b.toNat : Int) with
              | true =>
                rw [show isWord b = true by simp [isWord, isLet, hbl]] at hone
                simp only [if_true] at hone
                rw [hone]; rfl
              | false =>
                rw [Tr.run_no rfl]
                refine Tr.dec_yes (by omega) (Tr.opt_to rfl ?_)
                cases hbd : isDigit (b.toNat : Int) with
                | true =>
                  rw [show isWord b = true by simp [isWord, isDig, hbd]] at hone
                  simp only [if_true] at hone
                  rw [hone]; rfl
                | false =>
                  rw [show isWord b = false by simp [isWord, isLet, isDig, hbl, hbd]] at hone
                  simp only [Bool.false_eq_true, if_false] at hone
                  rw [hone, Tr.run_no rfl, hfin, Tr.run_yes rfl]
                  cases accum 0 ((s.drop k).take n) with
                  | none => rfl
                  | some v => simp [Tr.run_br, Tr.run_leaf, Tr.run_opt_, rAt]; try omega
        | false =>
          rw [Tr.run_no rfl]
          have hone : oneRes (s.drop k) = if signI (c.toNat : Int) (second (s.drop (k + 1))) = 0 then ⟨0, [], 0, 0, 1⟩ else ⟨3, (s.drop k).take (signI (c.toNat : Int) (second (s.drop (k + 1)))).toNat, 0, signI (c.toNat : Int) (second (s.drop (k + 1))), 0⟩ := by
            rw [drop_at hb]; simp [oneRes, isLet, isDig, hl, hd', signLen]; rfl
          rw [sign_ref] at hone
          cases hbn : s[k + 1]? with
          | none =>
            have hge : ¬ (((k + 1 : Nat) : Int) < (s.length : Int)) := by
              have : s.length ≤ k + 1 := by simpa using hbn
              omega
            have hs2 : second (s.drop (k + 1)) = 0 := by rw [List.drop_eq_nil_of_le (by omega)]; rfl
            rw [hs2] at hone
            have hdb : isDouble (c.toNat : Int) 0 = false := by simp [isDouble]
            rw [hdb] at hone
            refine Tr.dec_no hge ?_
            cases hsg : isSingle (c.toNat : Int) with
            | true =>
              rw [hsg] at hone
              simp only [Bool.false_eq_true, if_false, if_true, show ¬ ((1 : Int) = 0) by decide, show (1 : Int).toNat = 1 from rfl] at hone
              rw [hone, Tr.run_yes rfl, take_from]
              refine Tr.dec_yes ⟨by omega, by omega, by omega⟩ ?_
              simp [Tr.run_leaf, rAt]
            | false =>
              rw [hsg] at hone
              simp only [Bool.false_eq_true, if_false, if_true] at hone
              rw [hone]; rfl
          | some d =>
            have hlt : (((k + 1 : Nat) : Int) < (s.length : Int)) := by have := at_len hbn; omega
            have hs2 : second (s.drop (k + 1)) = (d.toNat : Int) := by rw [drop_at hbn]; rfl
            rw [hs2] at hone
            refine Tr.dec_yes hlt (Tr.dec_yes (by omega) (Tr.opt_to rfl ?_))
            cases hdb : isDouble (c.toNat : Int) (d.toNat : Int) with
            | true =>
              rw [hdb] at hone
              simp only [if_true, show ¬ ((2 : Int) = 0) by decide, if_false, show (2 : Int).toNat = 2 from rfl] at hone
              rw [hone, Tr.run_yes rfl, take_from]
              refine Tr.dec_yes ⟨by omega, by omega, by omega⟩ ?_
              simp [Tr.run_leaf, rAt]
            | false =>
              rw [hdb] at hone
              rw [Tr.run_no rfl]
              cases hsg : isSingle (c.toNat : Int) with
              | true =>
                rw [hsg] at hone
                simp only [Bool.false_eq_true, if_false, if_true, show ¬ ((1 : Int) = 0) by decide, show (1 : Int).toNat = 1 from rfl] at hone
                rw [hone, Tr.run_yes rfl, take_from]
                refine Tr.dec_yes ⟨by omega, by omega, by omega⟩ ?_
                simp [Tr.run_leaf, rAt]
              | false =>
                rw [hsg] at hone
                simp only [Bool.false_eq_true, if_false, if_true] at hone
                rw [hone]; rfl
    · exact Tr.fail_some h2
  · exact Tr.fail_some h

end Go.AI.TK
