/- ResolveLimits, in sum. -/
import Derived.Test.YtolbinhdmenekaaRkF
namespace Go.AI.RK
open Go Go.Proofs
set_option maxRecDepth 10000
set_option linter.unusedVariables false
set_option linter.unusedSimpArgs false

def abc : List UInt8 := [97, 98, 99, 100, 101, 102, 103, 104, 105, 106, 107, 108, 109, 110, 111, 112, 113, 114, 115, 116]
def nthVar (i : Nat) : Var := ⟨[118] ++ (abc.take (i + 1)).drop i, 0, i⟩
def vlist (m : Nat) : List Var := (List.range m).map nthVar
noncomputable abbrev Xlm : TX := ⟨Try.prog, tbl [(5, awakeT), (9, resolveT)], iso, gl, vw⟩

theorem xok_Xlm (f : Nat) : XOK Xlm (ann f) gl := XOK.of base (l := [(5, awakeT), (9, resolveT)]) ⟨ok_awake, ok_resolve, trivial⟩ f

def L_limits_0 : ST → Tr (Ex × ST)
  | ⟨[(1, .d (.bool b)), (5, .d (.int .i64 k)), (6, .box [.osl 3 [], .osl 18 [], .osl 18 [], .osl 18 [], .osl 18 []]), (7, .d (.int .i64 e)), (8, .d (.int .i64 i))], []⟩ => .br (decide (i = 0 ∧ 0 ≤ k ∧ k < 40)) (.leaf ((.ext 0), ⟨[(1, .d (.bool b)), (5, .d (.int .i64 k)), (6, .box [.osl 3 ((vlist (k.toNat % 20)).map encVar), .osl 18 [], .osl 18 [], .osl 18 [], .osl 18 []]), (7, .d (.int .i64 e))], []⟩)) .fail
  | _ => .fail

def limitsT : FT
  | [.d (.int .u8 n), .d (.bool b)], [] => .br (decide (0 ≤ n ∧ n < 256)) (.leaf (.d (.bool true), [])) .fail
  | _, _ => .fail

def l_limits_0 : CC := .seq (.seq (.region [
    ⟨.yes, (some 26), .move (.tmp 8), false, false, []⟩,
    ⟨.yes, (some 27), .move (.tmp 5), false, false, []⟩,
    ⟨.yes, (some 28), .binOp .rem 3 (.tmp 27) (.const (.int .i64 (20))) 3, false, false, []⟩,
    ⟨.yes, (some 29), .binOp .lss 3 (.tmp 26) (.tmp 28) 3, false, false, []⟩] [1, 5, 6, 7, 8, 29]) <|
  .cond (.tmp 29)
    (.skip)
    (.exit 0)) <|
  .seq (.block 1 <| .drawn ⟨[1, 8, 10, 12], [], [1, 5, 6, 7, 8]⟩ [
    ⟨(some 32), .fieldAddr 32 (.tmp 6) 0, 0, "law.go:192", #[], none⟩,
    ⟨(some 33), .load 22 (.tmp 32), 22, "law.go:192", #[⟨0, .data⟩], none⟩,
    ⟨(some 34), .move (.tmp 8), 3, "law.go:192", #[], none⟩,
    ⟨(some 35), .move (.tmp 8), 3, "law.go:192", #[], none⟩,
    ⟨(some 36), .binOp .add 3 (.tmp 35) (.const (.int .i64 (1))) 3, 3, "law.go:192", #[⟨3, .data⟩], none⟩,
    ⟨(some 37), .slice 9 (.const (.string ⟨#[97, 98, 99, 100, 101, 102, 103, 104, 105, 106, 107, 108, 109, 110, 111, 112, 113, 114, 115, 116]⟩)) (some (.tmp 34)) (some (.tmp 36)) none, 9, "law.go:192", #[⟨2, .data⟩, ⟨4, .data⟩], none⟩,
    ⟨(some 38), .binOp .add 9 (.const (.string ⟨#[118]⟩)) (.tmp 37) 9, 9, "law.go:192", #[⟨5, .data⟩], none⟩,
    ⟨(some 39), .move (.tmp 8), 3, "law.go:192", #[], none⟩,
    ⟨(some 40), .build 25 #[(0, (.tmp 38)), (2, (.tmp 39))], 25, "law.go:192", #[⟨6, .data⟩, ⟨7, .data⟩], none⟩,
    ⟨(some 41), .buildSlice 22 1 #[(0, (.tmp 40))], 22, "law.go:192", #[⟨8, .data⟩], none⟩,
    ⟨(some 42), .call ⟨.builtin .append, #[(.tmp 33), (.tmp 41)], #[22, 22]⟩, 22, "law.go:192", #[⟨1, .data⟩, ⟨9, .data⟩], none⟩,
    ⟨(some 43), .fieldAddr 32 (.tmp 6) 0, 0, "law.go:192", #[⟨0, .phase⟩, ⟨1, .phase⟩, ⟨2, .phase⟩, ⟨3, .phase⟩, ⟨4, .phase⟩, ⟨5, .phase⟩, ⟨6, .phase⟩, ⟨7, .phase⟩, ⟨8, .phase⟩, ⟨9, .phase⟩, ⟨10, .phase⟩], none⟩,
    ⟨none, .store 22 (.tmp 43) (.tmp 42), 0, "law.go:192", #[⟨11, .data⟩, ⟨10, .data⟩, ⟨10, .chain⟩, ⟨0, .phase⟩, ⟨1, .phase⟩, ⟨2, .phase⟩, ⟨3, .phase⟩, ⟨4, .phase⟩, ⟨5, .phase⟩, ⟨6, .phase⟩, ⟨7, .phase⟩, ⟨8, .phase⟩, ⟨9, .phase⟩, ⟨10, .phase⟩], none⟩]) <|
  .region [
    ⟨.yes, (some 30), .move (.tmp 8), true, false, []⟩,
    ⟨.yes, (some 31), .binOp .add 3 (.tmp 30) (.const (.int .i64 (1))) 3, false, false, []⟩,
    ⟨.yes, (some 8), .assign (.tmp 31), true, false, []⟩] [1, 5, 6, 7, 8]

/-- rollbacknet/rollbacknetlaw03.ResolveLimits -/
def c_limits : CC := .seq (.region [
    ⟨.yes, (some 4), .assign (.const (.bool false)), false, false, []⟩] [0, 1]) <|
  .seq (.seq (.region [
    ⟨.yes, (some 11), .call ⟨.value (.func 5), #[], #[]⟩, false, false, []⟩,
    ⟨.yes, (some 12), .unOp .not 4 (.tmp 11), false, false, []⟩] [0, 1, 12]) <|
  .cond (.tmp 12)
    (.seq (.region [
      ⟨.yes, (some 4), .assign (.const (.bool false)), false, false, []⟩] [4]) <|
    .ret)
    (.skip)) <|
  .seq (.region [
    ⟨.yes, (some 13), .move (.tmp 0), true, false, []⟩,
    ⟨.yes, (some 14), .convert 5 3 (.tmp 13), false, false, []⟩,
    ⟨.yes, (some 15), .binOp .rem 3 (.tmp 14) (.const (.int .i64 (40))) 3, false, false, []⟩,
    ⟨.yes, (some 5), .assign (.tmp 15), true, false, []⟩] [1, 5]) <|
  .seq (.region [
    ⟨.yes, (some 6), .alloc 32, false, false, []⟩] [1, 5, 6]) <|
  .seq (.region [
    ⟨.yes, (some 7), .assign (.const (.int .i64 (0))), false, false, []⟩] [1, 5, 6, 7]) <|
  .seq (.seq (.region [
    ⟨.yes, (some 16), .move (.tmp 1), false, false, []⟩] [1, 5, 6, 7, 16]) <|
  .cond (.tmp 16)
    (.seq (.region [
      ⟨.yes, (some 17), .move (.tmp 5), false, false, []⟩,
      ⟨.yes, (some 18), .binOp .add 3 (.const (.int .i64 (1))) (.tmp 17) 3, false, false, []⟩,
      ⟨.yes, (some 19), .build 25 #[(0, (.const (.string ⟨#[97]⟩))), (1, (.tmp 18))], true, false, []⟩,
      ⟨.yes, (some 20), .build 25 #[(0, (.const (.string ⟨#[120]⟩)))], false, false, []⟩,
      ⟨.yes, (some 21), .buildSlice 22 2 #[(0, (.tmp 19)), (1, (.tmp 20))], false, false, [(some 3)]⟩,
      ⟨.yes, (some 22), .fieldAddr 32 (.tmp 6) 0, false, false, []⟩,
      ⟨.yes, none, .store 22 (.tmp 22) (.tmp 21), true, false, []⟩] [1, 5, 6, 7]) <|
    .seq (.region [
      ⟨.yes, (some 23), .move (.tmp 5), false, false, []⟩,
      ⟨.yes, (some 24), .binOp .add 3 (.const (.int .i64 (2))) (.tmp 23) 3, false, false, []⟩,
      ⟨.yes, (some 25), .binOp .gtr 3 (.tmp 24) (.const (.int .i64 (32))) 3, false, false, []⟩] [1, 5, 6, 7, 25]) <|
    .cond (.tmp 25)
      (.region [
        ⟨.yes, (some 7), .assign (.const (.int .i64 (4))), false, false, []⟩] [1, 5, 6, 7])
      (.skip))
    (.seq (.seq (.region [
      ⟨.yes, (some 8), .assign (.const (.int .i64 (0))), false, false, []⟩] [1, 5, 6, 7, 8]) <|
    .block 0 <| .keep [1, 5, 6, 7, 8] <| .sum L_limits_0 (.loop l_limits_0)) <|
    .seq (.region [
      ⟨.yes, (some 44), .move (.tmp 5), false, false, []⟩,
      ⟨.yes, (some 45), .binOp .rem 3 (.tmp 44) (.const (.int .i64 (20))) 3, false, false, []⟩,
      ⟨.yes, (some 46), .binOp .gtr 3 (.tmp 45) (.const (.int .i64 (16))) 3, false, false, []⟩] [1, 5, 6, 7, 46]) <|
    .cond (.tmp 46)
      (.region [
        ⟨.yes, (some 7), .assign (.const (.int .i64 (4))), false, false, []⟩] [1, 5, 6, 7])
      (.skip))) <|
  .seq (.region [
    ⟨.yes, (some 48), .load 32 (.tmp 6), false, false, [(some 3), (some 18), (some 18), (some 18), (some 18)]⟩,
    ⟨.yes, (some 49), .call ⟨.value (.func 9), #[(.tmp 48)], #[32]⟩, false, false, []⟩,
    ⟨.yes, (some 47), .move (.tmp 49), true, false, []⟩,
    ⟨.yes, (some 50), .extract (.tmp 47) 0, false, false, [(some 1), (some 18), (some 18), (some 18), (some 18)]⟩,
    ⟨.yes, (some 51), .extract (.tmp 47) 1, false, false, []⟩,
    ⟨.yes, (some 9), .alloc 36, false, false, []⟩,
    ⟨.yes, none, .store 36 (.tmp 9) (.tmp 50), true, false, []⟩,
    ⟨.yes, (some 10), .assign (.tmp 51), true, false, []⟩] [1, 5, 7, 9, 10]) <|
  .seq (.seq (.region [
    ⟨.yes, (some 52), .move (.tmp 10), false, false, []⟩,
    ⟨.yes, (some 53), .move (.tmp 7), false, false, []⟩,
    ⟨.yes, (some 54), .binOp .neq 33 (.tmp 52) (.tmp 53) 33, false, false, []⟩,
    ⟨.yes, (some 55), .move (.tmp 54), true, false, []⟩,
    ⟨(.on 55 false), (some 56), .move (.tmp 10), false, false, []⟩,
    ⟨(.on 55 false), (some 57), .binOp .neq 33 (.tmp 56) (.const (.int .i64 (0))) 33, false, false, []⟩,
    ⟨.yes, (some 58), .pick (.tmp 55) (.const (.bool true)) (.tmp 57), false, false, []⟩] [1, 5, 7, 9, 10, 58]) <|
  .cond (.tmp 58)
    (.seq (.region [
      ⟨.yes, (some 59), .move (.tmp 10), true, false, []⟩,
      ⟨.yes, (some 60), .move (.tmp 7), true, false, []⟩,
      ⟨.yes, (some 61), .binOp .eql 33 (.tmp 59) (.tmp 60) 33, false, false, []⟩,
      ⟨.yes, (some 62), .move (.tmp 61), true, false, []⟩,
      ⟨(.on 62 true), (some 63), .fieldAddr 36 (.tmp 9) 0, false, false, []⟩,
      ⟨(.on 62 true), (some 64), .load 34 (.tmp 63), false, false, [(some 1)]⟩,
      ⟨(.on 62 true), (some 65), .call ⟨.builtin .len, #[(.tmp 64)], #[34]⟩, false, false, []⟩,
      ⟨(.on 62 true), (some 66), .binOp .eql 3 (.tmp 65) (.const (.int .i64 (0))) 3, false, false, []⟩,
      ⟨.yes, (some 67), .pick (.tmp 62) (.tmp 66) (.const (.bool false)), false, false, []⟩,
      ⟨.yes, (some 4), .assign (.tmp 67), true, false, []⟩] [4]) <|
    .ret)
    (.skip)) <|
  .seq (.region [
    ⟨.yes, (some 68), .move (.tmp 1), false, false, []⟩,
    ⟨.yes, (some 69), .move (.tmp 68), true, false, []⟩,
    ⟨(.on 69 true), (some 70), .fieldAddr 36 (.tmp 9) 0, false, false, []⟩,
    ⟨(.on 69 true), (some 71), .load 34 (.tmp 70), false, false, [(some 1)]⟩,
    ⟨(.on 69 true), (some 72), .call ⟨.builtin .len, #[(.tmp 71)], #[34]⟩, false, false, []⟩,
    ⟨(.on 69 true), (some 73), .move (.tmp 5), false, false, []⟩,
    ⟨(.on 69 true), (some 74), .binOp .add 3 (.const (.int .i64 (2))) (.tmp 73) 3, false, false, []⟩,
    ⟨(.on 69 true), (some 75), .binOp .eql 3 (.tmp 72) (.tmp 74) 3, false, false, []⟩,
    ⟨.yes, (some 76), .pick (.tmp 69) (.tmp 75) (.const (.bool false)), false, false, []⟩,
    ⟨.yes, (some 77), .move (.tmp 76), true, false, []⟩,
    ⟨(.on 77 false), (some 78), .move (.tmp 1), true, false, []⟩,
    ⟨(.on 77 false), (some 79), .unOp .not 4 (.tmp 78), false, false, []⟩,
    ⟨(.on 77 false), (some 80), .move (.tmp 79), true, false, []⟩,
    ⟨(.on 80 true), (some 81), .fieldAddr 36 (.tmp 9) 0, false, false, []⟩,
    ⟨(.on 80 true), (some 82), .load 34 (.tmp 81), false, false, [(some 1)]⟩,
    ⟨(.on 80 true), (some 83), .call ⟨.builtin .len, #[(.tmp 82)], #[34]⟩, false, false, []⟩,
    ⟨(.on 80 true), (some 84), .move (.tmp 5), true, false, []⟩,
    ⟨(.on 80 true), (some 85), .binOp .rem 3 (.tmp 84) (.const (.int .i64 (20))) 3, false, false, []⟩,
    ⟨(.on 80 true), (some 86), .binOp .eql 3 (.tmp 83) (.tmp 85) 3, false, false, []⟩,
    ⟨(.on 77 false), (some 87), .pick (.tmp 80) (.tmp 86) (.const (.bool false)), false, false, []⟩,
    ⟨.yes, (some 88), .pick (.tmp 77) (.const (.bool true)) (.tmp 87), false, false, []⟩,
    ⟨.yes, (some 4), .assign (.tmp 88), true, false, []⟩] [4]) <|
  .ret

theorem c_limits_eq : ∃ c, Try.f4.body = some c ∧ codeOK Try.f4.ntmps c = true ∧ comp Try.prog (ann 4) c = erase c_limits := ⟨_, rfl, by kernel_rfl, by kernel_rfl⟩

theorem body_limits_0 (xs : List DV) (b : Bool) (k e i : Int) : bodyT Xlm [1, 5, 6, 7, 8] [4] [(0, [1, 5, 6, 7])] l_limits_0 ⟨[(1, .d (.bool b)), (5, .d (.int .i64 k)), (6, .box [.osl 3 xs, .osl 18 [], .osl 18 [], .osl 18 [], .osl 18 []]), (7, .d (.int .i64 e)), (8, .d (.int .i64 i))], []⟩ = (
    .br (decide ((20 : Int) = 0))
    (.fail)
    (.br (decide (i < (Int.tmod k 20)))
      (.br (decide ((0 : Int) ≤ i ∧ i ≤ (IntKind.i64.wrap (i + 1)) ∧ (IntKind.i64.wrap (i + 1)) ≤ (([97, 98, 99, 100, 101, 102, 103, 104, 105, 106, 107, 108, 109, 110, 111, 112, 113, 114, 115, 116] : List UInt8).length : Int)))
        (.br (decide (([118] : List UInt8).length + (List.drop (Int.toNat i) (List.take (Int.toNat (IntKind.i64.wrap (i + 1))) ([97, 98, 99, 100, 101, 102, 103, 104, 105, 106, 107, 108, 109, 110, 111, 112, 113, 114, 115, 116] : List UInt8))).length ≤ 9223372036854775807))
          (.br (decide ((xs.length + ([(.agg [(.str ([118] ++ (List.drop (Int.toNat i) (List.take (Int.toNat (IntKind.i64.wrap (i + 1))) ([97, 98, 99, 100, 101, 102, 103, 104, 105, 106, 107, 108, 109, 110, 111, 112, 113, 114, 115, 116] : List UInt8))))), (.int .i64 0), (.int .i64 i)])] : List DV).length) * 32 ≤ 70368744177664))
            (.leaf (.nrm, ⟨[(1, (.d (.bool b))), (5, (.d (.int .i64 k))), (6, (.box [(.osl 3 (xs ++ [(.agg [(.str ([118] ++ (List.drop (Int.toNat i) (List.take (Int.toNat (IntKind.i64.wrap (i + 1))) ([97, 98, 99, 100, 101, 102, 103, 104, 105, 106, 107, 108, 109, 110, 111, 112, 113, 114, 115, 116] : List UInt8))))), (.int .i64 0), (.int .i64 i)])])), (.osl 18 []), (.osl 18 []), (.osl 18 []), (.osl 18 [])])), (7, (.d (.int .i64 e))), (8, (.d (.int .i64 (IntKind.i64.wrap (i + 1)))))], []⟩))
            (.fail))
          (.fail))
        (.fail))
      (.leaf ((.ext 0), ⟨[(1, (.d (.bool b))), (5, (.d (.int .i64 k))), (6, (.box [(.osl 3 xs), (.osl 18 []), (.osl 18 []), (.osl 18 []), (.osl 18 [])])), (7, (.d (.int .i64 e)))], []⟩))) : Tr (Ex × ST)) := by kernel_rfl

theorem tree_limits (n : Int) (b : Bool) : fnT Xlm c_limits Try.f4.results.toList [.d (.int .u8 n), .d (.bool b)] [] = (
    .br false
    (.leaf ((.d (.bool false)), []))
    (.br (decide ((40 : Int) = 0))
      (.fail)
      (.br b
        (.br (decide ((32 : Int) < (IntKind.i64.wrap (2 + (Int.tmod (IntKind.i64.wrap (n)) 40)))))
          (.opt (unL unVar ([(.agg [(.str [97]), (.int .i64 (IntKind.i64.wrap (1 + (Int.tmod (IntKind.i64.wrap (n)) 40)))), (.int .i64 0)]), (.agg [(.str [120]), (.int .i64 0), (.int .i64 0)])] : List DV)) fun l1 => .br (decide ((l1.length : Int) ≤ big) && short l1)
            (.br (!decide (((resE l1).1) = 4))
              (.br (decide (((resE l1).1) = 4))
                (.leaf ((.d (.bool (decide ((((resE l1).2).length : Int) = 0)))), []))
                (.leaf ((.d (.bool false)), [])))
              (.br (!decide (((resE l1).1) = 0))
                (.br (decide (((resE l1).1) = 4))
                  (.leaf ((.d (.bool (decide ((((resE l1).2).length : Int) = 0)))), []))
                  (.leaf ((.d (.bool false)), [])))
                (.br b
                  (.br (decide ((((resE l1).2).length : Int) = (IntKind.i64.wrap (2 + (Int.tmod (IntKind.i64.wrap (n)) 40)))))
                    (.leaf ((.d (.bool true)), []))
                    (.br (!b)
                      (.br (decide ((20 : Int) = 0))
                        (.fail)
                        (.leaf ((.d (.bool (decide ((((resE l1).2).length : Int) = (Int.tmod (Int.tmod (IntKind.i64.wrap (n)) 40) 20))))), [])))
                      (.leaf ((.d (.bool false)), []))))
                  (.br (!b)
                    (.br (decide ((20 : Int) = 0))
                      (.fail)
                      (.leaf ((.d (.bool (decide ((((resE l1).2).length : Int) = (Int.tmod (Int.tmod (IntKind.i64.wrap (n)) 40) 20))))), [])))
                    (.leaf ((.d (.bool false)), []))))))
            (.fail))
          (.opt (unL unVar ([(.agg [(.str [97]), (.int .i64 (IntKind.i64.wrap (1 + (Int.tmod (IntKind.i64.wrap (n)) 40)))), (.int .i64 0)]), (.agg [(.str [120]), (.int .i64 0), (.int .i64 0)])] : List DV)) fun l2 => .br (decide ((l2.length : Int) ≤ big) && short l2)
            (.br (!decide (((resE l2).1) = 0))
              (.br (decide (((resE l2).1) = 0))
                (.leaf ((.d (.bool (decide ((((resE l2).2).length : Int) = 0)))), []))
                (.leaf ((.d (.bool false)), [])))
              (.br (!decide (((resE l2).1) = 0))
                (.br (decide (((resE l2).1) = 0))
                  (.leaf ((.d (.bool (decide ((((resE l2).2).length : Int) = 0)))), []))
                  (.leaf ((.d (.bool false)), [])))
                (.br b
                  (.br (decide ((((resE l2).2).length : Int) = (IntKind.i64.wrap (2 + (Int.tmod (IntKind.i64.wrap (n)) 40)))))
                    (.leaf ((.d (.bool true)), []))
                    (.br (!b)
                      (.br (decide ((20 : Int) = 0))
                        (.fail)
                        (.leaf ((.d (.bool (decide ((((resE l2).2).length : Int) = (Int.tmod (Int.tmod (IntKind.i64.wrap (n)) 40) 20))))), [])))
                      (.leaf ((.d (.bool false)), []))))
                  (.br (!b)
                    (.br (decide ((20 : Int) = 0))
                      (.fail)
                      (.leaf ((.d (.bool (decide ((((resE l2).2).length : Int) = (Int.tmod (Int.tmod (IntKind.i64.wrap (n)) 40) 20))))), [])))
                    (.leaf ((.d (.bool false)), []))))))
            (.fail)))
        (.br (decide ((0 : Int) = 0 ∧ 0 ≤ (Int.tmod (IntKind.i64.wrap (n)) 40) ∧ (Int.tmod (IntKind.i64.wrap (n)) 40) < 40))
          (.br (decide ((20 : Int) = 0))
            (.fail)
            (.br (decide ((16 : Int) < (Int.tmod (Int.tmod (IntKind.i64.wrap (n)) 40) 20)))
              (.opt (unL unVar ((vlist ((Int.tmod (IntKind.i64.wrap (n)) 40).toNat % 20)).map encVar)) fun l3 => .br (decide ((l3.length : Int) ≤ big) && short l3)
                (.br (!decide (((resE l3).1) = 4))
                  (.br (decide (((resE l3).1) = 4))
                    (.leaf ((.d (.bool (decide ((((resE l3).2).length : Int) = 0)))), []))
                    (.leaf ((.d (.bool false)), [])))
                  (.br (!decide (((resE l3).1) = 0))
                    (.br (decide (((resE l3).1) = 4))
                      (.leaf ((.d (.bool (decide ((((resE l3).2).length : Int) = 0)))), []))
                      (.leaf ((.d (.bool false)), [])))
                    (.br b
                      (.br (decide ((((resE l3).2).length : Int) = (IntKind.i64.wrap (2 + (Int.tmod (IntKind.i64.wrap (n)) 40)))))
                        (.leaf ((.d (.bool true)), []))
                        (.br (!b)
                          (.br (decide ((20 : Int) = 0))
                            (.fail)
                            (.leaf ((.d (.bool (decide ((((resE l3).2).length : Int) = (Int.tmod (Int.tmod (IntKind.i64.wrap (n)) 40) 20))))), [])))
                          (.leaf ((.d (.bool false)), []))))
                      (.br (!b)
                        (.br (decide ((20 : Int) = 0))
                          (.fail)
                          (.leaf ((.d (.bool (decide ((((resE l3).2).length : Int) = (Int.tmod (Int.tmod (IntKind.i64.wrap (n)) 40) 20))))), [])))
                        (.leaf ((.d (.bool false)), []))))))
                (.fail))
              (.opt (unL unVar ((vlist ((Int.tmod (IntKind.i64.wrap (n)) 40).toNat % 20)).map encVar)) fun l4 => .br (decide ((l4.length : Int) ≤ big) && short l4)
                (.br (!decide (((resE l4).1) = 0))
                  (.br (decide (((resE l4).1) = 0))
                    (.leaf ((.d (.bool (decide ((((resE l4).2).length : Int) = 0)))), []))
                    (.leaf ((.d (.bool false)), [])))
                  (.br (!decide (((resE l4).1) = 0))
                    (.br (decide (((resE l4).1) = 0))
                      (.leaf ((.d (.bool (decide ((((resE l4).2).length : Int) = 0)))), []))
                      (.leaf ((.d (.bool false)), [])))
                    (.br b
                      (.br (decide ((((resE l4).2).length : Int) = (IntKind.i64.wrap (2 + (Int.tmod (IntKind.i64.wrap (n)) 40)))))
                        (.leaf ((.d (.bool true)), []))
                        (.br (!b)
                          (.br (decide ((20 : Int) = 0))
                            (.fail)
                            (.leaf ((.d (.bool (decide ((((resE l4).2).length : Int) = (Int.tmod (Int.tmod (IntKind.i64.wrap (n)) 40) 20))))), [])))
                          (.leaf ((.d (.bool false)), []))))
                      (.br (!b)
                        (.br (decide ((20 : Int) = 0))
                          (.fail)
                          (.leaf ((.d (.bool (decide ((((resE l4).2).length : Int) = (Int.tmod (Int.tmod (IntKind.i64.wrap (n)) 40) 20))))), [])))
                        (.leaf ((.d (.bool false)), []))))))
                (.fail))))
          (.fail)))) : Tr (AV × Hp)) := by kernel_rfl


theorem vlist_succ (i : Nat) : vlist (i + 1) = vlist i ++ [nthVar i] := by simp [vlist, List.range_succ]

theorem sum_limits_0 : SumOK Try.prog gl (ann 4) L_limits_0 (.loop l_limits_0) := by
  refine SumOK.of_inv (X := Xlm) (xok_Xlm 4) (by simp only [Sums, l_limits_0, and_true]) (by kernel_rfl) (lv := [1, 5, 6, 7, 8]) (rt := [4]) (xs := [(0, [1, 5, 6, 7])]) (by decide)
    (fun m st r => ∃ (b : Bool) (e : Int) (k i : Nat), k < 40 ∧ i ≤ k % 20 ∧
      st = ⟨[(1, .d (.bool b)), (5, .d (.int .i64 (k : Int))), (6, .box [.osl 3 ((vlist i).map encVar), .osl 18 [], .osl 18 [], .osl 18 [], .osl 18 []]), (7, .d (.int .i64 e)), (8, .d (.int .i64 (i : Int)))], []⟩ ∧
      r = (.ext 0, ⟨[(1, .d (.bool b)), (5, .d (.int .i64 (k : Int))), (6, .box [.osl 3 ((vlist (k % 20)).map encVar), .osl 18 [], .osl 18 [], .osl 18 [], .osl 18 []]), (7, .d (.int .i64 e))], []⟩) ∧ m = k % 20 - i) ?_ ?_
  · intro st r h
    unfold L_limits_0 at h
    split at h
    · rename_i b k e i
      rcases Tr.br_some h with ⟨h1, h2⟩ | ⟨_, h2⟩
      · obtain ⟨rfl, h3, h4⟩ := of_decide_eq_true h1
        obtain ⟨k, rfl⟩ := Int.eq_ofNat_of_zero_le h3
        exact ⟨_, b, e, k, 0, by omega, by omega, rfl, (Tr.leaf_some h2).symm, rfl⟩
      · exact Tr.fail_some h2
    · exact Tr.fail_some h
  · rintro m st r ⟨b, e, k, i, h1, h2, rfl, rfl, rfl⟩
    rw [body_limits_0]
    have ht : Int.tmod (k : Int) 20 = ((k % 20 : Nat) : Int) := rfl
    have hw : IntKind.i64.wrap ((i : Int) + 1) = ((i + 1 : Nat) : Int) := by rw [wrap_in] <;> omega
    rw [ht, hw]
    by_cases hlt : i < k % 20
    · have h20 : k % 20 < 20 := Nat.mod_lt _ (by omega)
      have hlen : (vlist i).length = i := by simp [vlist]
      refine ⟨.nrm, ⟨[(1, .d (.bool b)), (5, .d (.int .i64 (k : Int))), (6, .box [.osl 3 ((vlist (i + 1)).map encVar), .osl 18 [], .osl 18 [], .osl 18 [], .osl 18 []]), (7, .d (.int .i64 e)), (8, .d (.int .i64 ((i + 1 : Nat) : Int)))], []⟩, ?_,
        .inr ⟨rfl, _, ?_, b, e, k, i + 1, h1, by omega, rfl, rfl, rfl⟩⟩
      · refine Tr.dec_no (by omega) (Tr.dec_yes (by omega) (Tr.dec_yes ?_ (Tr.dec_yes ?_ (Tr.dec_yes ?_ ?_))))
        · simp; omega
        · simp; omega
        · simp [hlen]; omega
        · rw [vlist_succ, List.map_append]
          rfl
      · omega
    · refine ⟨.ext 0, _, Tr.dec_no (by omega) (Tr.dec_no (by omega) rfl), .inl ⟨by simp, ?_⟩⟩
      rw [show k % 20 = i by omega]

def isT : Option (AV × Hp) → Bool
  | some (.d (.bool true), []) => true
  | _ => false
theorem isT_eq {o : Option (AV × Hp)} (h : isT o = true) : o = some (.d (.bool true), []) := by
  unfold isT at h
  split at h
  · rfl
  · simp at h
theorem all40 {P : Nat → Option (AV × Hp)} (h : (List.range 40).all (fun k => isT (P k)) = true) : ∀ k, k < 40 → P k = some (.d (.bool true), []) := fun k hk =>
  isT_eq (List.all_eq_true.1 h k (List.mem_range.2 hk))

theorem ok_limits : FnOK Try.prog gl 4 limitsT := by
  refine fn_of (X := Xlm) (xok_Xlm 4) Try.func4 c_limits_eq (by kernel_rfl) (by simp only [Sums, c_limits, and_true, true_and]; exact sum_limits_0) ?_
  intro xs H o h
  unfold limitsT at h
  split at h
  · rename_i n b
    rw [tree_limits]
    rcases Tr.br_some h with ⟨h1, h2⟩ | ⟨_, h2⟩
    · obtain ⟨h3, h4⟩ := of_decide_eq_true h1
      obtain rfl := Tr.leaf_some h2
      have hw : IntKind.i64.wrap n = n := by rw [wrap_in] <;> omega
      rw [hw]
      obtain ⟨m, rfl⟩ := Int.eq_ofNat_of_zero_le h3
      have ht : Int.tmod (m : Int) 40 = ((m % 40 : Nat) : Int) := rfl
      rw [ht]
      have hk : m % 40 < 40 := Nat.mod_lt _ (by omega)
      generalize m % 40 = k at hk
      clear ht hw h1 h2 h h3 h4
      revert k
      cases b with
      | true => exact all40 (by kernel_rfl)
      | false => exact all40 (by kernel_rfl)
    · exact Tr.fail_some h2
  · exact Tr.fail_some h

end Go.AI.RK
