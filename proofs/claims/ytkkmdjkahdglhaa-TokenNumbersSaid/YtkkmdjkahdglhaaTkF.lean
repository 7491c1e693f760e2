/- The reference's small functions, in sum. -/
import Derived.Test.YtkkmdjkahdglhaaTkE
namespace Go.AI.TK
open Go Go.Proofs
set_option maxRecDepth 10000
set_option linter.unusedVariables false
set_option linter.unusedSimpArgs false

def signs : List UInt8 := [40, 41, 123, 125, 91, 93, 44, 59, 61, 60, 62, 43, 45, 42, 47, 37, 33]
def isSingle (c : Int) : Bool := signs.any fun b => decide ((b.toNat : Int) = c)
def isDouble (a b : Int) : Bool := decide (b = 61 ∧ (a = 61 ∨ a = 33 ∨ a = 60 ∨ a = 62) ∨ a = 38 ∧ b = 38 ∨ a = 124 ∧ b = 124)
def isBlankI (c : Int) : Bool := decide (c = 32 ∨ c = 9 ∨ c = 10 ∨ c = 13)
def numsPre (s : List UInt8) : Bool := decide ((s.length : Int) ≤ big) && s.all isDig
def accPre2 (p : List UInt8) (i v : Int) : Prop := 0 ≤ i ∧ i ≤ p.length ∧ (p.length : Int) ≤ big ∧ 0 ≤ v ∧ v ≤ 9223372036854775807 ∧ p.all isDig = true
instance (p : List UInt8) (i v : Int) : Decidable (accPre2 p i v) := by unfold accPre2; infer_instance

def rblankT : FT
  | [.d (.int .u8 c)], [] => .leaf (.d (.bool (isBlankI c)), [])
  | _, _ => .fail

def rdoubleT : FT
  | [.d (.int .u8 c), .d (.int .u8 d)], [] => .leaf (.d (.bool (isDouble c d)), [])
  | _, _ => .fail

def rsingleT : FT
  | [.d (.int .u8 c)], [] => .leaf (.d (.bool (isSingle c)), [])
  | _, _ => .fail

def rnumberT : FT
  | [.d (.str s)], [] => .br (numsPre s) (.br ((accum 0 s).isNone) (.leaf ((.tup [.d (.int .i64 0), .d (.bool false)]), [])) (.opt (accum 0 s) fun v => (.leaf ((.tup [.d (.int .i64 v), .d (.bool true)]), [])))) .fail
  | _, _ => .fail

def L_rsingle_0 : ST → Tr (Ex × ST)
  | ⟨[(0, .d (.int .u8 c)), (3, .d (.int .i64 n))], []⟩ => .br (decide (n = 0)) (.br (isSingle c) (.leaf (.ret, ⟨[(2, .d (.bool true))], []⟩)) (.leaf ((.ext 0), ⟨[], []⟩))) .fail
  | _ => .fail

def L_rnumber_0 : ST → Tr (Ex × ST)
  | ⟨[(0, .d (.str s)), (4, .d (.int .i64 v)), (5, .d (.int .i64 i))], []⟩ => .br (decide (accPre2 s i v)) (.br ((accum v (s.drop i.toNat)).isNone) (.leaf (.ret, ⟨[(2, .d (.int .i64 0)), (3, .d (.bool false))], []⟩)) (.opt (accum v (s.drop i.toNat)) fun u => (.leaf ((.ext 0), ⟨[(4, .d (.int .i64 u))], []⟩)))) .fail
  | _ => .fail

noncomputable abbrev Xr0 : TX := ⟨Try.prog, tbl [], iso, gl, vw⟩

theorem xok_Xr0 (f : Nat) : XOK Xr0 (ann f) gl := XOK.of base (l := []) trivial f

/-- rollbacknet/rollbacknetref01.blank -/
def c_rblank : CC := .seq (.region [
    ⟨.yes, (some 2), .assign (.const (.bool false)), false, false, []⟩] [0]) <|
  .seq (.region [
    ⟨.yes, (some 3), .move (.tmp 0), false, false, []⟩,
    ⟨.yes, (some 4), .binOp .eql 5 (.tmp 3) (.const (.int .u8 (32))) 5, false, false, []⟩,
    ⟨.yes, (some 5), .move (.tmp 4), true, false, []⟩,
    ⟨(.on 5 false), (some 6), .move (.tmp 0), false, false, []⟩,
    ⟨(.on 5 false), (some 7), .binOp .eql 5 (.tmp 6) (.const (.int .u8 (9))) 5, false, false, []⟩,
    ⟨.yes, (some 8), .pick (.tmp 5) (.const (.bool true)) (.tmp 7), false, false, []⟩,
    ⟨.yes, (some 9), .move (.tmp 8), true, false, []⟩,
    ⟨(.on 9 false), (some 10), .move (.tmp 0), false, false, []⟩,
    ⟨(.on 9 false), (some 11), .binOp .eql 5 (.tmp 10) (.const (.int .u8 (10))) 5, false, false, []⟩,
    ⟨.yes, (some 12), .pick (.tmp 9) (.const (.bool true)) (.tmp 11), false, false, []⟩,
    ⟨.yes, (some 13), .move (.tmp 12), true, false, []⟩,
    ⟨(.on 13 false), (some 14), .move (.tmp 0), true, false, []⟩,
    ⟨(.on 13 false), (some 15), .binOp .eql 5 (.tmp 14) (.const (.int .u8 (13))) 5, false, false, []⟩,
    ⟨.yes, (some 16), .pick (.tmp 13) (.const (.bool true)) (.tmp 15), false, false, []⟩,
    ⟨.yes, (some 2), .assign (.tmp 16), true, false, []⟩] [2]) <|
  .ret

theorem c_rblank_eq : ∃ c, Try.f16.body = some c ∧ codeOK Try.f16.ntmps c = true ∧ comp Try.prog (ann 16) c = erase c_rblank := ⟨_, rfl, by kernel_rfl, by kernel_rfl⟩

/-- rollbacknet/rollbacknetref01.double -/
def c_rdouble : CC := .seq (.region [
    ⟨.yes, (some 4), .assign (.const (.bool false)), false, false, []⟩] [0, 1]) <|
  .seq (.region [
    ⟨.yes, (some 5), .move (.tmp 1), false, false, []⟩,
    ⟨.yes, (some 6), .binOp .eql 5 (.tmp 5) (.const (.int .u8 (61))) 5, false, false, []⟩,
    ⟨.yes, (some 7), .move (.tmp 6), true, false, []⟩,
    ⟨(.on 7 true), (some 8), .move (.tmp 0), false, false, []⟩,
    ⟨(.on 7 true), (some 9), .binOp .eql 5 (.tmp 8) (.const (.int .u8 (61))) 5, false, false, []⟩,
    ⟨(.on 7 true), (some 10), .move (.tmp 9), true, false, []⟩,
    ⟨(.on 10 false), (some 11), .move (.tmp 0), false, false, []⟩,
    ⟨(.on 10 false), (some 12), .binOp .eql 5 (.tmp 11) (.const (.int .u8 (33))) 5, false, false, []⟩,
    ⟨(.on 7 true), (some 13), .pick (.tmp 10) (.const (.bool true)) (.tmp 12), false, false, []⟩,
    ⟨(.on 7 true), (some 14), .move (.tmp 13), true, false, []⟩,
    ⟨(.on 14 false), (some 15), .move (.tmp 0), false, false, []⟩,
    ⟨(.on 14 false), (some 16), .binOp .eql 5 (.tmp 15) (.const (.int .u8 (60))) 5, false, false, []⟩,
    ⟨(.on 7 true), (some 17), .pick (.tmp 14) (.const (.bool true)) (.tmp 16), false, false, []⟩,
    ⟨(.on 7 true), (some 18), .move (.tmp 17), true, false, []⟩,
    ⟨(.on 18 false), (some 19), .move (.tmp 0), false, false, []⟩,
    ⟨(.on 18 false), (some 20), .binOp .eql 5 (.tmp 19) (.const (.int .u8 (62))) 5, false, false, []⟩,
    ⟨(.on 7 true), (some 21), .pick (.tmp 18) (.const (.bool true)) (.tmp 20), false, false, []⟩,
    ⟨.yes, (some 22), .pick (.tmp 7) (.tmp 21) (.const (.bool false)), false, false, []⟩,
    ⟨.yes, (some 23), .move (.tmp 22), true, false, []⟩,
    ⟨(.on 23 false), (some 24), .move (.tmp 0), false, false, []⟩,
    ⟨(.on 23 false), (some 25), .binOp .eql 5 (.tmp 24) (.const (.int .u8 (38))) 5, false, false, []⟩,
    ⟨(.on 23 false), (some 26), .move (.tmp 25), true, false, []⟩,
    ⟨(.on 26 true), (some 27), .move (.tmp 1), false, false, []⟩,
    ⟨(.on 26 true), (some 28), .binOp .eql 5 (.tmp 27) (.const (.int .u8 (38))) 5, false, false, []⟩,
    ⟨(.on 23 false), (some 29), .pick (.tmp 26) (.tmp 28) (.const (.bool false)), false, false, []⟩,
    ⟨.yes, (some 30), .pick (.tmp 23) (.const (.bool true)) (.tmp 29), false, false, []⟩,
    ⟨.yes, (some 31), .move (.tmp 30), true, false, []⟩,
    ⟨(.on 31 false), (some 32), .move (.tmp 0), true, false, []⟩,
    ⟨(.on 31 false), (some 33), .binOp .eql 5 (.tmp 32) (.const (.int .u8 (124))) 5, false, false, []⟩,
    ⟨(.on 31 false), (some 34), .move (.tmp 33), true, false, []⟩,
    ⟨(.on 34 true), (some 35), .move (.tmp 1), true, false, []⟩,
    ⟨(.on 34 true), (some 36), .binOp .eql 5 (.tmp 35) (.const (.int .u8 (124))) 5, false, false, []⟩,
    ⟨(.on 31 false), (some 37), .pick (.tmp 34) (.tmp 36) (.const (.bool false)), false, false, []⟩,
    ⟨.yes, (some 38), .pick (.tmp 31) (.const (.bool true)) (.tmp 37), false, false, []⟩,
    ⟨.yes, (some 4), .assign (.tmp 38), true, false, []⟩] [4]) <|
  .ret

theorem c_rdouble_eq : ∃ c, Try.f27.body = some c ∧ codeOK Try.f27.ntmps c = true ∧ comp Try.prog (ann 27) c = erase c_rdouble := ⟨_, rfl, by kernel_rfl, by kernel_rfl⟩

def l_rsingle_0 : CC := .seq (.seq (.region [
    ⟨.yes, (some 4), .move (.tmp 3), false, false, []⟩,
    ⟨.yes, (some 5), .binOp .lss 3 (.tmp 4) (.const (.int .i64 (17))) 3, false, false, []⟩] [0, 3, 5]) <|
  .cond (.tmp 5)
    (.skip)
    (.exit 0)) <|
  .seq (.block 1 <| .seq (.region [
    ⟨.yes, (some 8), .move (.tmp 3), false, false, []⟩,
    ⟨.yes, (some 9), .index 9 (.const (.string ⟨#[40, 41, 123, 125, 91, 93, 44, 59, 61, 60, 62, 43, 45, 42, 47, 37, 33]⟩)) (.tmp 8), false, false, []⟩,
    ⟨.yes, (some 10), .move (.tmp 0), false, false, []⟩,
    ⟨.yes, (some 11), .binOp .eql 5 (.tmp 9) (.tmp 10) 5, false, false, []⟩] [0, 3, 11]) <|
  .cond (.tmp 11)
    (.seq (.region [
      ⟨.yes, (some 2), .assign (.const (.bool true)), false, false, []⟩] [2]) <|
    .ret)
    (.skip)) <|
  .region [
    ⟨.yes, (some 6), .move (.tmp 3), true, false, []⟩,
    ⟨.yes, (some 7), .binOp .add 3 (.tmp 6) (.const (.int .i64 (1))) 3, false, false, []⟩,
    ⟨.yes, (some 3), .assign (.tmp 7), true, false, []⟩] [0, 3]

/-- rollbacknet/rollbacknetref01.single -/
def c_rsingle : CC := .seq (.region [
    ⟨.yes, (some 2), .assign (.const (.bool false)), false, false, []⟩] [0]) <|
  .seq (.seq (.region [
    ⟨.yes, (some 3), .assign (.const (.int .i64 (0))), false, false, []⟩] [0, 3]) <|
  .block 0 <| .keep [0, 3] <| .sum L_rsingle_0 (.loop l_rsingle_0)) <|
  .seq (.region [
    ⟨.yes, (some 2), .assign (.const (.bool false)), false, false, []⟩] [2]) <|
  .ret

theorem c_rsingle_eq : ∃ c, Try.f28.body = some c ∧ codeOK Try.f28.ntmps c = true ∧ comp Try.prog (ann 28) c = erase c_rsingle := ⟨_, rfl, by kernel_rfl, by kernel_rfl⟩

def l_rnumber_0 : CC := .seq (.seq (.region [
    ⟨.yes, (some 7), .move (.tmp 5), false, false, []⟩,
    ⟨.yes, (some 8), .move (.tmp 0), false, false, []⟩,
    ⟨.yes, (some 9), .call ⟨.builtin .len, #[(.tmp 8)], #[9]⟩, false, false, []⟩,
    ⟨.yes, (some 10), .binOp .lss 3 (.tmp 7) (.tmp 9) 3, false, false, []⟩] [0, 4, 5, 10]) <|
  .cond (.tmp 10)
    (.skip)
    (.exit 0)) <|
  .seq (.block 1 <| .seq (.region [
    ⟨.yes, (some 13), .move (.tmp 0), false, false, []⟩,
    ⟨.yes, (some 14), .move (.tmp 5), false, false, []⟩,
    ⟨.yes, (some 15), .index 9 (.tmp 13) (.tmp 14), false, false, []⟩,
    ⟨.yes, (some 16), .binOp .sub 5 (.tmp 15) (.const (.int .u8 (48))) 5, false, false, []⟩,
    ⟨.yes, (some 17), .convert 5 3 (.tmp 16), false, false, []⟩,
    ⟨.yes, (some 6), .assign (.tmp 17), true, false, []⟩] [0, 4, 5, 6]) <|
  .seq (.seq (.region [
    ⟨.yes, (some 18), .move (.tmp 4), false, false, []⟩,
    ⟨.yes, (some 19), .move (.tmp 6), false, false, []⟩,
    ⟨.yes, (some 20), .binOp .sub 3 (.const (.int .i64 (9223372036854775807))) (.tmp 19) 3, false, false, []⟩,
    ⟨.yes, (some 21), .binOp .quo 3 (.tmp 20) (.const (.int .i64 (10))) 3, false, false, []⟩,
    ⟨.yes, (some 22), .binOp .gtr 3 (.tmp 18) (.tmp 21) 3, false, false, []⟩] [0, 4, 5, 6, 22]) <|
  .cond (.tmp 22)
    (.seq (.region [
      ⟨.yes, (some 2), .assign (.const (.int .i64 (0))), false, false, []⟩,
      ⟨.yes, (some 3), .assign (.const (.bool false)), false, false, []⟩] [2, 3]) <|
    .ret)
    (.skip)) <|
  .region [
    ⟨.yes, (some 23), .move (.tmp 4), true, false, []⟩,
    ⟨.yes, (some 24), .binOp .mul 3 (.const (.int .i64 (10))) (.tmp 23) 3, false, false, []⟩,
    ⟨.yes, (some 25), .move (.tmp 6), true, false, []⟩,
    ⟨.yes, (some 26), .binOp .add 3 (.tmp 24) (.tmp 25) 3, false, false, []⟩,
    ⟨.yes, (some 4), .assign (.tmp 26), true, false, []⟩] [0, 4, 5]) <|
  .region [
    ⟨.yes, (some 11), .move (.tmp 5), true, false, []⟩,
    ⟨.yes, (some 12), .binOp .add 3 (.tmp 11) (.const (.int .i64 (1))) 3, false, false, []⟩,
    ⟨.yes, (some 5), .assign (.tmp 12), true, false, []⟩] [0, 4, 5]

/-- rollbacknet/rollbacknetref01.number -/
def c_rnumber : CC := .seq (.region [
    ⟨.yes, (some 2), .assign (.const (.int .i64 (0))), false, false, []⟩,
    ⟨.yes, (some 3), .assign (.const (.bool false)), false, false, []⟩] [0]) <|
  .seq (.region [
    ⟨.yes, (some 4), .assign (.const (.int .i64 (0))), false, false, []⟩] [0, 4]) <|
  .seq (.seq (.region [
    ⟨.yes, (some 5), .assign (.const (.int .i64 (0))), false, false, []⟩] [0, 4, 5]) <|
  .block 0 <| .keep [0, 4, 5] <| .sum L_rnumber_0 (.loop l_rnumber_0)) <|
  .seq (.region [
    ⟨.yes, (some 27), .move (.tmp 4), true, false, []⟩,
    ⟨.yes, (some 2), .assign (.tmp 27), true, false, []⟩,
    ⟨.yes, (some 3), .assign (.const (.bool true)), false, false, []⟩] [2, 3]) <|
  .ret

theorem c_rnumber_eq : ∃ c, Try.f26.body = some c ∧ codeOK Try.f26.ntmps c = true ∧ comp Try.prog (ann 26) c = erase c_rnumber := ⟨_, rfl, by kernel_rfl, by kernel_rfl⟩

theorem tree_rblank (c : Int) : fnT Xr0 c_rblank Try.f16.results.toList [.d (.int .u8 c)] [] = (
    .br (decide (c = 32))
    (.leaf ((.d (.bool true)), []))
    (.br (decide (c = 9))
      (.leaf ((.d (.bool true)), []))
      (.br (decide (c = 10))
        (.leaf ((.d (.bool true)), []))
        (.leaf ((.d (.bool (decide (c = 13)))), [])))) : Tr (AV × Hp)) := by kernel_rfl

theorem tree_rdouble (c d : Int) : fnT Xr0 c_rdouble Try.f27.results.toList [.d (.int .u8 c), .d (.int .u8 d)] [] = (
    .br (decide (d = 61))
    (.br (decide (c = 61))
      (.leaf ((.d (.bool true)), []))
      (.br (decide (c = 33))
        (.leaf ((.d (.bool true)), []))
        (.br (decide (c = 60))
          (.leaf ((.d (.bool true)), []))
          (.br (decide (c = 62))
            (.leaf ((.d (.bool true)), []))
            (.br (decide (c = 38))
              (.br (decide (d = 38))
                (.leaf ((.d (.bool true)), []))
                (.br (decide (c = 124))
                  (.leaf ((.d (.bool (decide (d = 124)))), []))
                  (.leaf ((.d (.bool false)), []))))
              (.br (decide (c = 124))
                (.leaf ((.d (.bool (decide (d = 124)))), []))
                (.leaf ((.d (.bool false)), []))))))))
    (.br (decide (c = 38))
      (.br (decide (d = 38))
        (.leaf ((.d (.bool true)), []))
        (.br (decide (c = 124))
          (.leaf ((.d (.bool (decide (d = 124)))), []))
          (.leaf ((.d (.bool false)), []))))
      (.br (decide (c = 124))
        (.leaf ((.d (.bool (decide (d = 124)))), []))
        (.leaf ((.d (.bool false)), [])))) : Tr (AV × Hp)) := by kernel_rfl

theorem body_rsingle_0 (c n : Int) : bodyT Xr0 [0, 3] [2] [(0, [])] l_rsingle_0 ⟨[(0, .d (.int .u8 c)), (3, .d (.int .i64 n))], []⟩ = (
    .br (decide (n < 17))
    (.br (decide ((0 : Int) ≤ n))
      (.opt (([40, 41, 123, 125, 91, 93, 44, 59, 61, 60, 62, 43, 45, 42, 47, 37, 33] : List UInt8)[(Int.toNat n)]?) fun b1 => .br (decide ((b1.toNat : Int) = c))
        (.leaf (.ret, ⟨[(2, (.d (.bool true)))], []⟩))
        (.leaf (.nrm, ⟨[(0, (.d (.int .u8 c))), (3, (.d (.int .i64 (IntKind.i64.wrap (n + 1)))))], []⟩)))
      (.fail))
    (.leaf ((.ext 0), ⟨[], []⟩)) : Tr (Ex × ST)) := by kernel_rfl

theorem tree_rsingle (c : Int) : fnT Xr0 c_rsingle Try.f28.results.toList [.d (.int .u8 c)] [] = (
    .br (decide ((0 : Int) = 0))
    (.br (isSingle c)
      (.leaf ((.d (.bool true)), []))
      (.leaf ((.d (.bool false)), [])))
    (.fail) : Tr (AV × Hp)) := by kernel_rfl

theorem body_rnumber_0 (s : List UInt8) (v i : Int) : bodyT Xr0 [0, 4, 5] [2, 3] [(0, [4])] l_rnumber_0 ⟨[(0, .d (.str s)), (4, .d (.int .i64 v)), (5, .d (.int .i64 i))], []⟩ = (
    .br (decide (i < (s.length : Int)))
    (.br (decide ((0 : Int) ≤ i))
      (.opt (s[(Int.toNat i)]?) fun b1 => .br (decide ((10 : Int) = 0))
        (.fail)
        (.br (decide ((IntKind.i64.wrap (Int.tdiv (IntKind.i64.wrap (9223372036854775807 - (IntKind.i64.wrap (IntKind.u8.wrap ((b1.toNat : Int) - 48))))) 10)) < v))
          (.leaf (.ret, ⟨[(2, (.d (.int .i64 0))), (3, (.d (.bool false)))], []⟩))
          (.leaf (.nrm, ⟨[(0, (.d (.str s))), (4, (.d (.int .i64 (IntKind.i64.wrap ((IntKind.i64.wrap (10 * v)) + (IntKind.i64.wrap (IntKind.u8.wrap ((b1.toNat : Int) - 48)))))))), (5, (.d (.int .i64 (IntKind.i64.wrap (i + 1)))))], []⟩))))
      (.fail))
    (.leaf ((.ext 0), ⟨[(4, (.d (.int .i64 v)))], []⟩)) : Tr (Ex × ST)) := by kernel_rfl

theorem tree_rnumber (s : List UInt8) : fnT Xr0 c_rnumber Try.f26.results.toList [.d (.str s)] [] = (
    .br (decide (accPre2 s (0 : Int) (0 : Int)))
    (.br ((accum (0 : Int) (s.drop (0 : Int).toNat)).isNone)
      (.leaf ((.tup [(.d (.int .i64 0)), (.d (.bool false))]), []))
      (.opt (accum (0 : Int) (s.drop (0 : Int).toNat)) fun u1 => .leaf ((.tup [(.d (.int .i64 u1)), (.d (.bool true))]), [])))
    (.fail) : Tr (AV × Hp)) := by kernel_rfl

theorem ok_rblank : FnOK Try.prog gl 16 rblankT := by
  refine fn_of (X := Xr0) (xok_Xr0 16) Try.func16 c_rblank_eq (by kernel_rfl) (by simp only [Sums, c_rblank, and_true]) ?_
  intro xs H o h
  unfold rblankT at h
  split at h
  · rw [tree_rblank]
    obtain rfl := Tr.leaf_some h
    repeat' (refine Tr.dec_to (fun _ => ?_) (fun _ => ?_))
    all_goals (simp only [Tr.run_leaf, Option.some.injEq, Prod.mk.injEq, AV.d.injEq, DV.bool.injEq, and_true, isBlankI]; first | (symm; simp; omega) | (congr 1; simp; omega))
  · exact Tr.fail_some h

theorem ok_rdouble : FnOK Try.prog gl 27 rdoubleT := by
  refine fn_of (X := Xr0) (xok_Xr0 27) Try.func27 c_rdouble_eq (by kernel_rfl) (by simp only [Sums, c_rdouble, and_true]) ?_
  intro xs H o h
  unfold rdoubleT at h
  split at h
  · rw [tree_rdouble]
    obtain rfl := Tr.leaf_some h
    repeat' (refine Tr.dec_to (fun _ => ?_) (fun _ => ?_))
    all_goals (simp only [Tr.run_leaf, Option.some.injEq, Prod.mk.injEq, AV.d.injEq, DV.bool.injEq, and_true, isDouble]; first | (symm; simp; omega) | (congr 1; simp; omega))
  · exact Tr.fail_some h


theorem sum_rsingle_0 : SumOK Try.prog gl (ann 28) L_rsingle_0 (.loop l_rsingle_0) := by
  refine SumOK.of_inv (X := Xr0) (xok_Xr0 28) (by simp only [Sums, l_rsingle_0, and_true]) (by kernel_rfl) (lv := [0, 3]) (rt := [2]) (xs := [(0, [])]) (by decide)
    (fun m st r => ∃ (c : Int) (n : Nat), n ≤ 17 ∧ st = ⟨[(0, .d (.int .u8 c)), (3, .d (.int .i64 (n : Int)))], []⟩ ∧
      r = (if (signs.drop n).any (fun b => decide ((b.toNat : Int) = c)) = true then (.ret, ⟨[(2, .d (.bool true))], []⟩) else (.ext 0, ⟨[], []⟩)) ∧ m = 17 - n) ?_ ?_
  · intro st r h
    unfold L_rsingle_0 at h
    split at h
    · rename_i c n
      rcases Tr.br_some h with ⟨h1, h2⟩ | ⟨_, h2⟩
      · obtain rfl := of_decide_eq_true h1
        refine ⟨_, c, 0, by omega, rfl, ?_, rfl⟩
        rcases Tr.br_some h2 with ⟨h3, h4⟩ | ⟨h3, h4⟩
        · rw [if_pos (show (signs.drop 0).any _ = true from h3)]; exact (Tr.leaf_some h4).symm
        · rw [if_neg (by rw [show (signs.drop 0).any (fun b => decide ((b.toNat : Int) = c)) = false from h3]; decide)]; exact (Tr.leaf_some h4).symm
      · exact Tr.fail_some h2
    · exact Tr.fail_some h
  · rintro m st r ⟨c, n, h1, rfl, rfl, rfl⟩
    rw [body_rsingle_0]
    cases hb : signs[n]? with
    | none =>
      have hl : 17 ≤ n := by simpa [signs] using hb
      rw [List.drop_eq_nil_of_le (by simpa [signs] using hl)]
      exact ⟨.ext 0, _, Tr.dec_no (by omega) rfl, .inl ⟨by simp, rfl⟩⟩
    | some b =>
      have hl : n < 17 := by have := at_len hb; simpa [signs] using this
      have hw : IntKind.i64.wrap ((n : Int) + 1) = ((n + 1 : Nat) : Int) := by rw [wrap_in] <;> omega
      rw [drop_at hb, List.any_cons, Int.toNat_natCast]
      by_cases hc : (b.toNat : Int) = c
      · refine ⟨.ret, _, Tr.dec_yes (by omega) (Tr.dec_yes (by omega) (Tr.opt_to hb (Tr.dec_yes hc rfl))), .inl ⟨by simp, by simp [hc]⟩⟩
      · refine ⟨.nrm, _, Tr.dec_yes (by omega) (Tr.dec_yes (by omega) (Tr.opt_to hb (Tr.dec_no hc rfl))), .inr ⟨rfl, 17 - (n + 1), by omega, c, n + 1, by omega, ?_, by simp [hc], rfl⟩⟩
        rw [hw]

theorem sum_rnumber_0 : SumOK Try.prog gl (ann 26) L_rnumber_0 (.loop l_rnumber_0) := by
  refine SumOK.of_inv (X := Xr0) (xok_Xr0 26) (by simp only [Sums, l_rnumber_0, and_true]) (by kernel_rfl) (lv := [0, 4, 5]) (rt := [2, 3]) (xs := [(0, [4])]) (by decide)
    (fun m st r => ∃ (p : List UInt8) (v : Int) (i : Nat), i ≤ p.length ∧ (p.length : Int) ≤ big ∧ 0 ≤ v ∧ v ≤ 9223372036854775807 ∧ p.all isDig = true ∧
      st = ⟨[(0, .d (.str p)), (4, .d (.int .i64 v)), (5, .d (.int .i64 (i : Int)))], []⟩ ∧
      r = (match accum v (p.drop i) with
        | none => (.ret, ⟨[(2, .d (.int .i64 0)), (3, .d (.bool false))], []⟩)
        | some u => (.ext 0, ⟨[(4, .d (.int .i64 u))], []⟩)) ∧ m = p.length - i) ?_ ?_
  · intro st r h
    unfold L_rnumber_0 at h
    split at h
    · rename_i p v i
      rcases Tr.br_some h with ⟨h1, h2⟩ | ⟨_, h2⟩
      · obtain ⟨h3, h4, h5, h6, h7, h8⟩ := of_decide_eq_true h1
        obtain ⟨k, rfl⟩ := Int.eq_ofNat_of_zero_le h3
        refine ⟨_, p, v, k, by omega, h5, h6, h7, h8, rfl, ?_, rfl⟩
        simp only [Int.ofNat_eq_natCast, Int.toNat_natCast] at h2
        cases ha : accum v (p.drop k) with
        | none => rw [ha] at h2; exact (Tr.leaf_some h2).symm
        | some u => rw [ha] at h2; exact (Tr.leaf_some h2).symm
      · exact Tr.fail_some h2
    · exact Tr.fail_some h
  · rintro m st r ⟨p, v, i, h1, h2, h3, h4, h5, rfl, rfl, rfl⟩
    rw [body_rnumber_0]
    unfold big at h2
    cases hb : p[i]? with
    | none =>
      have hl : p.length ≤ i := by simpa using hb
      rw [List.drop_eq_nil_of_le hl]
      exact ⟨.ext 0, _, Tr.dec_no (by omega) rfl, .inl ⟨by simp, rfl⟩⟩
    | some b =>
      have hl := at_len hb
      have hd := dig_in ((List.all_eq_true.1 h5) b (List.mem_of_getElem? hb))
      have w1 : IntKind.u8.wrap ((b.toNat : Int) - 48) = (b.toNat : Int) - 48 := wrap_u8 (by omega) (by omega)
      have w2 : IntKind.i64.wrap ((b.toNat : Int) - 48) = (b.toNat : Int) - 48 := wrap_in (by omega) (by omega)
      have w3 : IntKind.i64.wrap (9223372036854775807 - ((b.toNat : Int) - 48)) = 9223372036854775807 - ((b.toNat : Int) - 48) := wrap_in (by omega) (by omega)
      have w4 : Int.tdiv (9223372036854775807 - ((b.toNat : Int) - 48)) 10 = (9223372036854775807 - ((b.toNat : Int) - 48)) / 10 := Int.tdiv_eq_ediv_of_nonneg (by omega)
      have w5 : IntKind.i64.wrap ((9223372036854775807 - ((b.toNat : Int) - 48)) / 10) = (9223372036854775807 - ((b.toNat : Int) - 48)) / 10 := wrap_in (by omega) (by omega)
      have w6 : IntKind.i64.wrap ((i : Int) + 1) = ((i + 1 : Nat) : Int) := by rw [wrap_in] <;> omega
      rw [drop_at hb, Int.toNat_natCast]
      by_cases hv : (9223372036854775807 - ((b.toNat : Int) - 48)) / 10 < v
      · refine ⟨.ret, _, Tr.dec_yes (by omega) (Tr.dec_yes (by omega) (Tr.opt_to hb (Tr.dec_no (by decide) (Tr.dec_yes (by rw [w1, w2, w3, w4, w5]; exact hv) rfl)))), .inl ⟨by simp, by simp only [accum, if_pos hv]⟩⟩
      · have w7 : IntKind.i64.wrap (10 * v) = v * 10 := by rw [wrap_in] <;> omega
        have w8 : IntKind.i64.wrap (v * 10 + ((b.toNat : Int) - 48)) = v * 10 + ((b.toNat : Int) - 48) := wrap_in (by omega) (by omega)
        refine ⟨.nrm, _, Tr.dec_yes (by omega) (Tr.dec_yes (by omega) (Tr.opt_to hb (Tr.dec_no (by decide) (Tr.dec_no (by rw [w1, w2, w3, w4, w5]; exact hv) rfl)))), .inr ⟨rfl, p.length - (i + 1), by omega, p, v * 10 + ((b.toNat : Int) - 48), i + 1, by omega, by unfold big; omega, by omega, by omega, h5, ?_, ?_, rfl⟩⟩
        · rw [w1, w2, w6, w7, w8]
        · simp only [accum, if_neg hv]
theorem ok_rsingle : FnOK Try.prog gl 28 rsingleT := by
  refine fn_of (X := Xr0) (xok_Xr0 28) Try.func28 c_rsingle_eq (by kernel_rfl) (by simp only [Sums, c_rsingle, and_true, true_and]; exact sum_rsingle_0) ?_
  intro xs H o h
  unfold rsingleT at h
  split at h
  · rw [tree_rsingle]
    obtain rfl := Tr.leaf_some h
    refine Tr.dec_yes rfl ?_
    refine Tr.br_to (fun h => ?_) (fun h => ?_) <;> simp [Tr.run_leaf, h]
  · exact Tr.fail_some h

theorem ok_rnumber : FnOK Try.prog gl 26 rnumberT := by
  refine fn_of (X := Xr0) (xok_Xr0 26) Try.func26 c_rnumber_eq (by kernel_rfl) (by simp only [Sums, c_rnumber, and_true, true_and]; exact sum_rnumber_0) ?_
  intro xs H o h
  unfold rnumberT at h
  split at h
  · rw [tree_rnumber]
    rcases Tr.br_some h with ⟨h1, h2⟩ | ⟨_, h2⟩
    · rename_i s
      simp only [numsPre, Bool.and_eq_true, decide_eq_true_eq] at h1
      refine Tr.dec_yes ⟨by omega, by omega, h1.1, by omega, by omega, h1.2⟩ ?_
      rw [show (0 : Int).toNat = 0 from rfl, List.drop_zero]
      exact h2
    · exact Tr.fail_some h2
  · exact Tr.fail_some h

end Go.AI.TK
