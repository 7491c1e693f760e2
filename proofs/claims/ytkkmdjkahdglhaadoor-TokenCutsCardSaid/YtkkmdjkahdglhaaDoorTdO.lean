/- TokenCuts: its trees. -/
import Derived.Test.YtkkmdjkahdglhaaDoorTdI
namespace Go.AI.TD
open Go Go.Proofs
set_option maxRecDepth 100000
set_option linter.unusedVariables false
set_option linter.unusedSimpArgs false

def modR (n m : Int) : Int := if n.tmod m < 0 then IntKind.i64.wrap (n.tmod m + m) else n.tmod m
theorem modR_in {n m : Int} (h : 0 < m) (h2 : m ≤ 4294967296) : 0 ≤ modR n m ∧ modR n m < m := by
  have h3 : n.tmod m < m := Int.tmod_lt_of_pos n h
  have h4 : -m < n.tmod m := by
    have h6 := Int.tmod_lt_of_pos (-n) h
    rw [Int.neg_tmod] at h6
    omega
  unfold modR
  split
  · rw [wrap_in] <;> omega
  · omega

def modT : FT
  | [.d (.int .i64 n), .d (.int .i64 m)], [] => .br (decide (m = 0)) .fail (.leaf (.d (.int .i64 (modR n m)), []))
  | _, _ => .fail

noncomputable abbrev Xmod : TX := ⟨Tryd.prog, tbl [], iso, gl, vw⟩

theorem xok_Xmod (f : Nat) : XOK Xmod (ann f) gl := XOK.of base (l := []) trivial f

/-- rollbacknet/rollbacknetmake.Mod -/
def c_mod : CC := .seq (.region [
    ⟨.yes, (some 4), .assign (.const (.int .i64 (0))), false, false, []⟩] [0, 1]) <|
  .seq (.region [
    ⟨.yes, (some 5), .move (.tmp 0), true, false, []⟩,
    ⟨.yes, (some 6), .move (.tmp 1), false, false, []⟩,
    ⟨.yes, (some 7), .binOp .rem 3 (.tmp 5) (.tmp 6) 3, false, false, []⟩,
    ⟨.yes, (some 0), .assign (.tmp 7), true, false, []⟩] [0, 1]) <|
  .seq (.seq (.region [
    ⟨.yes, (some 8), .move (.tmp 0), false, false, []⟩,
    ⟨.yes, (some 9), .binOp .lss 3 (.tmp 8) (.const (.int .i64 (0))) 3, false, false, []⟩] [0, 1, 9]) <|
  .cond (.tmp 9)
    (.region [
      ⟨.yes, (some 10), .move (.tmp 0), true, false, []⟩,
      ⟨.yes, (some 11), .move (.tmp 1), true, false, []⟩,
      ⟨.yes, (some 12), .binOp .add 3 (.tmp 10) (.tmp 11) 3, false, false, []⟩,
      ⟨.yes, (some 0), .assign (.tmp 12), true, false, []⟩] [0])
    (.skip)) <|
  .seq (.region [
    ⟨.yes, (some 13), .move (.tmp 0), true, false, []⟩,
    ⟨.yes, (some 4), .assign (.tmp 13), true, false, []⟩] [4]) <|
  .ret

theorem c_mod_eq : ∃ c, Tryd.f15.body = some c ∧ codeOK Tryd.f15.ntmps c = true ∧ comp Tryd.prog (ann 15) c = erase c_mod := ⟨_, rfl, by kernel_rfl, by kernel_rfl⟩

theorem tree_mod (n m : Int) : fnT Xmod c_mod Tryd.f15.results.toList [.d (.int .i64 n), .d (.int .i64 m)] [] = (
    .br (decide (m = 0))
 (.fail)
 (.br (decide ((Int.tmod n m) < 0))
 (.leaf (.d (.int .i64 (IntKind.i64.wrap ((Int.tmod n m) + m))), []))
 (.leaf (.d (.int .i64 (Int.tmod n m)), []))) : Tr (AV × Hp)) := by kernel_rfl

theorem ok_mod : FnOK Tryd.prog gl 15 modT := by
  refine fn_of (X := Xmod) (xok_Xmod 15) Tryd.func15 c_mod_eq (by kernel_rfl) (by simp only [Sums, c_mod, and_true]) ?_
  intro xs H o h
  unfold modT at h
  split at h
  · rename_i n m
    rw [tree_mod]
    rcases Tr.br_some h with ⟨h1, h2⟩ | ⟨h1, h2⟩
    · exact Tr.fail_some h2
    · obtain rfl := Tr.leaf_some h2
      have h3 := of_decide_eq_false h1
      refine Tr.dec_no h3 ?_
      unfold modR
      by_cases h4 : Int.tmod n m < 0
      · rw [if_pos h4]; exact Tr.dec_yes h4 rfl
      · rw [if_neg h4]; exact Tr.dec_no h4 rfl
  · exact Tr.fail_some h

noncomputable abbrev Xct : TX := ⟨Tryd.prog, tbl [(8, awakeT), (11, scanT), (9, printT), (16, requalT), (15, modT)], iso, gl, vw⟩

theorem xok_Xct (f : Nat) : XOK Xct (ann f) gl := XOK.of base (l := [(8, awakeT), (11, scanT), (9, printT), (16, requalT), (15, modT)]) ⟨ok_awake, ok_scan, ok_print, ok_requal, ok_mod, trivial⟩ f

/-- rollbacknet/rollbacknetlaw01.TokenCuts -/
def c_lcuts : CC := .seq (.region [
    ⟨.yes, (some 4), .assign (.const (.bool false)), false, false, []⟩] [0, 1]) <|
  .seq (.seq (.region [
    ⟨.yes, (some 16), .call ⟨.value (.func 8), #[], #[]⟩, false, false, []⟩,
    ⟨.yes, (some 17), .unOp .not 4 (.tmp 16), false, false, []⟩] [0, 1, 17]) <|
  .cond (.tmp 17)
    (.seq (.region [
      ⟨.yes, (some 4), .assign (.const (.bool false)), false, false, []⟩] [4]) <|
    .ret)
    (.skip)) <|
  .seq (.region [
    ⟨.yes, (some 19), .move (.tmp 0), false, false, []⟩,
    ⟨.yes, (some 20), .call ⟨.value (.func 11), #[(.tmp 19)], #[9]⟩, false, false, []⟩,
    ⟨.yes, (some 18), .move (.tmp 20), true, false, []⟩,
    ⟨.yes, (some 21), .extract (.tmp 18) 0, false, false, [(some 4)]⟩,
    ⟨.yes, (some 22), .extract (.tmp 18) 1, false, false, []⟩,
    ⟨.yes, (some 23), .extract (.tmp 18) 2, false, false, []⟩,
    ⟨.yes, (some 5), .assign (.tmp 21), true, false, [(some 4)]⟩,
    ⟨.yes, (some 6), .assign (.tmp 22), true, false, []⟩,
    ⟨.yes, (some 7), .assign (.tmp 23), true, false, []⟩] [0, 1, 5, 7]) <|
  .seq (.seq (.region [
    ⟨.yes, (some 24), .move (.tmp 7), true, false, []⟩,
    ⟨.yes, (some 25), .binOp .neq 26 (.tmp 24) (.const (.int .i64 (0))) 26, false, false, []⟩,
    ⟨.yes, (some 26), .move (.tmp 25), true, false, []⟩,
    ⟨(.on 26 false), (some 27), .move (.tmp 5), false, false, [(some 4)]⟩,
    ⟨(.on 26 false), (some 28), .call ⟨.builtin .len, #[(.tmp 27)], #[22]⟩, false, false, []⟩,
    ⟨(.on 26 false), (some 29), .binOp .eql 3 (.tmp 28) (.const (.int .i64 (0))) 3, false, false, []⟩,
    ⟨.yes, (some 30), .pick (.tmp 26) (.const (.bool true)) (.tmp 29), false, false, []⟩] [0, 1, 5, 30]) <|
  .cond (.tmp 30)
    (.seq (.region [
      ⟨.yes, (some 4), .assign (.const (.bool true)), false, false, []⟩] [4]) <|
    .ret)
    (.skip)) <|
  .seq (.region [
    ⟨.yes, (some 31), .move (.tmp 1), true, false, []⟩,
    ⟨.yes, (some 32), .move (.tmp 5), false, false, [(some 4)]⟩,
    ⟨.yes, (some 33), .call ⟨.builtin .len, #[(.tmp 32)], #[22]⟩, false, false, []⟩,
    ⟨.yes, (some 34), .call ⟨.value (.func 15), #[(.tmp 31), (.tmp 33)], #[3, 3]⟩, false, false, []⟩,
    ⟨.yes, (some 8), .assign (.tmp 34), true, false, []⟩] [0, 5, 8]) <|
  .seq (.seq (.region [
    ⟨.yes, (some 35), .move (.tmp 5), false, false, [(some 4)]⟩,
    ⟨.yes, (some 36), .move (.tmp 8), false, false, []⟩,
    ⟨.yes, (some 37), .indexAddr 22 (.tmp 35) (.tmp 36), false, false, []⟩,
    ⟨.yes, (some 38), .fieldAddr 38 (.tmp 37) 3, false, false, []⟩,
    ⟨.yes, (some 39), .load 3 (.tmp 38), false, false, []⟩,
    ⟨.yes, (some 40), .binOp .lss 3 (.tmp 39) (.const (.int .i64 (0))) 3, false, false, []⟩,
    ⟨.yes, (some 41), .move (.tmp 40), true, false, []⟩,
    ⟨(.on 41 false), (some 42), .move (.tmp 5), false, false, [(some 4)]⟩,
    ⟨(.on 41 false), (some 43), .move (.tmp 8), false, false, []⟩,
    ⟨(.on 41 false), (some 44), .indexAddr 22 (.tmp 42) (.tmp 43), false, false, []⟩,
    ⟨(.on 41 false), (some 45), .fieldAddr 38 (.tmp 44) 3, false, false, []⟩,
    ⟨(.on 41 false), (some 46), .load 3 (.tmp 45), false, false, []⟩,
    ⟨(.on 41 false), (some 47), .move (.tmp 0), false, false, []⟩,
    ⟨(.on 41 false), (some 48), .call ⟨.builtin .len, #[(.tmp 47)], #[9]⟩, false, false, []⟩,
    ⟨(.on 41 false), (some 49), .binOp .gtr 3 (.tmp 46) (.tmp 48) 3, false, false, []⟩,
    ⟨.yes, (some 50), .pick (.tmp 41) (.const (.bool true)) (.tmp 49), false, false, []⟩] [0, 5, 8, 50]) <|
  .cond (.tmp 50)
    (.seq (.region [
      ⟨.yes, (some 4), .assign (.const (.bool false)), false, false, []⟩] [4]) <|
    .ret)
    (.skip)) <|
  .seq (.region [
    ⟨.yes, (some 52), .move (.tmp 0), false, false, []⟩,
    ⟨.yes, (some 53), .move (.tmp 5), false, false, [(some 4)]⟩,
    ⟨.yes, (some 54), .move (.tmp 8), false, false, []⟩,
    ⟨.yes, (some 55), .indexAddr 22 (.tmp 53) (.tmp 54), false, false, []⟩,
    ⟨.yes, (some 56), .fieldAddr 38 (.tmp 55) 3, false, false, []⟩,
    ⟨.yes, (some 57), .load 3 (.tmp 56), false, false, []⟩,
    ⟨.yes, (some 58), .slice 9 (.tmp 52) none (some (.tmp 57)) none, false, false, []⟩,
    ⟨.yes, (some 59), .call ⟨.value (.func 11), #[(.tmp 58)], #[9]⟩, false, false, []⟩,
    ⟨.yes, (some 51), .move (.tmp 59), true, false, []⟩,
    ⟨.yes, (some 60), .extract (.tmp 51) 0, false, false, [(some 4)]⟩,
    ⟨.yes, (some 61), .extract (.tmp 51) 1, false, false, []⟩,
    ⟨.yes, (some 62), .extract (.tmp 51) 2, false, false, []⟩,
    ⟨.yes, (some 9), .assign (.tmp 60), true, false, [(some 4)]⟩,
    ⟨.yes, (some 10), .assign (.tmp 61), true, false, []⟩,
    ⟨.yes, (some 11), .assign (.tmp 62), true, false, []⟩] [0, 5, 8, 9, 11]) <|
  .seq (.drawn ⟨[13], [], [0, 5, 8, 9, 11, 12]⟩ [
    ⟨(some 63), .move (.tmp 5), 22, "law.go:112", #[], none⟩,
    ⟨(some 64), .move (.tmp 8), 3, "law.go:112", #[], none⟩,
    ⟨(some 65), .indexAddr 22 (.tmp 63) (.tmp 64), 0, "law.go:112", #[⟨0, .data⟩, ⟨1, .data⟩], none⟩,
    ⟨(some 66), .fieldAddr 38 (.tmp 65) 3, 0, "law.go:112", #[⟨2, .data⟩], none⟩,
    ⟨(some 67), .load 3 (.tmp 66), 3, "law.go:112", #[⟨3, .data⟩], none⟩,
    ⟨(some 68), .move (.tmp 5), 22, "law.go:112", #[], none⟩,
    ⟨(some 69), .move (.tmp 8), 3, "law.go:112", #[], none⟩,
    ⟨(some 70), .move (.tmp 8), 3, "law.go:112", #[], none⟩,
    ⟨(some 71), .binOp .add 3 (.tmp 70) (.const (.int .i64 (1))) 3, 3, "law.go:112", #[⟨7, .data⟩], none⟩,
    ⟨(some 72), .slice 22 (.tmp 68) (some (.tmp 69)) (some (.tmp 71)) none, 22, "law.go:112", #[⟨5, .data⟩, ⟨6, .data⟩, ⟨8, .data⟩], none⟩,
    ⟨(some 73), .call ⟨.value (.func 9), #[(.tmp 72)], #[22]⟩, 9, "law.go:112", #[⟨9, .data⟩], none⟩,
    ⟨(some 74), .call ⟨.builtin .len, #[(.tmp 73)], #[9]⟩, 3, "law.go:112", #[⟨10, .data⟩], none⟩,
    ⟨(some 75), .binOp .add 3 (.tmp 67) (.tmp 74) 3, 3, "law.go:112", #[⟨4, .data⟩, ⟨11, .data⟩], none⟩,
    ⟨(some 12), .assign (.tmp 75), 3, "law.go:112", #[⟨12, .data⟩, ⟨10, .chain⟩, ⟨0, .phase⟩, ⟨1, .phase⟩, ⟨2, .phase⟩, ⟨3, .phase⟩, ⟨4, .phase⟩, ⟨5, .phase⟩, ⟨6, .phase⟩, ⟨7, .phase⟩, ⟨8, .phase⟩, ⟨9, .phase⟩, ⟨10, .phase⟩, ⟨11, .phase⟩, ⟨12, .phase⟩], none⟩]) <|
  .seq (.region [
    ⟨.yes, (some 77), .move (.tmp 0), false, false, []⟩,
    ⟨.yes, (some 78), .move (.tmp 12), true, false, []⟩,
    ⟨.yes, (some 79), .move (.tmp 0), true, false, []⟩,
    ⟨.yes, (some 80), .call ⟨.builtin .len, #[(.tmp 79)], #[9]⟩, false, false, []⟩,
    ⟨.yes, (some 81), .call ⟨.builtin .min, #[(.tmp 78), (.tmp 80)], #[3, 3]⟩, false, false, []⟩,
    ⟨.yes, (some 82), .slice 9 (.tmp 77) none (some (.tmp 81)) none, false, false, []⟩,
    ⟨.yes, (some 83), .call ⟨.value (.func 11), #[(.tmp 82)], #[9]⟩, false, false, []⟩,
    ⟨.yes, (some 76), .move (.tmp 83), true, false, []⟩,
    ⟨.yes, (some 84), .extract (.tmp 76) 0, false, false, [(some 4)]⟩,
    ⟨.yes, (some 85), .extract (.tmp 76) 1, false, false, []⟩,
    ⟨.yes, (some 86), .extract (.tmp 76) 2, false, false, []⟩,
    ⟨.yes, (some 13), .assign (.tmp 84), true, false, [(some 4)]⟩,
    ⟨.yes, (some 14), .assign (.tmp 85), true, false, []⟩,
    ⟨.yes, (some 15), .assign (.tmp 86), true, false, []⟩] [5, 8, 9, 11, 13, 15]) <|
  .seq (.region [
    ⟨.yes, (some 87), .move (.tmp 11), true, false, []⟩,
    ⟨.yes, (some 88), .binOp .eql 26 (.tmp 87) (.const (.int .i64 (0))) 26, false, false, []⟩,
    ⟨.yes, (some 89), .move (.tmp 88), true, false, []⟩,
    ⟨(.on 89 true), (some 90), .move (.tmp 15), true, false, []⟩,
    ⟨(.on 89 true), (some 91), .binOp .eql 26 (.tmp 90) (.const (.int .i64 (0))) 26, false, false, []⟩,
    ⟨.yes, (some 92), .pick (.tmp 89) (.tmp 91) (.const (.bool false)), false, false, []⟩,
    ⟨.yes, (some 93), .move (.tmp 92), true, false, []⟩,
    ⟨(.on 93 true), (some 94), .move (.tmp 9), true, false, [(some 4)]⟩,
    ⟨(.on 93 true), (some 95), .move (.tmp 5), false, false, [(some 4)]⟩,
    ⟨(.on 93 true), (some 96), .move (.tmp 8), false, false, []⟩,
    ⟨(.on 93 true), (some 97), .slice 22 (.tmp 95) none (some (.tmp 96)) none, false, false, [(some 4)]⟩,
    ⟨(.on 93 true), (some 98), .call ⟨.value (.func 16), #[(.tmp 94), (.tmp 97)], #[22, 22]⟩, false, false, []⟩,
    ⟨.yes, (some 99), .pick (.tmp 93) (.tmp 98) (.const (.bool false)), false, false, []⟩,
    ⟨.yes, (some 100), .move (.tmp 99), true, false, []⟩,
    ⟨(.on 100 true), (some 101), .move (.tmp 13), true, false, [(some 4)]⟩,
    ⟨(.on 100 true), (some 102), .move (.tmp 5), true, false, [(some 4)]⟩,
    ⟨(.on 100 true), (some 103), .move (.tmp 8), true, false, []⟩,
    ⟨(.on 100 true), (some 104), .binOp .add 3 (.tmp 103) (.const (.int .i64 (1))) 3, false, false, []⟩,
    ⟨(.on 100 true), (some 105), .slice 22 (.tmp 102) none (some (.tmp 104)) none, false, false, [(some 4)]⟩,
    ⟨(.on 100 true), (some 106), .call ⟨.value (.func 16), #[(.tmp 101), (.tmp 105)], #[22, 22]⟩, false, false, []⟩,
    ⟨.yes, (some 107), .pick (.tmp 100) (.tmp 106) (.const (.bool false)), false, false, []⟩,
    ⟨.yes, (some 4), .assign (.tmp 107), true, false, []⟩] [4]) <|
  .ret

theorem c_lcuts_eq : ∃ c, Tryd.f7.body = some c ∧ codeOK Tryd.f7.ntmps c = true ∧ comp Tryd.prog (ann 7) c = erase c_lcuts := ⟨_, rfl, by kernel_rfl, by kernel_rfl⟩

theorem tree_lcuts (s : List UInt8) (n : Int) : fnT Xct c_lcuts Tryd.f7.results.toList [.d (.str s), .d (.int .i64 n)] [] = (
    .br false
 (.leaf (.d (.bool false), []))
 (.br (!decide (((scan s).2.2) = 0))
 (.leaf (.d (.bool true), []))
 (.br (decide ((((scan s).1.map encTok).length : Int) = 0))
 (.leaf (.d (.bool true), []))
 (.br (decide ((((scan s).1.map encTok).length : Int) = 0))
 (.fail)
 (.br (decide ((0 : Int) ≤ (modR n (((scan s).1.map encTok).length : Int))))
 (.opt ((((scan s).1.map encTok)[(Int.toNat (modR n (((scan s).1.map encTok).length : Int)))]?).bind unTok) fun y1 => .br (decide (y1.pos < 0))
 (.leaf (.d (.bool false), []))
 (.br (decide ((0 : Int) ≤ (modR n (((scan s).1.map encTok).length : Int))))
 (.opt ((((scan s).1.map encTok)[(Int.toNat (modR n (((scan s).1.map encTok).length : Int)))]?).bind unTok) fun y2 => .br (decide ((s.length : Int) < y2.pos))
 (.leaf (.d (.bool false), []))
 (.br (decide ((0 : Int) ≤ (modR n (((scan s).1.map encTok).length : Int))))
 (.opt ((((scan s).1.map encTok)[(Int.toNat (modR n (((scan s).1.map encTok).length : Int)))]?).bind unTok) fun y3 => .br (decide ((0 : Int) ≤ 0 ∧ (0 : Int) ≤ y3.pos ∧ y3.pos ≤ (s.length : Int)))
 (.br (decide ((0 : Int) ≤ (modR n (((scan s).1.map encTok).length : Int))))
 (.opt ((((scan s).1.map encTok)[(Int.toNat (modR n (((scan s).1.map encTok).length : Int)))]?).bind unTok) fun y4 => .br (decide ((0 : Int) ≤ (modR n (((scan s).1.map encTok).length : Int)) ∧ (modR n (((scan s).1.map encTok).length : Int)) ≤ (IntKind.i64.wrap ((modR n (((scan s).1.map encTok).length : Int)) + 1)) ∧ (IntKind.i64.wrap ((modR n (((scan s).1.map encTok).length : Int)) + 1)) ≤ (((scan s).1.map encTok).length : Int)))
 (.opt (unL unTok (List.drop (Int.toNat (modR n (((scan s).1.map encTok).length : Int))) (List.take (Int.toNat (IntKind.i64.wrap ((modR n (((scan s).1.map encTok).length : Int)) + 1))) ((scan s).1.map encTok)))) fun l5 => .br (decide ((l5.length : Int) ≤ 100000 ∧ ((prS l5).length : Int) ≤ 70368744177664) && l5.all inR)
 (.br (decide ((0 : Int) ≤ 0 ∧ (0 : Int) ≤ (if (s.length : Int) < (IntKind.i64.wrap (y4.pos + ((prS l5).length : Int))) then (s.length : Int) else IntKind.i64.wrap (y4.pos + ((prS l5).length : Int))) ∧ (if (s.length : Int) < (IntKind.i64.wrap (y4.pos + ((prS l5).length : Int))) then (s.length : Int) else IntKind.i64.wrap (y4.pos + ((prS l5).length : Int))) ≤ (s.length : Int)))
 (.br (decide (((scan (List.drop 0 (List.take (Int.toNat y3.pos) s))).2.2) = 0))
 (.br (decide (((scan (List.drop 0 (List.take (Int.toNat (if (s.length : Int) < (IntKind.i64.wrap (y4.pos + ((prS l5).length : Int))) then (s.length : Int) else IntKind.i64.wrap (y4.pos + ((prS l5).length : Int)))) s))).2.2) = 0))
 (.br (decide ((0 : Int) ≤ 0 ∧ (0 : Int) ≤ (modR n (((scan s).1.map encTok).length : Int)) ∧ (modR n (((scan s).1.map encTok).length : Int)) ≤ (((scan s).1.map encTok).length : Int)))
 (.opt (unToks ((scan (List.drop 0 (List.take (Int.toNat y3.pos) s))).1.map encTok)) fun a6 => .opt (unToks (List.drop 0 (List.take (Int.toNat (modR n (((scan s).1.map encTok).length : Int))) ((scan s).1.map encTok)))) fun b7 => .br (decide ((a6.length : Int) ≤ big))
 (.br (sameToks a6 b7 && eqPos a6 b7)
 (.br (decide ((0 : Int) ≤ 0 ∧ (0 : Int) ≤ (IntKind.i64.wrap ((modR n (((scan s).1.map encTok).length : Int)) + 1)) ∧ (IntKind.i64.wrap ((modR n (((scan s).1.map encTok).length : Int)) + 1)) ≤ (((scan s).1.map encTok).length : Int)))
 (.opt (unToks ((scan (List.drop 0 (List.take (Int.toNat (if (s.length : Int) < (IntKind.i64.wrap (y4.pos + ((prS l5).length : Int))) then (s.length : Int) else IntKind.i64.wrap (y4.pos + ((prS l5).length : Int)))) s))).1.map encTok)) fun a8 => .opt (unToks (List.drop 0 (List.take (Int.toNat (IntKind.i64.wrap ((modR n (((scan s).1.map encTok).length : Int)) + 1))) ((scan s).1.map encTok)))) fun b9 => .br (decide ((a8.length : Int) ≤ big))
 (.leaf (.d (.bool (sameToks a8 b9 && eqPos a8 b9)), []))
 (.fail))
 (.fail))
 (.leaf (.d (.bool false), [])))
 (.fail))
 (.fail))
 (.leaf (.d (.bool false), [])))
 (.leaf (.d (.bool false), [])))
 (.fail))
 (.fail))
 (.fail))
 (.fail))
 (.fail))
 (.fail)))
 (.fail)))
 (.fail))))) : Tr (AV × Hp)) := by kernel_rfl

end Go.AI.TD

/- TokenCuts in sum. -/
namespace Go.AI.TD
open Go Go.Proofs
set_option maxRecDepth 100000
set_option linter.unusedVariables false
set_option linter.unusedSimpArgs false

theorem Chain.at : ∀ {l : List Tok} {s : List UInt8} {i : Int} {n : Nat} {t : Tok}, Chain s i l → l[n]? = some t → t.pos + (prT t).length ≤ s.length ∧ inR t = true
  | [], _, _, _, _, _, h => by simp at h
  | x :: r, s, i, 0, t, ⟨h1, h2, h3, h4, h5, h6⟩, h => by
    obtain rfl : x = t := by simpa using h
    exact ⟨h2, h5⟩
  | x :: r, s, i, n + 1, t, ⟨h1, h2, h3, h4, h5, h6⟩, h => Chain.at (n := n) h6 (by simpa using h)

theorem cut_scan {s : List UInt8} (h0 : (scan s).2.2 = 0) {k : Nat} {t : Tok} (ht : (scan s).1[k]? = some t) : 0 ≤ t.pos ∧ t.pos + (prT t).length ≤ s.length ∧ inR t = true ∧
    scan (s.take t.pos.toNat) = ((scan s).1.take k, 0, 0) ∧ scan (s.take (t.pos.toNat + (prT t).length)) = ((scan s).1.take (k + 1), 0, 0) := by
  obtain ⟨h3, h4⟩ := (scan_chain h0).at ht
  obtain ⟨h5, h6, h7⟩ := scan_ok h0
  rw [h7] at ht ⊢
  obtain ⟨g1, g2, g3⟩ := scanF_cut (s.length + 1) s 0 (by omega) h6 k t ht
  have e : (t.pos - ((0 : Nat) : Int)).toNat = t.pos.toNat := by omega
  rw [e] at g2 g3
  have q : ∀ m, ((s.take m).length : Int) ≤ 4096 := fun m => by rw [List.length_take]; omega
  have l1 : (s.take t.pos.toNat).length = t.pos.toNat := by rw [List.length_take]; omega
  have l2 : (s.take (t.pos.toNat + (prT t).length)).length = t.pos.toNat + (prT t).length := by rw [List.length_take]; omega
  have g2' := g2 ((s.take t.pos.toNat).length + 1) (by omega)
  have g3' := g3 ((s.take (t.pos.toNat + (prT t).length)).length + 1) (by omega)
  rw [show ((0 : Nat) : Int) = 0 from rfl] at g2' g3'
  refine ⟨by omega, h3, h4, ?_, ?_⟩
  · rw [scan_of (q _) (by rw [g2']), g2']
  · rw [scan_of (q _) (by rw [g3']), g3']

def lcutsT : FT
  | [.d (.str s), .d (.int .i64 n)], [] => .leaf (.d (.bool true), [])
  | _, _ => .fail

theorem ok_lcuts : FnOK Tryd.prog gl 7 lcutsT := by
  refine fn_of (X := Xct) (xok_Xct 7) Tryd.func7 c_lcuts_eq (by kernel_rfl) (by simp only [Sums, c_lcuts, and_true]) ?_
  intro xs H o h
  unfold lcutsT at h
  split at h
  · rename_i s n
    rw [tree_lcuts]
    obtain rfl := Tr.leaf_some h
    refine (Tr.run_no rfl).trans ?_
    by_cases h0 : (scan s).2.2 = 0
    · rw [Tr.run_no (by simp [h0])]
      have hl := scan_len' s
      by_cases hz : (((scan s).1.map encTok).length : Int) = 0
      · exact Tr.dec_yes hz rfl
      refine Tr.dec_no hz (Tr.dec_no hz ?_)
      rw [List.length_map] at hz ⊢
      obtain ⟨h1, h2⟩ := modR_in (n := n) (m := ((scan s).1.length : Int)) (by omega) (by omega)
      generalize modR n ((scan s).1.length : Int) = m at h1 h2 ⊢
      obtain ⟨k, rfl⟩ := Int.eq_ofNat_of_zero_le h1
      simp only [Int.ofNat_eq_natCast, Int.toNat_natCast] at h1 h2 ⊢
      obtain ⟨t, ht⟩ : ∃ t, (scan s).1[k]? = some t := ⟨(scan s).1[k], List.getElem?_eq_getElem (by omega)⟩
      obtain ⟨g1, g2, g3, g4, g5⟩ := cut_scan h0 ht
      obtain ⟨h5, _⟩ := scan_ok h0
      have hw : IntKind.i64.wrap ((k : Int) + 1) = ((k + 1 : Nat) : Int) := by rw [wrap_in] <;> omega
      have hw2 : IntKind.i64.wrap (t.pos + ((prT t).length : Int)) = t.pos + ((prT t).length : Int) := by rw [wrap_in] <;> omega
      have hif : (if (s.length : Int) < t.pos + ((prT t).length : Int) then (s.length : Int) else t.pos + ((prT t).length : Int)) = t.pos + ((prT t).length : Int) := by rw [if_neg (by omega)]
      have hn : (t.pos + ((prT t).length : Int)).toNat = t.pos.toNat + (prT t).length := by omega
      simp only [tok_at, ht, hw, Int.toNat_natCast, sub_at ht]
      refine Tr.dec_yes h1 (Tr.opt_to rfl (Tr.dec_no (by omega) (Tr.dec_yes h1 (Tr.opt_to rfl (Tr.dec_no (by omega) (Tr.dec_yes h1 (Tr.opt_to rfl (Tr.dec_yes (by omega) (Tr.dec_yes h1 (Tr.opt_to rfl (Tr.dec_yes (by omega) (Tr.opt_to rfl ?_))))))))))))
      simp only [prS_one, hw2, hif, hn, List.drop_zero, g4, g5, ← List.map_take]
      rw [Tr.run_yes (by simp [g3]; omega)]
      refine Tr.dec_yes (by omega) (Tr.dec_yes trivial (Tr.dec_yes trivial (Tr.dec_yes (by omega) (Tr.opt_to (unToks_of _) (Tr.opt_to (unToks_of _) (Tr.dec_yes (by unfold big; rw [List.length_take]; omega) ?_))))))
      rw [same_refl, Tr.run_yes rfl]
      refine Tr.dec_yes (by omega) (Tr.opt_to (unToks_of _) (Tr.opt_to (unToks_of _) (Tr.dec_yes (by unfold big; rw [List.length_take]; omega) ?_)))
      rw [same_refl]; rfl
    · rw [Tr.run_yes (by simp [h0])]; rfl
  · exact Tr.fail_some h

end Go.AI.TD
