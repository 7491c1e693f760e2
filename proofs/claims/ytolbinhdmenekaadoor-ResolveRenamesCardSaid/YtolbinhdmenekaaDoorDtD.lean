/- ResolveRenames, in sum. -/
import Derived.Test.YtolbinhdmenekaaDoorDtA
namespace Go.AI.RD
open Go Go.Proofs
set_option maxRecDepth 10000
set_option linter.unusedVariables false
set_option linter.unusedSimpArgs false
noncomputable section

theorem ok_rename9 : FnOK Tryd.prog gl 15 (renameT 9) := ok_rename 9
theorem ok_samestmts9 : FnOK Tryd.prog gl 17 (samestmtsT 9) := ok_samestmts 9
def rnV (v : Var) : Var := ⟨[110, 95] ++ v.name, v.size, v.init⟩

def programT2 : FT
  | [.hp 0 0], [[.d (.sl 1 xs), .d (.int .i64 a)]] => .opt (unL unU8 xs) fun s => .br (decide (0 ≤ a ∧ a ≤ s.length ∧ (s.length : Int) ≤ 100000)) (.opt (some (drawP (s.drop a.toNat))) fun e => .leaf (.agg [.d (.sl 3 (e.1.vars.map encVar)), .d (.sl 18 (e.1.start.map encSt)), .d (.sl 18 (e.1.message.map encSt)), .d (.sl 18 (e.1.tick.map encSt)), .d (.sl 18 (e.1.input.map encSt))], [[.d (.sl 1 xs), .d (.int .i64 (atOf s e.2))]])) .fail
  | _, _ => .fail

def resolveT3 : FT
  | [.agg [.d (.sl 3 xs), .d (.sl 18 s1), .d (.sl 18 s2), .d (.sl 18 s3), .d (.sl 18 s4)]], [] => .opt (unL unVar xs) fun l => .br (decide ((l.length : Int) ≤ big) && (short l && fitP s1 s2 s3 s4)) (.br (resOK l s1 s2 s3 s4) (.opt (some (res1L l s1).1) fun w1 => .opt (some (res2L l s1 s2).1) fun w2 => .opt (some (res3L l s1 s2 s3).1) fun w3 => .opt (some (res4L l s1 s2 s3 s4).1) fun w4 => .leaf (.tup [.agg [.d (.sl 1 (ini l)), .d (.sl 18 (w1.map encSt)), .d (.sl 18 (w2.map encSt)), .d (.sl 18 (w3.map encSt)), .d (.sl 18 (w4.map encSt))], .d (.int .i64 0)], [])) (.leaf (.tup [.agg [.d (.sl 1 []), .d (.sl 18 []), .d (.sl 18 []), .d (.sl 18 []), .d (.sl 18 [])], .d (.int .i64 (resE l s1 s2 s3 s4))], []))) .fail
  | _, _ => .fail


theorem ok_program2 : FnOK Tryd.prog gl 8 programT2 := ok_program.imp fun ar H o h => by
  unfold programT2 at h
  unfold programT
  split at h
  · obtain ⟨s, hs, h⟩ := Tr.opt_some h
    rcases Tr.br_some h with ⟨h1, h2⟩ | ⟨_, h2⟩
    · exact Tr.opt_to hs ((Tr.run_yes h1).trans h2)
    · exact Tr.fail_some h2
  · exact Tr.fail_some h
theorem ok_resolve3 : FnOK Tryd.prog gl 10 resolveT3 := ok_resolve2.imp fun ar H o h => by
  unfold resolveT3 at h
  unfold resolveT2
  split at h
  · obtain ⟨l, hl, h⟩ := Tr.opt_some h
    refine Tr.opt_to hl ?_
    rcases Tr.br_some h with ⟨h1, h2⟩ | ⟨_, h2⟩
    · refine (Tr.run_yes h1).trans ?_
      rcases Tr.br_some h2 with ⟨h3, h4⟩ | ⟨h3, h4⟩ <;> rw [h3] <;> exact h4
    · exact Tr.fail_some h2
  · exact Tr.fail_some h

noncomputable abbrev Xlr : TX := ⟨Tryd.prog, tbl [(6, awakeT), (7, newT), (8, programT2), (10, resolveT3), (15, (renameT 9)), (17, (samestmtsT 9)), (16, sameintsT)], iso, gl, vw⟩

theorem xok_Xlr (f : Nat) : XOK Xlr (ann f) gl := XOK.of base (l := [(6, awakeT), (7, newT), (8, programT2), (10, resolveT3), (15, (renameT 9)), (17, (samestmtsT 9)), (16, sameintsT)]) ⟨ok_awake, ok_new, ok_program2, ok_resolve3, ok_rename9, ok_samestmts9, ok_sameints, trivial⟩ f

def L_lrenames_0 : ST → Tr (Ex × ST)
  | ⟨[(3, .box [.d (.sl 3 xs), .d (.sl 18 s1), .d (.sl 18 s2), .d (.sl 18 s3), .d (.sl 18 s4)]), (4, .box [.osl 3 [], .d (.sl 18 t1), .d (.sl 18 t2), .d (.sl 18 t3), .d (.sl 18 t4)]), (30, .d (.sl 3 ys)), (31, .d (.int .i64 m)), (32, .d (.int .i64 n))], [[.d (.sl 1 cs), .d (.int .i64 ca)]]⟩ => .opt (unL unVar ys) fun l => .opt (unL unVar xs) fun l2 => .br (decide (m = l.length ∧ n = 0 ∧ m ≤ 100 ∧ l = l2) && short l) (.leaf ((.ext 0), ⟨[(3, .box [.d (.sl 3 xs), .d (.sl 18 s1), .d (.sl 18 s2), .d (.sl 18 s3), .d (.sl 18 s4)]), (4, .box [.osl 3 ((l.map rnV).map encVar), .d (.sl 18 t1), .d (.sl 18 t2), .d (.sl 18 t3), .d (.sl 18 t4)])], [[.d (.sl 1 cs), .d (.int .i64 ca)]]⟩)) .fail
  | _ => .fail

def l_lrenames_0 : CC := .seq (.region [
    ⟨.yes, (some 33), .binOp .lss 3 (.tmp 32) (.tmp 31) 3, false, false, []⟩] [3, 4, 30, 31, 32, 33]) <|
  .seq (.cond (.tmp 33)
    (.skip)
    (.exit 0)) <|
  .seq (.block 1 <| .seq (.region [
    ⟨.yes, (some 34), .indexAddr 26 (.tmp 30) (.tmp 32), false, false, []⟩,
    ⟨.yes, (some 35), .load 42 (.tmp 34), false, false, []⟩,
    ⟨.yes, (some 6), .alloc 42, false, false, []⟩,
    ⟨.yes, none, .store 42 (.tmp 6) (.tmp 35), true, false, []⟩] [3, 4, 6, 30, 31, 32]) <|
  .seq (.region [
    ⟨.yes, (some 36), .fieldAddr 42 (.tmp 6) 0, false, false, []⟩,
    ⟨.yes, (some 37), .load 9 (.tmp 36), false, false, []⟩,
    ⟨.yes, (some 38), .binOp .add 9 (.const (.string ⟨#[110, 95]⟩)) (.tmp 37) 9, false, false, []⟩,
    ⟨.yes, (some 39), .fieldAddr 42 (.tmp 6) 0, false, false, []⟩,
    ⟨.yes, none, .store 9 (.tmp 39) (.tmp 38), true, false, []⟩] [3, 4, 6, 30, 31, 32]) <|
  .region [
    ⟨.yes, (some 40), .fieldAddr 29 (.tmp 4) 0, false, false, []⟩,
    ⟨.yes, (some 41), .load 26 (.tmp 40), true, false, [(some 3)]⟩,
    ⟨.yes, (some 42), .load 42 (.tmp 6), false, false, []⟩,
    ⟨.yes, (some 43), .buildSlice 26 1 #[(0, (.tmp 42))], false, false, [(some 3)]⟩,
    ⟨.yes, (some 44), .call ⟨.builtin .append, #[(.tmp 41), (.tmp 43)], #[26, 26]⟩, true, false, [(some 3)]⟩,
    ⟨.yes, (some 45), .fieldAddr 29 (.tmp 4) 0, false, false, []⟩,
    ⟨.yes, none, .store 26 (.tmp 45) (.tmp 44), true, false, []⟩] [3, 4, 30, 31, 32]) <|
  .region [
    ⟨.yes, (some 46), .binOp .add 3 (.tmp 32) (.const (.int .i64 (1))) 3, false, false, []⟩,
    ⟨.yes, (some 32), .move (.tmp 46), true, false, []⟩] [3, 4, 30, 31, 32]

/-- rollbacknet/rollbacknetlaw03.ResolveRenames -/
def c_lrenames : CC := .seq (.region [
    ⟨.yes, (some 2), .assign (.const (.bool false)), false, false, []⟩] [0]) <|
  .seq (.seq (.region [
    ⟨.yes, (some 11), .call ⟨.value (.func 6), #[], #[]⟩, false, false, []⟩,
    ⟨.yes, (some 12), .unOp .not 4 (.tmp 11), false, false, []⟩] [0, 12]) <|
  .cond (.tmp 12)
    (.seq (.region [
      ⟨.yes, (some 2), .assign (.const (.bool false)), false, false, []⟩] [2]) <|
    .ret)
    (.skip)) <|
  .seq (.region [
    ⟨.yes, (some 13), .move (.tmp 0), true, false, [(some 1)]⟩,
    ⟨.yes, (some 14), .call ⟨.value (.func 7), #[(.tmp 13), (.const (.int .i64 (200)))], #[22, 3]⟩, false, false, []⟩,
    ⟨.yes, (some 15), .call ⟨.value (.func 8), #[(.tmp 14)], #[24]⟩, false, false, [(some 3), (some 18), (some 18), (some 18), (some 18)]⟩,
    ⟨.yes, (some 3), .alloc 29, false, false, []⟩,
    ⟨.yes, none, .store 29 (.tmp 3) (.tmp 15), true, false, []⟩] [3]) <|
  .seq (.drawn ⟨[12, 14], [], [3, 4]⟩ [
    ⟨(some 16), .fieldAddr 29 (.tmp 3) 1, 0, "law.go:167", #[], none⟩,
    ⟨(some 17), .load 27 (.tmp 16), 27, "law.go:167", #[⟨0, .data⟩], none⟩,
    ⟨(some 18), .call ⟨.value (.func 15), #[(.tmp 17)], #[27]⟩, 27, "law.go:167", #[⟨1, .data⟩], none⟩,
    ⟨(some 19), .fieldAddr 29 (.tmp 3) 2, 0, "law.go:167", #[], none⟩,
    ⟨(some 20), .load 27 (.tmp 19), 27, "law.go:167", #[⟨3, .data⟩], none⟩,
    ⟨(some 21), .call ⟨.value (.func 15), #[(.tmp 20)], #[27]⟩, 27, "law.go:167", #[⟨4, .data⟩, ⟨2, .chain⟩], none⟩,
    ⟨(some 22), .fieldAddr 29 (.tmp 3) 3, 0, "law.go:167", #[], none⟩,
    ⟨(some 23), .load 27 (.tmp 22), 27, "law.go:167", #[⟨6, .data⟩], none⟩,
    ⟨(some 24), .call ⟨.value (.func 15), #[(.tmp 23)], #[27]⟩, 27, "law.go:167", #[⟨7, .data⟩, ⟨5, .chain⟩], none⟩,
    ⟨(some 25), .fieldAddr 29 (.tmp 3) 4, 0, "law.go:167", #[], none⟩,
    ⟨(some 26), .load 27 (.tmp 25), 27, "law.go:167", #[⟨9, .data⟩], none⟩,
    ⟨(some 27), .call ⟨.value (.func 15), #[(.tmp 26)], #[27]⟩, 27, "law.go:167", #[⟨10, .data⟩, ⟨8, .chain⟩], none⟩,
    ⟨(some 28), .build 29 #[(1, (.tmp 18)), (2, (.tmp 21)), (3, (.tmp 24)), (4, (.tmp 27))], 29, "law.go:167", #[⟨2, .data⟩, ⟨5, .data⟩, ⟨8, .data⟩, ⟨11, .data⟩], none⟩,
    ⟨(some 4), .alloc 29, 0, "law.go:167", #[], none⟩,
    ⟨none, .store 29 (.tmp 4) (.tmp 28), 0, "law.go:167", #[⟨13, .data⟩, ⟨12, .data⟩, ⟨11, .chain⟩, ⟨0, .phase⟩, ⟨1, .phase⟩, ⟨2, .phase⟩, ⟨3, .phase⟩, ⟨4, .phase⟩, ⟨5, .phase⟩, ⟨6, .phase⟩, ⟨7, .phase⟩, ⟨8, .phase⟩, ⟨9, .phase⟩, ⟨10, .phase⟩, ⟨11, .phase⟩, ⟨12, .phase⟩, ⟨13, .phase⟩], none⟩]) <|
  .seq (.seq (.region [
    ⟨.yes, (some 29), .fieldAddr 29 (.tmp 3) 0, false, false, []⟩,
    ⟨.yes, (some 30), .load 26 (.tmp 29), false, false, [(some 3)]⟩,
    ⟨.yes, (some 31), .call ⟨.builtin .len, #[(.tmp 30)], #[26]⟩, false, false, []⟩,
    ⟨.yes, (some 32), .move (.const (.int .i64 (0))), false, false, []⟩] [3, 4, 30, 31, 32]) <|
  .block 0 <| .keep [3, 4, 30, 31, 32] <| .sum L_lrenames_0 (.loop l_lrenames_0)) <|
  .seq (.region [
    ⟨.yes, (some 48), .load 29 (.tmp 3), false, false, [(some 3), (some 18), (some 18), (some 18), (some 18)]⟩,
    ⟨.yes, (some 49), .call ⟨.value (.func 10), #[(.tmp 48)], #[29]⟩, false, false, []⟩,
    ⟨.yes, (some 47), .move (.tmp 49), true, false, []⟩,
    ⟨.yes, (some 50), .extract (.tmp 47) 0, false, false, [(some 1), (some 18), (some 18), (some 18), (some 18)]⟩,
    ⟨.yes, (some 51), .extract (.tmp 47) 1, false, false, []⟩,
    ⟨.yes, (some 7), .alloc 35, false, false, []⟩,
    ⟨.yes, none, .store 35 (.tmp 7) (.tmp 50), true, false, []⟩,
    ⟨.yes, (some 8), .assign (.tmp 51), true, false, []⟩] [4, 7, 8]) <|
  .seq (.region [
    ⟨.yes, (some 53), .load 29 (.tmp 4), false, false, [(some 3), (some 18), (some 18), (some 18), (some 18)]⟩,
    ⟨.yes, (some 54), .call ⟨.value (.func 10), #[(.tmp 53)], #[29]⟩, false, false, []⟩,
    ⟨.yes, (some 52), .move (.tmp 54), true, false, []⟩,
    ⟨.yes, (some 55), .extract (.tmp 52) 0, false, false, [(some 1), (some 18), (some 18), (some 18), (some 18)]⟩,
    ⟨.yes, (some 56), .extract (.tmp 52) 1, false, false, []⟩,
    ⟨.yes, (some 9), .alloc 35, false, false, []⟩,
    ⟨.yes, none, .store 35 (.tmp 9) (.tmp 55), true, false, []⟩,
    ⟨.yes, (some 10), .assign (.tmp 56), true, false, []⟩] [7, 8, 9, 10]) <|
  .seq (.drawn ⟨[0, 2, 3, 6, 13, 21, 29, 37, 45], [], [2]⟩ [
    ⟨(some 57), .move (.tmp 8), 36, "law.go:174", #[], none⟩,
    ⟨(some 58), .binOp .eql 36 (.tmp 57) (.const (.int .i64 (0))) 36, 4, "law.go:174", #[⟨0, .data⟩], none⟩,
    ⟨(some 59), .move (.tmp 58), 4, "law.go:174", #[⟨1, .data⟩], none⟩,
    ⟨(some 60), .move (.tmp 10), 36, "law.go:174", #[⟨2, .guard⟩], (some (2, true))⟩,
    ⟨(some 61), .binOp .eql 36 (.tmp 60) (.const (.int .i64 (0))) 36, 4, "law.go:174", #[⟨3, .data⟩, ⟨2, .guard⟩], (some (2, true))⟩,
    ⟨(some 62), .pick (.tmp 59) (.tmp 61) (.const (.bool false)), 4, "law.go:174", #[⟨2, .data⟩, ⟨4, .data⟩], none⟩,
    ⟨(some 63), .move (.tmp 62), 4, "law.go:174", #[⟨5, .data⟩, ⟨2, .chain⟩], none⟩,
    ⟨(some 64), .fieldAddr 35 (.tmp 7) 0, 0, "law.go:174", #[⟨6, .guard⟩], (some (6, true))⟩,
    ⟨(some 65), .load 33 (.tmp 64), 33, "law.go:174", #[⟨7, .data⟩, ⟨6, .guard⟩], (some (6, true))⟩,
    ⟨(some 66), .fieldAddr 35 (.tmp 9) 0, 0, "law.go:174", #[⟨6, .guard⟩], (some (6, true))⟩,
    ⟨(some 67), .load 33 (.tmp 66), 33, "law.go:174", #[⟨9, .data⟩, ⟨6, .guard⟩], (some (6, true))⟩,
    ⟨(some 68), .call ⟨.value (.func 16), #[(.tmp 65), (.tmp 67)], #[33, 33]⟩, 4, "law.go:174", #[⟨8, .data⟩, ⟨10, .data⟩, ⟨6, .chain⟩, ⟨6, .guard⟩], (some (6, true))⟩,
    ⟨(some 69), .pick (.tmp 63) (.tmp 68) (.const (.bool false)), 4, "law.go:174", #[⟨6, .data⟩, ⟨11, .data⟩], none⟩,
    ⟨(some 70), .move (.tmp 69), 4, "law.go:174", #[⟨12, .data⟩, ⟨11, .chain⟩], none⟩,
    ⟨(some 71), .fieldAddr 35 (.tmp 7) 2, 0, "law.go:174", #[⟨13, .guard⟩], (some (13, true))⟩,
    ⟨(some 72), .load 27 (.tmp 71), 27, "law.go:174", #[⟨14, .data⟩, ⟨13, .guard⟩], (some (13, true))⟩,
    ⟨(some 73), .call ⟨.value (.func 15), #[(.tmp 72)], #[27]⟩, 27, "law.go:174", #[⟨15, .data⟩, ⟨13, .chain⟩, ⟨13, .guard⟩], (some (13, true))⟩,
    ⟨(some 74), .fieldAddr 35 (.tmp 9) 2, 0, "law.go:174", #[⟨13, .guard⟩], (some (13, true))⟩,
    ⟨(some 75), .load 27 (.tmp 74), 27, "law.go:174", #[⟨17, .data⟩, ⟨13, .guard⟩], (some (13, true))⟩,
    ⟨(some 76), .call ⟨.value (.func 17), #[(.tmp 73), (.tmp 75)], #[27, 27]⟩, 4, "law.go:174", #[⟨16, .data⟩, ⟨18, .data⟩, ⟨16, .chain⟩, ⟨13, .guard⟩], (some (13, true))⟩,
    ⟨(some 77), .pick (.tmp 70) (.tmp 76) (.const (.bool false)), 4, "law.go:174", #[⟨13, .data⟩, ⟨19, .data⟩], none⟩,
    ⟨(some 78), .move (.tmp 77), 4, "law.go:174", #[⟨20, .data⟩, ⟨19, .chain⟩], none⟩,
    ⟨(some 79), .fieldAddr 35 (.tmp 7) 1, 0, "law.go:174", #[⟨21, .guard⟩], (some (21, true))⟩,
    ⟨(some 80), .load 27 (.tmp 79), 27, "law.go:174", #[⟨22, .data⟩, ⟨21, .guard⟩], (some (21, true))⟩,
    ⟨(some 81), .call ⟨.value (.func 15), #[(.tmp 80)], #[27]⟩, 27, "law.go:174", #[⟨23, .data⟩, ⟨21, .chain⟩, ⟨21, .guard⟩], (some (21, true))⟩,
    ⟨(some 82), .fieldAddr 35 (.tmp 9) 1, 0, "law.go:174", #[⟨21, .guard⟩], (some (21, true))⟩,
    ⟨(some 83), .load 27 (.tmp 82), 27, "law.go:174", #[⟨25, .data⟩, ⟨21, .guard⟩], (some (21, true))⟩,
    ⟨(some 84), .call ⟨.value (.func 17), #[(.tmp 81), (.tmp 83)], #[27, 27]⟩, 4, "law.go:174", #[⟨24, .data⟩, ⟨26, .data⟩, ⟨24, .chain⟩, ⟨21, .guard⟩], (some (21, true))⟩,
    ⟨(some 85), .pick (.tmp 78) (.tmp 84) (.const (.bool false)), 4, "law.go:174", #[⟨21, .data⟩, ⟨27, .data⟩], none⟩,
    ⟨(some 86), .move (.tmp 85), 4, "law.go:174", #[⟨28, .data⟩, ⟨27, .chain⟩], none⟩,
    ⟨(some 87), .fieldAddr 35 (.tmp 7) 3, 0, "law.go:174", #[⟨29, .guard⟩], (some (29, true))⟩,
    ⟨(some 88), .load 27 (.tmp 87), 27, "law.go:174", #[⟨30, .data⟩, ⟨29, .guard⟩], (some (29, true))⟩,
    ⟨(some 89), .call ⟨.value (.func 15), #[(.tmp 88)], #[27]⟩, 27, "law.go:174", #[⟨31, .data⟩, ⟨29, .chain⟩, ⟨29, .guard⟩], (some (29, true))⟩,
    ⟨(some 90), .fieldAddr 35 (.tmp 9) 3, 0, "law.go:174", #[⟨29, .guard⟩], (some (29, true))⟩,
    ⟨(some 91), .load 27 (.tmp 90), 27, "law.go:174", #[⟨33, .data⟩, ⟨29, .guard⟩], (some (29, true))⟩,
    ⟨(some 92), .call ⟨.value (.func 17), #[(.tmp 89), (.tmp 91)], #[27, 27]⟩, 4, "law.go:174", #[⟨32, .data⟩, ⟨34, .data⟩, ⟨32, .chain⟩, ⟨29, .guard⟩], (some (29, true))⟩,
    ⟨(some 93), .pick (.tmp 86) (.tmp 92) (.const (.bool false)), 4, "law.go:174", #[⟨29, .data⟩, ⟨35, .data⟩], none⟩,
    ⟨(some 94), .move (.tmp 93), 4, "law.go:174", #[⟨36, .data⟩, ⟨35, .chain⟩], none⟩,
    ⟨(some 95), .fieldAddr 35 (.tmp 7) 4, 0, "law.go:174", #[⟨37, .guard⟩], (some (37, true))⟩,
    ⟨(some 96), .load 27 (.tmp 95), 27, "law.go:174", #[⟨38, .data⟩, ⟨37, .guard⟩], (some (37, true))⟩,
    ⟨(some 97), .call ⟨.value (.func 15), #[(.tmp 96)], #[27]⟩, 27, "law.go:174", #[⟨39, .data⟩, ⟨37, .chain⟩, ⟨37, .guard⟩], (some (37, true))⟩,
    ⟨(some 98), .fieldAddr 35 (.tmp 9) 4, 0, "law.go:174", #[⟨37, .guard⟩], (some (37, true))⟩,
    ⟨(some 99), .load 27 (.tmp 98), 27, "law.go:174", #[⟨41, .data⟩, ⟨37, .guard⟩], (some (37, true))⟩,
    ⟨(some 100), .call ⟨.value (.func 17), #[(.tmp 97), (.tmp 99)], #[27, 27]⟩, 4, "law.go:174", #[⟨40, .data⟩, ⟨42, .data⟩, ⟨40, .chain⟩, ⟨37, .guard⟩], (some (37, true))⟩,
    ⟨(some 101), .pick (.tmp 94) (.tmp 100) (.const (.bool false)), 4, "law.go:174", #[⟨37, .data⟩, ⟨43, .data⟩], none⟩,
    ⟨(some 2), .assign (.tmp 101), 4, "law.go:174", #[⟨44, .data⟩, ⟨43, .chain⟩, ⟨0, .phase⟩, ⟨1, .phase⟩, ⟨2, .phase⟩, ⟨3, .phase⟩, ⟨4, .phase⟩, ⟨5, .phase⟩, ⟨6, .phase⟩, ⟨7, .phase⟩, ⟨8, .phase⟩, ⟨9, .phase⟩, ⟨10, .phase⟩, ⟨11, .phase⟩, ⟨12, .phase⟩, ⟨13, .phase⟩, ⟨14, .phase⟩, ⟨15, .phase⟩, ⟨16, .phase⟩, ⟨17, .phase⟩, ⟨18, .phase⟩, ⟨19, .phase⟩, ⟨20, .phase⟩, ⟨21, .phase⟩, ⟨22, .phase⟩, ⟨23, .phase⟩, ⟨24, .phase⟩, ⟨25, .phase⟩, ⟨26, .phase⟩, ⟨27, .phase⟩, ⟨28, .phase⟩, ⟨29, .phase⟩, ⟨30, .phase⟩, ⟨31, .phase⟩, ⟨32, .phase⟩, ⟨33, .phase⟩, ⟨34, .phase⟩, ⟨35, .phase⟩, ⟨36, .phase⟩, ⟨37, .phase⟩, ⟨38, .phase⟩, ⟨39, .phase⟩, ⟨40, .phase⟩, ⟨41, .phase⟩, ⟨42, .phase⟩, ⟨43, .phase⟩, ⟨44, .phase⟩], none⟩]) <|
  .ret

theorem c_lrenames_eq : ∃ c, Tryd.f5.body = some c ∧ codeOK Tryd.f5.ntmps c = true ∧ comp Tryd.prog (ann 5) c = erase c_lrenames := ⟨_, rfl, by kernel_rfl, by kernel_rfl⟩

theorem body_lrenames_0 (cs xs ys out s1 s2 s3 s4 t1 t2 t3 t4 : List DV) (ca m n : Int) : bodyT Xlr [3, 4, 30, 31, 32] [2] [(0, [3, 4])] l_lrenames_0 ⟨[(3, .box [.d (.sl 3 xs), .d (.sl 18 s1), .d (.sl 18 s2), .d (.sl 18 s3), .d (.sl 18 s4)]), (4, .box [.osl 3 out, .d (.sl 18 t1), .d (.sl 18 t2), .d (.sl 18 t3), .d (.sl 18 t4)]), (30, .d (.sl 3 ys)), (31, .d (.int .i64 m)), (32, .d (.int .i64 n))], [[.d (.sl 1 cs), .d (.int .i64 ca)]]⟩ = (
    .br (decide (n < m))
 (.br (decide ((0 : Int) ≤ n))
 (.opt ((ys[(Int.toNat n)]?).bind unVar) fun y1 => .br (decide (([110, 95] : List UInt8).length + y1.name.length ≤ 9223372036854775807))
 (.br (decide ((out.length + ([(.agg [.str ([110, 95] ++ y1.name), .int .i64 y1.size, .int .i64 y1.init])] : List DV).length) * 32 ≤ 70368744177664))
 (.leaf (.nrm, ⟨[(3, .box [.d (.sl 3 xs), .d (.sl 18 s1), .d (.sl 18 s2), .d (.sl 18 s3), .d (.sl 18 s4)]), (4, .box [.osl 3 (out ++ [(.agg [.str ([110, 95] ++ y1.name), .int .i64 y1.size, .int .i64 y1.init])]), .d (.sl 18 t1), .d (.sl 18 t2), .d (.sl 18 t3), .d (.sl 18 t4)]), (30, .d (.sl 3 ys)), (31, .d (.int .i64 m)), (32, .d (.int .i64 (IntKind.i64.wrap (n + 1))))], [[.d (.sl 1 cs), .d (.int .i64 ca)]]⟩))
 (.fail))
 (.fail))
 (.fail))
 (.leaf ((.ext 0), ⟨[(3, .box [.d (.sl 3 xs), .d (.sl 18 s1), .d (.sl 18 s2), .d (.sl 18 s3), .d (.sl 18 s4)]), (4, .box [.osl 3 out, .d (.sl 18 t1), .d (.sl 18 t2), .d (.sl 18 t3), .d (.sl 18 t4)])], [[.d (.sl 1 cs), .d (.int .i64 ca)]]⟩)) : Tr (Ex × ST)) := by kernel_rfl

theorem tree_lrenames (xs : List DV) : fnT Xlr c_lrenames Tryd.f5.results.toList [.d (.sl 1 xs)] [] = (
    .br false
 (.leaf (.d (.bool false), []))
 (.opt (unL unU8 xs) fun s1 => .br (decide (0 ≤ (200 : Int)))
 (.opt (unL unU8 ((s1.take (200 : Int).toNat).map encU8)) fun s2 => .br (decide (0 ≤ (0 : Int) ∧ (0 : Int) ≤ s2.length ∧ (s2.length : Int) ≤ 100000))
 (.opt (some (drawP (s2.drop (0 : Int).toNat))) fun e3 => .br (fitS 9 (e3.1.start.map encSt))
 (.br (fitS 9 (e3.1.message.map encSt))
 (.br (fitS 9 (e3.1.tick.map encSt))
 (.br (fitS 9 (e3.1.input.map encSt))
 (.opt (unL unVar (e3.1.vars.map encVar)) fun l4 => .opt (unL unVar (e3.1.vars.map encVar)) fun l25 => .br (decide (((e3.1.vars.map encVar).length : Int) = l4.length ∧ (0 : Int) = 0 ∧ ((e3.1.vars.map encVar).length : Int) ≤ 100 ∧ l4 = l25) && short l4)
 (.opt (unL unVar (e3.1.vars.map encVar)) fun l6 => .br (decide ((l6.length : Int) ≤ big) && (short l6 && fitP (e3.1.start.map encSt) (e3.1.message.map encSt) (e3.1.tick.map encSt) (e3.1.input.map encSt)))
 (.br (resOK l6 (e3.1.start.map encSt) (e3.1.message.map encSt) (e3.1.tick.map encSt) (e3.1.input.map encSt))
 (.opt (some (res1L l6 (e3.1.start.map encSt)).1) fun w17 => .opt (some (res2L l6 (e3.1.start.map encSt) (e3.1.message.map encSt)).1) fun w28 => .opt (some (res3L l6 (e3.1.start.map encSt) (e3.1.message.map encSt) (e3.1.tick.map encSt)).1) fun w39 => .opt (some (res4L l6 (e3.1.start.map encSt) (e3.1.message.map encSt) (e3.1.tick.map encSt) (e3.1.input.map encSt)).1) fun w410 => .opt (unL unVar ((l4.map rnV).map encVar)) fun l11 => .br (decide ((l11.length : Int) ≤ big) && (short l11 && fitP ((rnS 9 (e3.1.start.map encSt)).map encSt) ((rnS 9 (e3.1.message.map encSt)).map encSt) ((rnS 9 (e3.1.tick.map encSt)).map encSt) ((rnS 9 (e3.1.input.map encSt)).map encSt)))
 (.br (resOK l11 ((rnS 9 (e3.1.start.map encSt)).map encSt) ((rnS 9 (e3.1.message.map encSt)).map encSt) ((rnS 9 (e3.1.tick.map encSt)).map encSt) ((rnS 9 (e3.1.input.map encSt)).map encSt))
 (.opt (some (res1L l11 ((rnS 9 (e3.1.start.map encSt)).map encSt)).1) fun w112 => .opt (some (res2L l11 ((rnS 9 (e3.1.start.map encSt)).map encSt) ((rnS 9 (e3.1.message.map encSt)).map encSt)).1) fun w213 => .opt (some (res3L l11 ((rnS 9 (e3.1.start.map encSt)).map encSt) ((rnS 9 (e3.1.message.map encSt)).map encSt) ((rnS 9 (e3.1.tick.map encSt)).map encSt)).1) fun w314 => .opt (some (res4L l11 ((rnS 9 (e3.1.start.map encSt)).map encSt) ((rnS 9 (e3.1.message.map encSt)).map encSt) ((rnS 9 (e3.1.tick.map encSt)).map encSt) ((rnS 9 (e3.1.input.map encSt)).map encSt)).1) fun w415 => .br (decide ((0 : Int) = 0))
 (.br (decide ((0 : Int) = 0))
 (.opt (unL unI (ini l6)) fun l16 => .br (eqB (ini l6) (ini l11) && decide ((l16.length : Int) ≤ 100000))
 (.br true
 (.br (fitS 9 (w28.map encSt))
 (.br (eqB ((rnS 9 (w28.map encSt)).map encSt) (w213.map encSt) && fitS 9 ((rnS 9 (w28.map encSt)).map encSt))
 (.br true
 (.br (fitS 9 (w17.map encSt))
 (.br (eqB ((rnS 9 (w17.map encSt)).map encSt) (w112.map encSt) && fitS 9 ((rnS 9 (w17.map encSt)).map encSt))
 (.br true
 (.br (fitS 9 (w39.map encSt))
 (.br (eqB ((rnS 9 (w39.map encSt)).map encSt) (w314.map encSt) && fitS 9 ((rnS 9 (w39.map encSt)).map encSt))
 (.br true
 (.br (fitS 9 (w410.map encSt))
 (.br (eqB ((rnS 9 (w410.map encSt)).map encSt) (w415.map encSt) && fitS 9 ((rnS 9 (w410.map encSt)).map encSt))
 (.leaf (.d (.bool true), [[.d (.sl 1 ((s1.take (200 : Int).toNat).map encU8)), .d (.int .i64 (atOf s2 e3.2))]]))
 (.fail))
 (.fail))
 (.leaf (.d (.bool false), [[.d (.sl 1 ((s1.take (200 : Int).toNat).map encU8)), .d (.int .i64 (atOf s2 e3.2))]])))
 (.fail))
 (.fail))
 (.leaf (.d (.bool false), [[.d (.sl 1 ((s1.take (200 : Int).toNat).map encU8)), .d (.int .i64 (atOf s2 e3.2))]])))
 (.fail))
 (.fail))
 (.leaf (.d (.bool false), [[.d (.sl 1 ((s1.take (200 : Int).toNat).map encU8)), .d (.int .i64 (atOf s2 e3.2))]])))
 (.fail))
 (.fail))
 (.leaf (.d (.bool false), [[.d (.sl 1 ((s1.take (200 : Int).toNat).map encU8)), .d (.int .i64 (atOf s2 e3.2))]])))
 (.fail))
 (.leaf (.d (.bool false), [[.d (.sl 1 ((s1.take (200 : Int).toNat).map encU8)), .d (.int .i64 (atOf s2 e3.2))]])))
 (.leaf (.d (.bool false), [[.d (.sl 1 ((s1.take (200 : Int).toNat).map encU8)), .d (.int .i64 (atOf s2 e3.2))]])))
 (.br (decide ((0 : Int) = 0))
 (.br (decide ((resE l11 ((rnS 9 (e3.1.start.map encSt)).map encSt) ((rnS 9 (e3.1.message.map encSt)).map encSt) ((rnS 9 (e3.1.tick.map encSt)).map encSt) ((rnS 9 (e3.1.input.map encSt)).map encSt)) = 0))
 (.opt (unL unI (ini l6)) fun l17 => .br (eqB (ini l6) ([] : List DV) && decide ((l17.length : Int) ≤ 100000))
 (.br true
 (.br (fitS 9 (w28.map encSt))
 (.br (eqB ((rnS 9 (w28.map encSt)).map encSt) ([] : List DV) && fitS 9 ((rnS 9 (w28.map encSt)).map encSt))
 (.br true
 (.br (fitS 9 (w17.map encSt))
 (.br (eqB ((rnS 9 (w17.map encSt)).map encSt) ([] : List DV) && fitS 9 ((rnS 9 (w17.map encSt)).map encSt))
 (.br true
 (.br (fitS 9 (w39.map encSt))
 (.br (eqB ((rnS 9 (w39.map encSt)).map encSt) ([] : List DV) && fitS 9 ((rnS 9 (w39.map encSt)).map encSt))
 (.br true
 (.br (fitS 9 (w410.map encSt))
 (.br (eqB ((rnS 9 (w410.map encSt)).map encSt) ([] : List DV) && fitS 9 ((rnS 9 (w410.map encSt)).map encSt))
 (.leaf (.d (.bool true), [[.d (.sl 1 ((s1.take (200 : Int).toNat).map encU8)), .d (.int .i64 (atOf s2 e3.2))]]))
 (.fail))
 (.fail))
 (.leaf (.d (.bool false), [[.d (.sl 1 ((s1.take (200 : Int).toNat).map encU8)), .d (.int .i64 (atOf s2 e3.2))]])))
 (.fail))
 (.fail))
 (.leaf (.d (.bool false), [[.d (.sl 1 ((s1.take (200 : Int).toNat).map encU8)), .d (.int .i64 (atOf s2 e3.2))]])))
 (.fail))
 (.fail))
 (.leaf (.d (.bool false), [[.d (.sl 1 ((s1.take (200 : Int).toNat).map encU8)), .d (.int .i64 (atOf s2 e3.2))]])))
 (.fail))
 (.fail))
 (.leaf (.d (.bool false), [[.d (.sl 1 ((s1.take (200 : Int).toNat).map encU8)), .d (.int .i64 (atOf s2 e3.2))]])))
 (.fail))
 (.leaf (.d (.bool false), [[.d (.sl 1 ((s1.take (200 : Int).toNat).map encU8)), .d (.int .i64 (atOf s2 e3.2))]])))
 (.leaf (.d (.bool false), [[.d (.sl 1 ((s1.take (200 : Int).toNat).map encU8)), .d (.int .i64 (atOf s2 e3.2))]]))))
 (.fail))
 (.opt (unL unVar ((l4.map rnV).map encVar)) fun l18 => .br (decide ((l18.length : Int) ≤ big) && (short l18 && fitP ((rnS 9 (e3.1.start.map encSt)).map encSt) ((rnS 9 (e3.1.message.map encSt)).map encSt) ((rnS 9 (e3.1.tick.map encSt)).map encSt) ((rnS 9 (e3.1.input.map encSt)).map encSt)))
 (.br (resOK l18 ((rnS 9 (e3.1.start.map encSt)).map encSt) ((rnS 9 (e3.1.message.map encSt)).map encSt) ((rnS 9 (e3.1.tick.map encSt)).map encSt) ((rnS 9 (e3.1.input.map encSt)).map encSt))
 (.opt (some (res1L l18 ((rnS 9 (e3.1.start.map encSt)).map encSt)).1) fun w119 => .opt (some (res2L l18 ((rnS 9 (e3.1.start.map encSt)).map encSt) ((rnS 9 (e3.1.message.map encSt)).map encSt)).1) fun w220 => .opt (some (res3L l18 ((rnS 9 (e3.1.start.map encSt)).map encSt) ((rnS 9 (e3.1.message.map encSt)).map encSt) ((rnS 9 (e3.1.tick.map encSt)).map encSt)).1) fun w321 => .opt (some (res4L l18 ((rnS 9 (e3.1.start.map encSt)).map encSt) ((rnS 9 (e3.1.message.map encSt)).map encSt) ((rnS 9 (e3.1.tick.map encSt)).map encSt) ((rnS 9 (e3.1.input.map encSt)).map encSt)).1) fun w422 => .br (decide ((resE l6 (e3.1.start.map encSt) (e3.1.message.map encSt) (e3.1.tick.map encSt) (e3.1.input.map encSt)) = 0))
 (.br (decide ((0 : Int) = 0))
 (.opt (unL unI ([] : List DV)) fun l23 => .br (eqB ([] : List DV) (ini l18) && decide ((l23.length : Int) ≤ 100000))
 (.br true
 (.br (fitS 9 ([] : List DV))
 (.br (eqB ((rnS 9 ([] : List DV)).map encSt) (w220.map encSt) && fitS 9 ((rnS 9 ([] : List DV)).map encSt))
 (.br true
 (.br (fitS 9 ([] : List DV))
 (.br (eqB ((rnS 9 ([] : List DV)).map encSt) (w119.map encSt) && fitS 9 ((rnS 9 ([] : List DV)).map encSt))
 (.br true
 (.br (fitS 9 ([] : List DV))
 (.br (eqB ((rnS 9 ([] : List DV)).map encSt) (w321.map encSt) && fitS 9 ((rnS 9 ([] : List DV)).map encSt))
 (.br true
 (.br (fitS 9 ([] : List DV))
 (.br (eqB ((rnS 9 ([] : List DV)).map encSt) (w422.map encSt) && fitS 9 ((rnS 9 ([] : List DV)).map encSt))
 (.leaf (.d (.bool true), [[.d (.sl 1 ((s1.take (200 : Int).toNat).map encU8)), .d (.int .i64 (atOf s2 e3.2))]]))
 (.fail))
 (.fail))
 (.leaf (.d (.bool false), [[.d (.sl 1 ((s1.take (200 : Int).toNat).map encU8)), .d (.int .i64 (atOf s2 e3.2))]])))
 (.fail))
 (.fail))
 (.leaf (.d (.bool false), [[.d (.sl 1 ((s1.take (200 : Int).toNat).map encU8)), .d (.int .i64 (atOf s2 e3.2))]])))
 (.fail))
 (.fail))
 (.leaf (.d (.bool false), [[.d (.sl 1 ((s1.take (200 : Int).toNat).map encU8)), .d (.int .i64 (atOf s2 e3.2))]])))
 (.fail))
 (.fail))
 (.leaf (.d (.bool false), [[.d (.sl 1 ((s1.take (200 : Int).toNat).map encU8)), .d (.int .i64 (atOf s2 e3.2))]])))
 (.fail))
 (.leaf (.d (.bool false), [[.d (.sl 1 ((s1.take (200 : Int).toNat).map encU8)), .d (.int .i64 (atOf s2 e3.2))]])))
 (.leaf (.d (.bool false), [[.d (.sl 1 ((s1.take (200 : Int).toNat).map encU8)), .d (.int .i64 (atOf s2 e3.2))]])))
 (.br (decide ((resE l6 (e3.1.start.map encSt) (e3.1.message.map encSt) (e3.1.tick.map encSt) (e3.1.input.map encSt)) = 0))
 (.br (decide ((resE l18 ((rnS 9 (e3.1.start.map encSt)).map encSt) ((rnS 9 (e3.1.message.map encSt)).map encSt) ((rnS 9 (e3.1.tick.map encSt)).map encSt) ((rnS 9 (e3.1.input.map encSt)).map encSt)) = 0))
 (.opt (unL unI ([] : List DV)) fun l24 => .br (eqB ([] : List DV) ([] : List DV) && decide ((l24.length : Int) ≤ 100000))
 (.br true
 (.br (fitS 9 ([] : List DV))
 (.br (eqB ((rnS 9 ([] : List DV)).map encSt) ([] : List DV) && fitS 9 ((rnS 9 ([] : List DV)).map encSt))
 (.br true
 (.br (fitS 9 ([] : List DV))
 (.br (eqB ((rnS 9 ([] : List DV)).map encSt) ([] : List DV) && fitS 9 ((rnS 9 ([] : List DV)).map encSt))
 (.br true
 (.br (fitS 9 ([] : List DV))
 (.br (eqB ((rnS 9 ([] : List DV)).map encSt) ([] : List DV) && fitS 9 ((rnS 9 ([] : List DV)).map encSt))
 (.br true
 (.br (fitS 9 ([] : List DV))
 (.br (eqB ((rnS 9 ([] : List DV)).map encSt) ([] : List DV) && fitS 9 ((rnS 9 ([] : List DV)).map encSt))
 (.leaf (.d (.bool true), [[.d (.sl 1 ((s1.take (200 : Int).toNat).map encU8)), .d (.int .i64 (atOf s2 e3.2))]]))
 (.fail))
 (.fail))
 (.leaf (.d (.bool false), [[.d (.sl 1 ((s1.take (200 : Int).toNat).map encU8)), .d (.int .i64 (atOf s2 e3.2))]])))
 (.fail))
 (.fail))
 (.leaf (.d (.bool false), [[.d (.sl 1 ((s1.take (200 : Int).toNat).map encU8)), .d (.int .i64 (atOf s2 e3.2))]])))
 (.fail))
 (.fail))
 (.leaf (.d (.bool false), [[.d (.sl 1 ((s1.take (200 : Int).toNat).map encU8)), .d (.int .i64 (atOf s2 e3.2))]])))
 (.fail))
 (.fail))
 (.leaf (.d (.bool false), [[.d (.sl 1 ((s1.take (200 : Int).toNat).map encU8)), .d (.int .i64 (atOf s2 e3.2))]])))
 (.fail))
 (.leaf (.d (.bool false), [[.d (.sl 1 ((s1.take (200 : Int).toNat).map encU8)), .d (.int .i64 (atOf s2 e3.2))]])))
 (.leaf (.d (.bool false), [[.d (.sl 1 ((s1.take (200 : Int).toNat).map encU8)), .d (.int .i64 (atOf s2 e3.2))]]))))
 (.fail)))
 (.fail))
 (.fail))
 (.fail))
 (.fail))
 (.fail))
 (.fail))
 (.fail))
 (.fail)) : Tr (AV × Hp)) := by kernel_rfl

end
end Go.AI.RD

/- Renaming, plainly: what is renamed is found at the same place. -/
namespace Go.AI.RD
open Go Go.Proofs
set_option maxRecDepth 10000
set_option linter.unusedVariables false
set_option linter.unusedSimpArgs false

theorem unX (q : List Xp) : unL unXp (q.map encXp) = some q := unL_map (un := unXp) (enc := encXp) unXp_enc q
theorem unS (q : List St) : unL unSt (q.map encSt) = some q := unL_map (un := unSt) (enc := encSt) unSt_enc q

/-- The names of drawn programs. -/
def okN (nm : List UInt8) : Bool := [[], [120], [121], [122], [97], [98]].any fun x => decide (nm = x)
theorem okN_cases {nm : List UInt8} (h : okN nm = true) : nm = [] ∨ nm = [120] ∨ nm = [121] ∨ nm = [122] ∨ nm = [97] ∨ nm = [98] := by
  simpa [okN] using h
theorem npre_len {nm : List UInt8} (h : okN nm = true) : ((npre nm).length : Int) ≤ 100000 := by
  rcases okN_cases h with rfl | rfl | rfl | rfl | rfl | rfl <;> decide
theorem npre_valid {nm : List UInt8} (h : okN nm = true) : validB (npre nm) = validB nm := by
  rcases okN_cases h with rfl | rfl | rfl | rfl | rfl | rfl <;> rfl
theorem npre_nil {nm : List UInt8} : decide (npre nm = []) = decide (nm = []) := by
  unfold npre
  by_cases h : nm = [] <;> simp [h]

def nmX : Nat → Xp → Bool
  | 0, _ => false
  | n + 1, e => (okN e.name && !((decide (e.op = 2) || decide (e.op = 3)) && decide (e.name = []))) && (match unL unXp e.args with | some l => l.all (nmX n) | none => false)

theorem nmX_of {N : Nat} {o v : Int} {nm : List UInt8} {sl sz : Int} {l : List Xp} (h : okN nm = true) (h2 : (o = 2 ∨ o = 3) → nm ≠ []) (ha : l.all (nmX N) = true) : nmX (N + 1) ⟨o, v, nm, sl, sz, l.map encXp⟩ = true := by
  have hb : ((decide (o = 2) || decide (o = 3)) && decide (nm = [])) = false := by
    by_cases h3 : o = 2 ∨ o = 3
    · simp [h2 h3]
    · have : (decide (o = 2) || decide (o = 3)) = false := by simpa using h3
      rw [this]; rfl
  simp only [nmX, h, unX, ha, Bool.true_and, Bool.and_true, hb, Bool.not_false]

theorem scName_ok (k : Nat) : okN (scName k) = true ∧ scName k ≠ [] := by unfold scName; split <;> exact ⟨rfl, by simp⟩
theorem arName_ok (k : Nat) : okN (arName k) = true ∧ arName k ≠ [] := by unfold arName; split <;> exact ⟨rfl, by simp⟩

theorem drawT_nm {rec : List UInt8 → Xp × List UInt8} {d N : Nat} (ih : d = 0 ∨ ∀ r, nmX N (rec r).1 = true) (k : Nat) (r : List UInt8) : nmX (N + 1) (drawT rec d k r).1 = true := by
  unfold drawT
  split; · exact nmX_of (l := []) rfl (by omega) rfl
  split; · exact nmX_of (l := []) (scName_ok _).1 (fun _ => (scName_ok _).2) rfl
  split; · exact nmX_of (l := []) rfl (by omega) rfl
  split; · exact nmX_of (l := []) rfl (by omega) rfl
  split; · exact nmX_of (l := []) rfl (by omega) rfl
  rename_i h1 h2 h3 h4 h5
  have ih := ih.resolve_left (by omega)
  split; · exact nmX_of (l := [_]) (arName_ok _).1 (fun _ => (arName_ok _).2) (by simp [ih])
  split; · exact nmX_of (l := [_]) rfl (by omega) (by simp [ih])
  exact nmX_of (l := [_, _]) rfl (by omega) (by simp [ih])

theorem drawX_nm : ∀ (d N : Nat) (r : List UInt8), d ≤ N → 0 < N → nmX N (drawX d r).1 = true
  | _, 0, _, _, h => absurd h (by omega)
  | 0, N + 1, r, _, _ => nmX_of (l := []) rfl (by omega) rfl
  | d + 1, N + 1, r, h, _ => by
    show nmX (N + 1) (drawT (drawX d) d (if d = 0 ∧ 8 ≤ (nx 12 r).1 then (nx 12 r).1 - 8 else (nx 12 r).1) (nx 12 r).2).1 = true
    by_cases hd : d = 0
    · exact drawT_nm (.inl hd) _ _
    · exact drawT_nm (.inr fun r => drawX_nm d N r (by omega) (by omega)) _ _

def nm1 (f : List DV → Bool) (s : St) : Bool := (okN s.name && !((decide (s.kind = 1) || decide (s.kind = 2)) && decide (s.name = []))) && (nmX 9 s.place && (nmX 9 s.value && (f s.body && f s.els)))
def nmS : Nat → List DV → Bool
  | 0, _ => false
  | n + 1, ss => match unL unSt ss with
    | some l => l.all (nm1 (nmS n))
    | none => false

theorem oneK_nm {rec : Nat → List UInt8 → List St × List UInt8} {N : Nat} (ih : ∀ r m, nmS N ((rec m r).1.map encSt) = true) (h0 : nmS N [] = true) (k : Nat) (r : List UInt8) : nm1 (nmS N) (oneK rec k r).1 = true := by
  have hx2 : ∀ r, nmX 9 (drawX 2 r).1 = true := fun r => drawX_nm 2 9 r (by decide) (by decide)
  have hx3 : ∀ r, nmX 9 (drawX 3 r).1 = true := fun r => drawX_nm 3 9 r (by decide) (by decide)
  have hz : nmX 9 x0 = true := nmX_of (l := []) rfl (by omega) rfl
  have hn : okN [] = true := rfl
  unfold oneK
  split; · simp [nm1, hx3, hz, h0, scName_ok]
  split; · simp [nm1, hx2, h0, arName_ok]
  split; · simp [nm1, hx2, h0, hn]
  split; · simp [nm1, hx2, hz, h0, hn]
  split; · simp [nm1, hx2, hz, h0, hn, ih]
  simp [nm1, hx2, hz, h0, hn, ih]

theorem drawS_nm : ∀ (d N m : Nat) (r : List UInt8), d < N → nmS N ((drawS d m r).1.map encSt) = true
  | _, 0, _, _, h => absurd h (by omega)
  | 0, N + 1, m, r, _ => rfl
  | d + 1, 0 + 1, m, r, h => absurd h (by omega)
  | d + 1, N + 1 + 1, m, r, h => by
    have ha : (drawS (d + 1) m r).1.all (nm1 (nmS (N + 1))) = true := drawL_all (fun k r => oneK_nm (fun r m => drawS_nm d (N + 1) m r (by omega)) rfl k r) _ _
    simp only [nmS, unS]
    exact ha

/-! ### Renamed things fit, and are good -/

theorem all_map_of {α β : Type} {f : α → β} {p : α → Bool} {q r : β → Bool} (h : ∀ x, p x = true → q (f x) = true) (l : List α) (hl : l.all p = true) : (l.map f).all q = true := by
  rw [List.all_map]
  exact List.all_eq_true.2 fun x hx => h x (List.all_eq_true.1 hl x hx)

theorem rnX_fit : ∀ (n m : Nat) (e : Xp), n ≤ m → fitX n e = true → nmX n e = true → fitX n (rnX m e) = true
  | 0, _, _, _, h, _ => by simp [fitX] at h
  | n + 1, 0, _, h, _, _ => absurd h (by omega)
  | n + 1, m + 1, e, h, hf, hn => by
    simp only [fitX] at hf
    simp only [nmX, Bool.and_eq_true] at hn
    split at hf
    · rename_i l hl
      simp only [hl] at hn
      simp only [Bool.and_eq_true, decide_eq_true_eq] at hf
      simp only [rnX, hl, fitX, unX, List.length_map]
      rw [Bool.and_eq_true]
      refine ⟨decide_eq_true ⟨hf.1.1, npre_len hn.1.1⟩, ?_⟩
      rw [List.all_map]
      exact List.all_eq_true.2 fun x hx => rnX_fit n m x (by omega) (List.all_eq_true.1 hf.2 x hx) (List.all_eq_true.1 hn.2 x hx)
    · cases hf

theorem rnX_head (m : Nat) (e : Xp) (l : List Xp) (hl : unL unXp e.args = some l) (hn : okN e.name = true) : headX (rnX (m + 1) e) = headX e := by
  have he := unL_inv unXp_ok hl
  have hlen : (((l.map (rnX m)).map encXp).length : Int) = e.args.length := by rw [he]; simp
  simp only [rnX, hl, headX, npre_valid hn, npre_nil, hlen]

theorem rnX_good : ∀ (n m : Nat) (e : Xp), n ≤ m → goodX n e = true → nmX n e = true → goodX n (rnX m e) = true
  | 0, _, _, _, h, _ => by simp [goodX] at h
  | n + 1, 0, _, h, _, _ => absurd h (by omega)
  | n + 1, m + 1, e, h, hf, hn => by
    simp only [goodX, Bool.and_eq_true] at hf
    simp only [nmX, Bool.and_eq_true] at hn
    obtain ⟨h1, h2⟩ := hf
    split at h2
    · rename_i l hl
      simp only [hl] at hn
      simp only [goodX, rnX_head m e l hl hn.1.1, h1, Bool.true_and]
      simp only [rnX, hl, unX]
      rw [List.all_map]
      exact List.all_eq_true.2 fun x hx => rnX_good n m x (by omega) (List.all_eq_true.1 h2 x hx) (List.all_eq_true.1 hn.2 x hx)
    · cases h2

theorem rnX_zero (m : Nat) (e : Xp) (h : zeroX e = true) : zeroX (rnX m e) = true := by
  cases m with
  | zero => exact h
  | succ m =>
    simp only [rnX]
    split
    · rename_i l hl
      have he := unL_inv unXp_ok hl
      have hlen : (((l.map (rnX m)).map encXp).length : Int) = e.args.length := by rw [he]; simp
      simpa only [zeroX, npre_nil, hlen] using h
    · exact h

theorem rnS_len {n : Nat} {ss : List DV} {l : List St} (h : unL unSt ss = some l) : (rnS (n + 1) ss).length = ss.length := by
  simp only [rnS, h, List.length_map]; rw [unL_inv unSt_ok h, List.length_map]

theorem rnS_fit : ∀ (n m : Nat) (ss : List DV), n ≤ m → fitS n ss = true → nmS n ss = true → fitS n ((rnS m ss).map encSt) = true
  | 0, _, _, _, h, _ => by simp [fitS] at h
  | n + 1, 0, _, h, _, _ => absurd h (by omega)
  | n + 1, m + 1, ss, h, hf, hn => by
    simp only [fitS] at hf
    simp only [nmS] at hn
    split at hf
    · rename_i l hl
      simp only [hl] at hn
      simp only [Bool.and_eq_true, decide_eq_true_eq] at hf
      simp only [rnS, hl, fitS, unS, List.length_map]
      rw [Bool.and_eq_true]
      refine ⟨decide_eq_true hf.1, ?_⟩
      rw [List.all_map]
      refine List.all_eq_true.2 fun s hs => ?_
      have f := List.all_eq_true.1 hf.2 s hs
      have g := List.all_eq_true.1 hn s hs
      simp only [nm1, Bool.and_eq_true, decide_eq_true_eq] at f g
      obtain ⟨f1, f2, f3, f4, f5⟩ := f
      obtain ⟨⟨g0, _⟩, g1, g2, g3, g4⟩ := g
      show (fitX 9 (rnX 9 s.place) && (fitX 9 (rnX 9 s.value) && (fitS n ((rnS m s.body).map encSt) && (fitS n ((rnS m s.els).map encSt) && decide (((npre s.name).length : Int) ≤ 100000))))) = true
      rw [rnX_fit 9 9 _ (by omega) f1 g1, rnX_fit 9 9 _ (by omega) f2 g2, rnS_fit n m _ (by omega) f3 g3, rnS_fit n m _ (by omega) f4 g4, decide_eq_true (npre_len g0)]
      rfl
    · cases hf

theorem len0 {n m : Nat} {ss : List DV} (h : nmS n ss = true) (hnm : n ≤ m) : (((rnS m ss).map encSt).length : Int) = ss.length := by
  cases n with
  | zero => simp [nmS] at h
  | succ n =>
    cases m with
    | zero => omega
    | succ m =>
      simp only [nmS] at h
      split at h
      · rename_i l hl
        rw [List.length_map, rnS_len hl]
      · cases h

theorem rnS_good : ∀ (n m : Nat) (ss : List DV), n ≤ m → goodL n ss = true → nmS n ss = true → goodL n ((rnS m ss).map encSt) = true
  | 0, _, _, _, h, _ => by simp [goodL] at h
  | n + 1, 0, _, h, _, _ => absurd h (by omega)
  | n + 1, m + 1, ss, h, hf, hn => by
    simp only [goodL] at hf
    simp only [nmS] at hn
    split at hf
    · rename_i l hl
      simp only [hl] at hn
      simp only [rnS, hl, goodL, unS]
      rw [List.all_map]
      refine List.all_eq_true.2 fun s hs => ?_
      have f := List.all_eq_true.1 hf s hs
      have g := List.all_eq_true.1 hn s hs
      simp only [nm1, Bool.and_eq_true] at f g
      obtain ⟨f1, f2, f3⟩ := f
      obtain ⟨⟨g0, _⟩, g1, g2, g3, g4⟩ := g
      show (headS (rn1 (rnS m) s) && (goodL n ((rnS m s.body).map encSt) && goodL n ((rnS m s.els).map encSt))) = true
      rw [rnS_good n m _ (by omega) f2 g3, rnS_good n m _ (by omega) f3 g4, Bool.and_true, Bool.and_true]
      have hb := len0 g3 (show n ≤ m by omega)
      have hl := len0 g4 (show n ≤ m by omega)
      have hgp : goodX 9 s.place = true → goodX 9 (rnX 9 s.place) = true := fun q => rnX_good 9 9 _ (by omega) q g1
      have hgv : goodX 9 s.value = true → goodX 9 (rnX 9 s.value) = true := fun q => rnX_good 9 9 _ (by omega) q g2
      have hzp : zeroX s.place = true → zeroX (rnX 9 s.place) = true := fun q => rnX_zero 9 _ q
      revert f1
      unfold headS rn1
      dsimp only
      rw [npre_valid g0, npre_nil, hb, hl]
      generalize goodX 9 s.place = a1 at *
      generalize goodX 9 (rnX 9 s.place) = a2 at *
      generalize goodX 9 s.value = b1 at *
      generalize goodX 9 (rnX 9 s.value) = b2 at *
      generalize zeroX s.place = c1 at *
      generalize zeroX (rnX 9 s.place) = c2 at *
      generalize (decide (s.kind = 2) || decide (s.kind = 5)) = d1
      cases a1 <;> cases a2 <;> cases b1 <;> cases b2 <;> cases c1 <;> cases c2 <;> cases d1 <;> simp_all
    · cases hf
end Go.AI.RD

/- Renaming and resolving, in either order; ResolveRenames' run is true. -/
namespace Go.AI.RD
open Go Go.Proofs
set_option maxRecDepth 10000
set_option linter.unusedVariables false
set_option linter.unusedSimpArgs false

theorem app_inj (a b : List UInt8) : ([110, 95] ++ a = [110, 95] ++ b) ↔ a = b := by simp

theorem lookG_rn (nm : List UInt8) : ∀ (l : List Var) (f : Int), lookG (l.map rnV) ([110, 95] ++ nm) f = lookG l nm f
  | [], _ => rfl
  | v :: l, f => by
    show (if 2147483648 < f then none else if [110, 95] ++ v.name = [110, 95] ++ nm then some (f, max v.size 0) else lookG (l.map rnV) ([110, 95] ++ nm) (f + cellsI v.size)) = _
    simp only [lookG, app_inj, lookG_rn nm l]

theorem plcs_rn (l : List Var) : plcs (l.map rnV) = plcs l := by
  unfold plcs
  rw [List.map_map]
  refine List.map_congr_left fun v hv => ?_
  show plcV (l.map rnV) (rnV v) = plcV l v
  unfold plcV
  show (⟨(lk (lookG (l.map rnV) ([110, 95] ++ v.name) 0)).1, (lk (lookG (l.map rnV) ([110, 95] ++ v.name) 0)).2.1⟩ : Plc) = _
  rw [lookG_rn]

theorem getP_rn (nm : List UInt8) : ∀ (l : List Var) (ps : List Plc), getP (.str ([110, 95] ++ nm)) (kss (l.map rnV)) ps = getP (.str nm) (kss l) ps
  | [], _ => by simp [kss, getP]
  | v :: l, [] => by simp [kss, getP]
  | v :: l, p :: ps => by
    show (bif eqK (.str ([110, 95] ++ nm)) (.str ([110, 95] ++ v.name)) then some p else getP (.str ([110, 95] ++ nm)) (kss (l.map rnV)) ps) = (bif eqK (.str nm) (.str v.name) then some p else getP (.str nm) (kss l) ps)
    rw [getP_rn nm l ps, eqK_str, eqK_str]
    simp only [app_inj]

theorem fndR_rn {l : List Var} {ps : List Plc} {nm : List UInt8} (h : nm ≠ []) (ar a b : Bool) : fndR (kss (l.map rnV)) ps (npre nm) ar a b = fndR (kss l) ps nm ar a b := by
  unfold fndR npre
  rw [if_neg h, getP_rn]

theorem resL_rn {f f' : Xp → Mk → Xp × Mk} {g : Xp → Xp} : ∀ (l : List Xp) (m : Mk), (∀ x ∈ l, ∀ m, f' (g x) m = (g (f x m).1, (f x m).2)) → resL f' (l.map g) m = ((resL f l m).1.map g, (resL f l m).2)
  | [], m, _ => rfl
  | x :: l, m, h => by
    have h1 := h x (List.mem_cons_self ..) m
    have h2 := resL_rn l (f x m).2 (fun y hy => h y (List.mem_cons_of_mem _ hy))
    show ((f' (g x) m).1 :: (resL f' (l.map g) (f' (g x) m).2).1, (resL f' (l.map g) (f' (g x) m).2).2) = (g (f x m).1 :: (resL f l (f x m).2).1.map g, (resL f l (f x m).2).2)
    rw [h1, h2]

theorem headR_rn {l : List Var} {ps : List Plc} {n : Nat} {e : Xp} {al : List Xp} (hl : unL unXp e.args = some al) (hn : nmX (n + 1) e = true) (m : Mk) :
    headR (kss (l.map rnV)) ps (rnX (n + 1) e) m = (⟨(headR (kss l) ps e m).1.op, (headR (kss l) ps e m).1.value, npre (headR (kss l) ps e m).1.name, (headR (kss l) ps e m).1.slot, (headR (kss l) ps e m).1.size, (al.map (rnX n)).map encXp⟩, (headR (kss l) ps e m).2) := by
  simp only [nmX, Bool.and_eq_true] at hn
  simp only [rnX, hl]
  by_cases ho : e.op = 2 ∨ e.op = 3
  · have hne : e.name ≠ [] := by
      have h3 := hn.1.2
      have hb : (decide (e.op = 2) || decide (e.op = 3)) = true := by simpa using ho
      rw [hb] at h3
      simpa using h3
    simp only [headR, if_pos ho, fndR_rn hne]
  · simp only [headR, if_neg ho]

theorem resX_rn {l : List Var} {ps : List Plc} : ∀ (n : Nat) (e : Xp) (m : Mk), nmX n e = true → resX (kss (l.map rnV)) ps n (rnX n e) m = (rnX n (resX (kss l) ps n e m).1, (resX (kss l) ps n e m).2)
  | 0, _, _, h => by simp [nmX] at h
  | n + 1, e, m, h => by
    have h0 := h
    simp only [nmX, Bool.and_eq_true] at h
    obtain ⟨_, h2⟩ := h
    split at h2
    · rename_i al hl
      have hh := headR_rn (l := l) (ps := ps) hl h0 m
      have hu : unL unXp (rnX (n + 1) e).args = some (al.map (rnX n)) := by simp only [rnX, hl, unX]
      have ih := resL_rn (f := resX (kss l) ps n) (f' := resX (kss (l.map rnV)) ps n) (g := rnX n) al (headR (kss l) ps e m).2 (fun x hx m => resX_rn n x m (List.all_eq_true.1 h2 x hx))
      have e1 : resX (kss (l.map rnV)) ps (n + 1) (rnX (n + 1) e) m = (⟨(headR (kss l) ps e m).1.op, (headR (kss l) ps e m).1.value, npre (headR (kss l) ps e m).1.name, (headR (kss l) ps e m).1.slot, (headR (kss l) ps e m).1.size, ((resL (resX (kss l) ps n) al (headR (kss l) ps e m).2).1.map (rnX n)).map encXp⟩, (resL (resX (kss l) ps n) al (headR (kss l) ps e m).2).2) := by
        rw [resX]
        simp only [hu, hh, ih]
      have e2 : resX (kss l) ps (n + 1) e m = (⟨(headR (kss l) ps e m).1.op, (headR (kss l) ps e m).1.value, (headR (kss l) ps e m).1.name, (headR (kss l) ps e m).1.slot, (headR (kss l) ps e m).1.size, (resL (resX (kss l) ps n) al (headR (kss l) ps e m).2).1.map encXp⟩, (resL (resX (kss l) ps n) al (headR (kss l) ps e m).2).2) := by
        simp only [resX, hl]
      rw [e1, e2, rnX_eq]
    · cases h2

theorem resQ_rn {f f' : St → Mk → St × Mk} {g : St → St} : ∀ (l : List St) (m : Mk), (∀ x ∈ l, ∀ m, f' (g x) m = (g (f x m).1, (f x m).2)) → resQ f' (l.map g) m = ((resQ f l m).1.map g, (resQ f l m).2)
  | [], m, _ => rfl
  | x :: l, m, h => by
    have h1 := h x (List.mem_cons_self ..) m
    have h2 := resQ_rn l (f x m).2 (fun y hy => h y (List.mem_cons_of_mem _ hy))
    show ((f' (g x) m).1 :: (resQ f' (l.map g) (f' (g x) m).2).1, (resQ f' (l.map g) (f' (g x) m).2).2) = (g (f x m).1 :: (resQ f l (f x m).2).1.map g, (resQ f l (f x m).2).2)
    rw [h1, h2]

theorem resS_rn {l : List Var} {ps : List Plc} : ∀ (n : Nat) (ss : List DV) (m : Mk), nmS n ss = true →
    resS (kss (l.map rnV)) ps n ((rnS n ss).map encSt) m = (rnS n ((resS (kss l) ps n ss m).1.map encSt), (resS (kss l) ps n ss m).2)
  | 0, _, _, h => by simp [nmS] at h
  | n + 1, ss, m, h => by
    simp only [nmS] at h
    split at h
    · rename_i al hl
      have key := resQ_rn (f := res1 (kss l) ps (resS (kss l) ps n)) (f' := res1 (kss (l.map rnV)) ps (resS (kss (l.map rnV)) ps n)) (g := rn1 (rnS n)) al m (fun s hs m => by
        have g := List.all_eq_true.1 h s hs
        simp only [nm1, Bool.and_eq_true] at g
        obtain ⟨⟨g0, g5⟩, g1, g2, g3, g4⟩ := g
        have hq : headQ (kss (l.map rnV)) ps (rn1 (rnS n) s) m = headQ (kss l) ps s m := by
          show (if s.kind = 1 ∨ s.kind = 2 then ((fndR (kss (l.map rnV)) ps (npre s.name) (decide (s.kind = 2)) m.a m.b).1, (⟨(fndR (kss (l.map rnV)) ps (npre s.name) (decide (s.kind = 2)) m.a m.b).2.1, (fndR (kss (l.map rnV)) ps (npre s.name) (decide (s.kind = 2)) m.a m.b).2.2⟩ : Mk)) else ((⟨s.slot, s.size⟩ : Plc), m)) = _
          unfold headQ
          by_cases ho : s.kind = 1 ∨ s.kind = 2
          · have hne : s.name ≠ [] := by
              have hb : (decide (s.kind = 1) || decide (s.kind = 2)) = true := by simpa using ho
              rw [hb] at g5
              simpa using g5
            rw [if_pos ho, if_pos ho, fndR_rn hne]
          · rw [if_neg ho, if_neg ho]
        simp only [res1, hq]
        simp only [rn1, resX_rn 9 _ _ g1, resX_rn 9 _ _ g2, resS_rn n _ _ g3, resS_rn n _ _ g4])
      simp only [rnS, resS, hl, unS, key]
    · cases h

theorem ini_rn : ∀ l : List Var, ini (l.map rnV) = ini l
  | [] => rfl
  | v :: l => by rw [List.map_cons, ini_cons, ini_cons, ini_rn l]; rfl

theorem lrenames_run (s : List UInt8) : ∃ H, (fnT Xlr c_lrenames Tryd.f5.results.toList [.d (.sl 1 (s.map encU8))] []).run = some (.d (.bool true), H) := by
  rw [tree_lrenames]
  have hu : ∀ q : List UInt8, unL unU8 (q.map encU8) = some q := unL_map unU8_enc
  have hv : ∀ q : List Var, unL unVar (q.map encVar) = some q := unL_map unVar_enc
  generalize hr : (s.take (200 : Int).toNat).drop (0 : Int).toNat = r
  obtain ⟨a, b, c, w1, w2, w3, w4, h1, h2, h3, h4, h5, h6, hv5, hres, e1, e2, e3, e4, t1, t2, t3, t4⟩ := drawP_res r
  obtain ⟨hf, hc⟩ := drawP_check r
  obtain ⟨q, hq, hql⟩ := vars5_list (a := a) (c := c) h3
  refine ⟨[[.d (.sl 1 ((s.take (200 : Int).toNat).map encU8)), .d (.int .i64 (atOf (s.take (200 : Int).toNat) (drawP r).2))]], (Tr.run_no rfl).trans (Tr.opt_to (hu s) (Tr.dec_yes (by decide) (Tr.opt_to (hu _) (Tr.dec_yes ⟨by omega, by omega, by simp; omega⟩ (Tr.opt_to rfl ?_)))))⟩
  rw [hr]
  have n1 : nmS 9 ((drawP r).1.start.map encSt) = true := drawS_nm 2 9 3 _ (by omega)
  have n2 : nmS 9 ((drawP r).1.message.map encSt) = true := drawS_nm 3 9 4 _ (by omega)
  have n3 : nmS 9 ((drawP r).1.tick.map encSt) = true := drawS_nm 2 9 3 _ (by omega)
  have n4 : nmS 9 ((drawP r).1.input.map encSt) = true := drawS_nm 2 9 2 _ (by omega)
  have m1 : nmS 4 ((drawP r).1.start.map encSt) = true := drawS_nm 2 4 3 _ (by omega)
  have m2 : nmS 4 ((drawP r).1.message.map encSt) = true := drawS_nm 3 4 4 _ (by omega)
  have m3 : nmS 4 ((drawP r).1.tick.map encSt) = true := drawS_nm 2 4 3 _ (by omega)
  have m4 : nmS 4 ((drawP r).1.input.map encSt) = true := drawS_nm 2 4 2 _ (by omega)
  have p1 : fitS 4 ((drawP r).1.start.map encSt) = true := drawS_fit 2 4 3 _ (by omega) (by decide)
  have p2 : fitS 4 ((drawP r).1.message.map encSt) = true := drawS_fit 3 4 4 _ (by omega) (by decide)
  have p3 : fitS 4 ((drawP r).1.tick.map encSt) = true := drawS_fit 2 4 3 _ (by omega) (by decide)
  have p4 : fitS 4 ((drawP r).1.input.map encSt) = true := drawS_fit 2 4 2 _ (by omega) (by decide)
  have o1 : goodL 9 ((drawP r).1.start.map encSt) = true := drawS_good 2 9 3 _ (by omega)
  have o2 : goodL 9 ((drawP r).1.message.map encSt) = true := drawS_good 3 9 4 _ (by omega)
  have o3 : goodL 9 ((drawP r).1.tick.map encSt) = true := drawS_good 2 9 3 _ (by omega)
  have o4 : goodL 9 ((drawP r).1.input.map encSt) = true := drawS_good 2 9 2 _ (by omega)
  simp only [hv5] at *
  generalize (drawP r).1.start.map encSt = s1 at *
  generalize (drawP r).1.message.map encSt = s2 at *
  generalize (drawP r).1.tick.map encSt = s3 at *
  generalize (drawP r).1.input.map encSt = s4 at *
  have hff := hf
  simp only [fitP, Bool.and_eq_true] at hff
  obtain ⟨f1, f2, f3, f4⟩ := hff
  have hs := fun k => scName_fnd (a := a) (c := c) h3 h4 k
  -- the program itself
  have hP := resP_form (vars5 a b c) s1 s2 s3 s4
  rw [hres] at hP
  have hok : resOK (vars5 a b c) s1 s2 s3 s4 = true := by
    cases hb : resOK (vars5 a b c) s1 s2 s3 s4 with
    | true => rfl
    | false =>
      rw [hb] at hP
      simp only [cond_false, ans1, ans0, AV.tup.injEq, List.cons.injEq, AV.agg.injEq, AV.d.injEq, DV.sl.injEq, true_and, and_true] at hP
      exact absurd (congrArg List.length hP.1.1) (by simp [hq, hql])
  have hok' := hok
  simp only [resOK, Bool.and_eq_true, decide_eq_true_eq, Bool.not_eq_true'] at hok'
  obtain ⟨c1, c2, c3, c4, c5, c6⟩ := hok'
  -- the renamed one
  have hpl := plcs_rn (vars5 a b c)
  have g1 : res1L ((vars5 a b c).map rnV) ((rnS 9 s1).map encSt) = (rnS 9 ((res1L (vars5 a b c) s1).1.map encSt), (res1L (vars5 a b c) s1).2) := by unfold res1L; rw [hpl, resS_rn 9 _ _ n1]
  have g2 : res2L ((vars5 a b c).map rnV) ((rnS 9 s1).map encSt) ((rnS 9 s2).map encSt) = (rnS 9 ((res2L (vars5 a b c) s1 s2).1.map encSt), (res2L (vars5 a b c) s1 s2).2) := by unfold res2L; rw [hpl, g1, resS_rn 9 _ _ n2]
  have g3 : res3L ((vars5 a b c).map rnV) ((rnS 9 s1).map encSt) ((rnS 9 s2).map encSt) ((rnS 9 s3).map encSt) = (rnS 9 ((res3L (vars5 a b c) s1 s2 s3).1.map encSt), (res3L (vars5 a b c) s1 s2 s3).2) := by unfold res3L; rw [hpl, g2, resS_rn 9 _ _ n3]
  have g4 : res4L ((vars5 a b c).map rnV) ((rnS 9 s1).map encSt) ((rnS 9 s2).map encSt) ((rnS 9 s3).map encSt) ((rnS 9 s4).map encSt) = (rnS 9 ((res4L (vars5 a b c) s1 s2 s3 s4).1.map encSt), (res4L (vars5 a b c) s1 s2 s3 s4).2) := by unfold res4L; rw [hpl, g3, resS_rn 9 _ _ n4]
  have u1 : ∀ k ss, k ≤ 9 → fitS k ss = true → nmS k ss = true → fitS k ((rnS 9 ss).map encSt) = true := fun k ss hk hf hn => rnS_fit k 9 ss hk hf hn
  have hfit' : fitP ((rnS 9 s1).map encSt) ((rnS 9 s2).map encSt) ((rnS 9 s3).map encSt) ((rnS 9 s4).map encSt) = true := by
    simp only [fitP, u1 9 s1 (by omega) f1 n1, u1 9 s2 (by omega) f2 n2, u1 9 s3 (by omega) f3 n3, u1 9 s4 (by omega) f4 n4]; rfl
  have hchk' : chkP ((vars5 a b c).map rnV) ((rnS 9 s1).map encSt) ((rnS 9 s2).map encSt) ((rnS 9 s3).map encSt) ((rnS 9 s4).map encSt) = 0 := by
    have d1 := depthS_fit 4 9 _ (u1 4 s1 (by omega) p1 m1)
    have d2 := depthS_fit 4 9 _ (u1 4 s2 (by omega) p2 m2)
    have d3 := depthS_fit 4 9 _ (u1 4 s3 (by omega) p3 m3)
    have d4 := depthS_fit 4 9 _ (u1 4 s4 (by omega) p4 m4)
    have hd : ¬ 16 < depP ((rnS 9 s1).map encSt) ((rnS 9 s2).map encSt) ((rnS 9 s3).map encSt) ((rnS 9 s4).map encSt) := by unfold depP; omega
    have hb : ((vars5 a b c).map rnV).any badVar = false := by
      have v1 : validB ([110, 95] ++ [120]) = true := rfl
      have v2 : validB ([110, 95] ++ [97]) = true := rfl
      have v3 : validB ([110, 95] ++ [121]) = true := rfl
      have v4 : validB ([110, 95] ++ [122]) = true := rfl
      have v5 : validB ([110, 95] ++ [98]) = true := rfl
      show (_ || (_ || (_ || (_ || (_ || false))))) = false
      simp only [badVar, rnV, v1, v2, v3, v4, v5]
      simp
      exact ⟨decide_eq_false (by omega), decide_eq_false (by omega), decide_eq_false (by omega)⟩
    unfold chkP
    rw [if_neg hd, hb, rnS_good 9 9 _ (by omega) o1 n1, rnS_good 9 9 _ (by omega) o2 n2, rnS_good 9 9 _ (by omega) o3 n3, rnS_good 9 9 _ (by omega) o4 n4]
    rfl
  have hdup' : dupB [] ((vars5 a b c).map rnV) = false := by simp [vars5, dupB, rnV]
  have hmany' : many 0 ((vars5 a b c).map rnV) = false := by
    simp only [vars5, many, rnV, List.map_cons, List.map_nil]
    rw [if_neg (by omega), if_neg (by omega), if_neg (by omega), if_neg (by omega), if_neg (by omega)]
  have hok2 : resOK ((vars5 a b c).map rnV) ((rnS 9 s1).map encSt) ((rnS 9 s2).map encSt) ((rnS 9 s3).map encSt) ((rnS 9 s4).map encSt) = true := by
    simp only [resOK, hchk', hdup', hmany', g4, c5, c6]
    simp [vars5]
  have hini := ini_rn (vars5 a b c)
  have hi : unL unI (ini (vars5 a b c)) = some q := by rw [hq]; exact unL_map unI_enc q
  have x1 : ∀ z, fitS 9 z = true → ∀ ks ps m, fitS 9 ((resS ks ps 9 z m).1.map encSt) = true := fun z hz ks ps m => resS_fit 9 z m hz
  have y1 : fitS 9 ((res1L (vars5 a b c) s1).1.map encSt) = true := x1 _ f1 _ _ _
  have y2 : fitS 9 ((res2L (vars5 a b c) s1 s2).1.map encSt) = true := x1 _ f2 _ _ _
  have y3 : fitS 9 ((res3L (vars5 a b c) s1 s2 s3).1.map encSt) = true := x1 _ f3 _ _ _
  have y4 : fitS 9 ((res4L (vars5 a b c) s1 s2 s3 s4).1.map encSt) = true := x1 _ f4 _ _ _
  have z1 : fitS 9 ((rnS 9 ((res1L (vars5 a b c) s1).1.map encSt)).map encSt) = true := by
    have := x1 _ (u1 9 s1 (by omega) f1 n1) (kss ((vars5 a b c).map rnV)) (plcs (vars5 a b c)) ⟨false, false⟩
    rwa [resS_rn 9 _ _ n1] at this
  have z2 : fitS 9 ((rnS 9 ((res2L (vars5 a b c) s1 s2).1.map encSt)).map encSt) = true := by
    have := x1 _ (u1 9 s2 (by omega) f2 n2) (kss ((vars5 a b c).map rnV)) (plcs (vars5 a b c)) (res1L (vars5 a b c) s1).2
    rwa [resS_rn 9 _ _ n2] at this
  have z3 : fitS 9 ((rnS 9 ((res3L (vars5 a b c) s1 s2 s3).1.map encSt)).map encSt) = true := by
    have := x1 _ (u1 9 s3 (by omega) f3 n3) (kss ((vars5 a b c).map rnV)) (plcs (vars5 a b c)) (res2L (vars5 a b c) s1 s2).2
    rwa [resS_rn 9 _ _ n3] at this
  have z4 : fitS 9 ((rnS 9 ((res4L (vars5 a b c) s1 s2 s3 s4).1.map encSt)).map encSt) = true := by
    have := x1 _ (u1 9 s4 (by omega) f4 n4) (kss ((vars5 a b c).map rnV)) (plcs (vars5 a b c)) (res3L (vars5 a b c) s1 s2 s3).2
    rwa [resS_rn 9 _ _ n4] at this
  have hsh : short (vars5 a b c) = true := by simp [short, vars5, big]
  have hsh' : short ((vars5 a b c).map rnV) = true := by simp [short, vars5, big, rnV]
  have eqT : ∀ {x y : List DV} (h : x = y) {k : Bool} (hk : k = true), (eqB x y && k) = true := by
    rintro x _ rfl k rfl; rw [eqB_self]; rfl
  refine (Tr.run_yes f1).trans ((Tr.run_yes f2).trans ((Tr.run_yes f3).trans ((Tr.run_yes f4).trans (Tr.opt_to (hv _) (Tr.opt_to (hv _) ((Tr.run_yes ?_).trans (Tr.opt_to (hv _) ((Tr.run_yes ?_).trans ((Tr.run_yes hok).trans
    (Tr.opt_to rfl (Tr.opt_to rfl (Tr.opt_to rfl (Tr.opt_to rfl (Tr.opt_to (hv _) ((Tr.run_yes ?_).trans ((Tr.run_yes hok2).trans (Tr.opt_to rfl (Tr.opt_to rfl (Tr.opt_to rfl (Tr.opt_to rfl ?_))))))))))))))))))))
  · rw [hsh, Bool.and_true]
    exact decide_eq_true ⟨by simp, trivial, by simp [vars5], rfl⟩
  · rw [hsh, hf]; simp [vars5, big]
  · rw [hsh', hfit']; simp [vars5, big]
  · simp only [g1, g2, g3, g4, hini]
    refine (Tr.run_yes (by simp)).trans ((Tr.run_yes (by simp)).trans (Tr.opt_to hi ((Tr.run_yes (eqT rfl ?_)).trans ((Tr.run_yes rfl).trans ((Tr.run_yes y2).trans ((Tr.run_yes (eqT rfl z2)).trans ((Tr.run_yes rfl).trans
      ((Tr.run_yes y1).trans ((Tr.run_yes (eqT rfl z1)).trans ((Tr.run_yes rfl).trans ((Tr.run_yes y3).trans ((Tr.run_yes (eqT rfl z3)).trans ((Tr.run_yes rfl).trans ((Tr.run_yes y4).trans ((Tr.run_yes (eqT rfl z4)).trans rfl)))))))))))))))
    exact decide_eq_true (by omega)

theorem sum_lrenames_0 : SumOK Tryd.prog gl (ann 5) L_lrenames_0 (.loop l_lrenames_0) := by
  refine SumOK.range (X := Xlr) (xok_Xlr 5) (by simp only [Sums, l_lrenames_0, and_true]) (by kernel_rfl) (lv := [3, 4, 30, 31, 32]) (rt := [2]) (xs := [(0, [3, 4])]) (by decide) unVar_enc
    (σ := List DV × List DV × List DV × List DV × List DV × List DV × List DV × List DV × List DV × Int)
    (fun ⟨cs, s1, s2, s3, s4, t1, t2, t3, t4, ca⟩ l n => ⟨[(3, .box [.d (.sl 3 (l.map encVar)), .d (.sl 18 s1), .d (.sl 18 s2), .d (.sl 18 s3), .d (.sl 18 s4)]), (4, .box [.osl 3 (((l.take n).map rnV).map encVar), .d (.sl 18 t1), .d (.sl 18 t2), .d (.sl 18 t3), .d (.sl 18 t4)]), (30, .d (.sl 3 (l.map encVar))), (31, .d (.int .i64 (l.length : Int))), (32, .d (.int .i64 (n : Int)))], [[.d (.sl 1 cs), .d (.int .i64 ca)]]⟩)
    (fun _ l n => (l.length : Int) ≤ 100 ∧ short l = true)
    (fun ⟨cs, s1, s2, s3, s4, t1, t2, t3, t4, ca⟩ l n r => (.ext 0, ⟨[(3, .box [.d (.sl 3 (l.map encVar)), .d (.sl 18 s1), .d (.sl 18 s2), .d (.sl 18 s3), .d (.sl 18 s4)]), (4, .box [.osl 3 ((l.map rnV).map encVar), .d (.sl 18 t1), .d (.sl 18 t2), .d (.sl 18 t3), .d (.sl 18 t4)])], [[.d (.sl 1 cs), .d (.int .i64 ca)]]⟩)) ?_ ?_ ?_
  · intro st r h
    unfold L_lrenames_0 at h
    split at h
    · rename_i xs s1 s2 s3 s4 t1 t2 t3 t4 ys m n cs ca
      obtain ⟨l, hl, h0⟩ := Tr.opt_some h
      obtain rfl := unL_inv unVar_ok hl
      obtain ⟨l2, hl2, h01⟩ := Tr.opt_some h0
      obtain rfl := unL_inv unVar_ok hl2
      rcases Tr.br_some h01 with ⟨h1, h2⟩ | ⟨_, h2⟩
      · simp only [Bool.and_eq_true, decide_eq_true_eq] at h1
        obtain ⟨⟨rfl, rfl, h3, rfl⟩, h4⟩ := h1
        exact ⟨(cs, s1, s2, s3, s4, t1, t2, t3, t4, ca), l, 0, rfl, by omega, ⟨h3, h4⟩, (Tr.leaf_some h2).symm⟩
      · exact Tr.fail_some h2
    · exact Tr.fail_some h
  · rintro ⟨cs, s1, s2, s3, s4, t1, t2, t3, t4, ca⟩ l n ⟨h1, h2⟩ hn hb
    refine ⟨.ext 0, _, ?_, by simp, rfl⟩
    dsimp only
    rw [body_lrenames_0]
    refine Tr.dec_no (by omega) ?_
    rw [List.take_of_length_le (by omega)]; rfl
  · rintro ⟨cs, s1, s2, s3, s4, t1, t2, t3, t4, ca⟩ l n v ⟨h1, h2⟩ hn hb hat
    have hw : IntKind.i64.wrap ((n : Int) + 1) = ((n + 1 : Nat) : Int) := by rw [wrap_in] <;> omega
    have hsv : (v.name.length : Int) ≤ big := by simpa using List.all_eq_true.1 h2 v (List.mem_of_getElem? hb)
    refine .inr ⟨(cs, s1, s2, s3, s4, t1, t2, t3, t4, ca), ?_, ⟨h1, h2⟩, rfl⟩
    dsimp only
    rw [body_lrenames_0]
    refine Tr.dec_yes (by omega) (Tr.dec_yes (by omega) (Tr.opt_to hat (Tr.dec_yes ?_ (Tr.dec_yes ?_ ?_))))
    · unfold big at hsv; simp; omega
    · simp; omega
    · rw [hw, List.take_add_one, hb]
      simp only [Option.toList_some, List.map_append, List.map_cons, List.map_nil]
      rfl

theorem ok_lrenamesR : FnOK Tryd.prog gl 5 (fun ar H => fnT Xlr c_lrenames Tryd.f5.results.toList ar H) :=
  fn_of (X := Xlr) (xok_Xlr 5) Tryd.func5 c_lrenames_eq (by kernel_rfl) (by
    simp only [Sums, c_lrenames, and_true, true_and]
    exact sum_lrenames_0) fun _ _ _ h => h
end Go.AI.RD
