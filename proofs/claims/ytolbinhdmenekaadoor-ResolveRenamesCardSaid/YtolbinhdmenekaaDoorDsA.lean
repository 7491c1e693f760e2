/- The places of the drawn declarations, and what Resolve answers for a drawn program. -/
import Derived.Test.YtolbinhdmenekaaDoorDrR
import Derived.Test.YtolbinhdmenekaaDoorAxPoke
namespace Go.AI.RD
open Go Go.Proofs
set_option maxRecDepth 10000
set_option linter.unusedVariables false
set_option linter.unusedSimpArgs false

theorem lookG_no {v : Var} {r : List Var} {nm : List UInt8} {f : Int} (h : ¬ 2147483648 < f) (hn : ¬ v.name = nm) : lookG (v :: r) nm f = lookG r nm (f + cellsI v.size) := by
  rw [lookG, if_neg h, if_neg hn]
theorem lookG_yes {v : Var} {r : List Var} {nm : List UInt8} {f : Int} (h : ¬ 2147483648 < f) (hn : v.name = nm) : lookG (v :: r) nm f = some (f, max v.size 0) := by
  rw [lookG, if_neg h, if_pos hn]

theorem look_x {a b c : Int} (h0 : 0 ≤ b) (h1 : b ≤ 4) : lookG (vars5 a b c) [120] 0 = some (0, 0) := by
  unfold vars5
  rw [lookG_yes]
  all_goals first | (simp; done) | (simp only [cellsI]; omega) | (simp only [cellsI]; refine congrArg some (Prod.ext ?_ ?_) <;> dsimp only <;> omega)

section
variable {a b c : Int} (h0 : 0 ≤ b) (h1 : b ≤ 4)
include h0 h1
theorem look_a : lookG (vars5 a b c) [97] 0 = some (1, 1 + b) := by
  unfold vars5
  rw [lookG_no, lookG_yes]
  all_goals first | (simp; done) | (simp only [cellsI]; omega) | (simp only [cellsI]; refine congrArg some (Prod.ext ?_ ?_) <;> dsimp only <;> omega)
theorem look_y : lookG (vars5 a b c) [121] 0 = some (2 + b, 0) := by
  unfold vars5
  rw [lookG_no, lookG_no, lookG_yes]
  all_goals first | (simp; done) | (simp only [cellsI]; omega) | (simp only [cellsI]; refine congrArg some (Prod.ext ?_ ?_) <;> dsimp only <;> omega)
theorem look_z : lookG (vars5 a b c) [122] 0 = some (3 + b, 0) := by
  unfold vars5
  rw [lookG_no, lookG_no, lookG_no, lookG_yes]
  all_goals first | (simp; done) | (simp only [cellsI]; omega) | (simp only [cellsI]; refine congrArg some (Prod.ext ?_ ?_) <;> dsimp only <;> omega)
theorem look_b : lookG (vars5 a b c) [98] 0 = some (4 + b, 2) := by
  unfold vars5
  rw [lookG_no, lookG_no, lookG_no, lookG_no, lookG_yes]
  all_goals first | (simp; done) | (simp only [cellsI]; omega) | (simp only [cellsI]; refine congrArg some (Prod.ext ?_ ?_) <;> dsimp only <;> omega)

theorem vars5_plcs : plcs (vars5 a b c) = [⟨0, 0⟩, ⟨1, 1 + b⟩, ⟨2 + b, 0⟩, ⟨3 + b, 0⟩, ⟨4 + b, 2⟩] := by
  show [plcV (vars5 a b c) ⟨[120], 0, a⟩, plcV (vars5 a b c) ⟨[97], 1 + b, 0⟩, plcV (vars5 a b c) ⟨[121], 0, 0⟩, plcV (vars5 a b c) ⟨[122], 0, c⟩, plcV (vars5 a b c) ⟨[98], 2, 0⟩] = _
  simp only [plcV, look_x h0 h1, look_a h0 h1, look_y h0 h1, look_z h0 h1, look_b h0 h1, lk]

theorem getP5 (nm : List UInt8) : getP (.str nm) (kss (vars5 a b c)) (plcs (vars5 a b c)) =
    if nm = [120] then some ⟨0, 0⟩ else if nm = [97] then some ⟨1, 1 + b⟩ else if nm = [121] then some ⟨2 + b, 0⟩ else if nm = [122] then some ⟨3 + b, 0⟩ else if nm = [98] then some ⟨4 + b, 2⟩ else none := by
  rw [vars5_kss, vars5_plcs h0 h1]
  simp only [getP, eqK_str, @eq_comm _ _ nm]
  by_cases e1 : nm = [120]; · subst e1; rfl
  by_cases e2 : nm = [97]; · subst e2; rfl
  by_cases e3 : nm = [121]; · subst e3; rfl
  by_cases e4 : nm = [122]; · subst e4; rfl
  by_cases e5 : nm = [98]; · subst e5; rfl
  simp [e1, e2, e3, e4, e5]

theorem scName_fnd (k : Nat) : Fnd (kss (vars5 a b c)) (plcs (vars5 a b c)) (6 + b) (scName k) false := by
  intro x y
  have hw : ∀ n : Int, 0 ≤ n → n ≤ 100 → IntKind.i64.wrap n = n := fun n _ _ => wrap_in (by omega) (by omega)
  unfold fndR
  rw [getP5 h0 h1]
  have key : ∀ sl : Int, 0 ≤ sl → sl ≤ 3 + b → ((sl, sl) = (sl, sl)) ∧ out1 (6 + b) sl 0 = false := by
    intro sl q1 q2
    refine ⟨rfl, ?_⟩
    unfold out1
    rw [if_pos (by decide), hw _ (by omega) (by omega)]
    simp; omega
  match k with
  | 0 => exact ⟨by simp [scName], (key 0 (by omega) (by omega)).2⟩
  | 1 => exact ⟨by simp [scName], (key (2 + b) (by omega) (by omega)).2⟩
  | n + 2 => exact ⟨by simp [scName], (key (3 + b) (by omega) (by omega)).2⟩

theorem arName_fnd (k : Nat) : Fnd (kss (vars5 a b c)) (plcs (vars5 a b c)) (6 + b) (arName k) true := by
  intro x y
  have hw : ∀ n : Int, 0 ≤ n → n ≤ 100 → IntKind.i64.wrap n = n := fun n _ _ => wrap_in (by omega) (by omega)
  unfold fndR
  rw [getP5 h0 h1]
  match k with
  | 0 =>
    refine ⟨?_, ?_⟩
    · have : decide (0 < 1 + b) = true := decide_eq_true (by omega)
      simp [arName, this]
    · show out1 (6 + b) 1 (1 + b) = false
      unfold out1
      rw [if_neg (by omega), hw _ (by omega) (by omega)]
      simp; omega
  | n + 1 =>
    refine ⟨by simp [arName], ?_⟩
    show out1 (6 + b) (4 + b) 2 = false
    unfold out1
    rw [if_neg (by omega), hw _ (by omega) (by omega)]
    simp; omega
end

theorem resS_fnd {ks : List DV} {ps : List Plc} {c : Int} {ss : List DV} {m : Mk} (h : NamesS ks ps c 9 ss) : (resS ks ps 9 ss m).2 = m ∧ wthL c 9 ((resS ks ps 9 ss m).1.map encSt) = true := resS_ok 9 ss m h

/-- What Resolve answers for a drawn program. -/
theorem drawP_res (r : List UInt8) : ∃ (a b c : Int) (w1 w2 w3 w4 : List St), -2 ≤ a ∧ a ≤ 4 ∧ 0 ≤ b ∧ b ≤ 4 ∧ 0 ≤ c ∧ c ≤ 2 ∧ (drawP r).1.vars = vars5 a b c ∧
    resP (drawP r).1.vars ((drawP r).1.start.map encSt) ((drawP r).1.message.map encSt) ((drawP r).1.tick.map encSt) ((drawP r).1.input.map encSt) = ans1 (ini (vars5 a b c)) w1 w2 w3 w4 ∧
    w1 = (resS (kss (vars5 a b c)) (plcs (vars5 a b c)) 9 ((drawP r).1.start.map encSt) ⟨false, false⟩).1 ∧
    w2 = (resS (kss (vars5 a b c)) (plcs (vars5 a b c)) 9 ((drawP r).1.message.map encSt) ⟨false, false⟩).1 ∧
    w3 = (resS (kss (vars5 a b c)) (plcs (vars5 a b c)) 9 ((drawP r).1.tick.map encSt) ⟨false, false⟩).1 ∧
    w4 = (resS (kss (vars5 a b c)) (plcs (vars5 a b c)) 9 ((drawP r).1.input.map encSt) ⟨false, false⟩).1 ∧
    wthL (6 + b) 9 (w1.map encSt) = true ∧ wthL (6 + b) 9 (w2.map encSt) = true ∧ wthL (6 + b) 9 (w3.map encSt) = true ∧ wthL (6 + b) 9 (w4.map encSt) = true := by
  obtain ⟨a, b, c, h1, h2, h3, h4, h5, h6, hv⟩ := drawP_vars r
  obtain ⟨_, hc⟩ := drawP_check r
  have hs := fun k => scName_fnd (a := a) (c := c) h3 h4 k
  have ha := fun k => arName_fnd (a := a) (c := c) h3 h4 k
  have n1 : NamesS (kss (vars5 a b c)) (plcs (vars5 a b c)) (6 + b) 9 ((drawP r).1.start.map encSt) := drawS_names hs ha 2 9 3 _ (by decide)
  have n2 : NamesS (kss (vars5 a b c)) (plcs (vars5 a b c)) (6 + b) 9 ((drawP r).1.message.map encSt) := drawS_names hs ha 3 9 4 _ (by decide)
  have n3 : NamesS (kss (vars5 a b c)) (plcs (vars5 a b c)) (6 + b) 9 ((drawP r).1.tick.map encSt) := drawS_names hs ha 2 9 3 _ (by decide)
  have n4 : NamesS (kss (vars5 a b c)) (plcs (vars5 a b c)) (6 + b) 9 ((drawP r).1.input.map encSt) := drawS_names hs ha 2 9 2 _ (by decide)
  refine ⟨a, b, c, _, _, _, _, h1, h2, h3, h4, h5, h6, hv, ?_, rfl, rfl, rfl, rfl, (resS_fnd n1).2, (resS_fnd n2).2, (resS_fnd n3).2, (resS_fnd n4).2⟩
  unfold resP
  rw [if_pos hc, hv, if_neg (by simp [vars5]), vars5_dup, vars5_many h3 h4]
  have e1 : (res1L (vars5 a b c) ((drawP r).1.start.map encSt)).2 = ⟨false, false⟩ := (resS_fnd n1).1
  have e2 : res2L (vars5 a b c) ((drawP r).1.start.map encSt) ((drawP r).1.message.map encSt) = resS (kss (vars5 a b c)) (plcs (vars5 a b c)) 9 ((drawP r).1.message.map encSt) ⟨false, false⟩ := by
    unfold res2L; rw [e1]
  have e3 : res3L (vars5 a b c) ((drawP r).1.start.map encSt) ((drawP r).1.message.map encSt) ((drawP r).1.tick.map encSt) = resS (kss (vars5 a b c)) (plcs (vars5 a b c)) 9 ((drawP r).1.tick.map encSt) ⟨false, false⟩ := by
    unfold res3L; rw [e2, (resS_fnd n2).1]
  have e4 : res4L (vars5 a b c) ((drawP r).1.start.map encSt) ((drawP r).1.message.map encSt) ((drawP r).1.tick.map encSt) ((drawP r).1.input.map encSt) = resS (kss (vars5 a b c)) (plcs (vars5 a b c)) 9 ((drawP r).1.input.map encSt) ⟨false, false⟩ := by
    unfold res4L; rw [e3, (resS_fnd n3).1]
  rw [e4, (resS_fnd n4).1, e3, e2]
  rfl
end Go.AI.RD

/- Resolve's sum in a form for callers; awake; ResolveCells' tree. -/
namespace Go.AI.RD
open Go Go.Proofs
set_option maxRecDepth 10000
set_option linter.unusedVariables false
set_option linter.unusedSimpArgs false

def resOK (l : List Var) (s1 s2 s3 s4 : List DV) : Bool :=
  decide (chkP l s1 s2 s3 s4 = 0) && (!decide (16 < (l.length : Int)) && (!dupB [] l && (!many 0 l && (!(res4L l s1 s2 s3 s4).2.a && !(res4L l s1 s2 s3 s4).2.b))))
def resE (l : List Var) (s1 s2 s3 s4 : List DV) : Int :=
  if chkP l s1 s2 s3 s4 = 0 then
    (if 16 < (l.length : Int) then 4 else bif dupB [] l then 2 else bif many 0 l then 4 else bif (res4L l s1 s2 s3 s4).2.a then 2 else bif (res4L l s1 s2 s3 s4).2.b then 7 else 0)
  else chkP l s1 s2 s3 s4
theorem resP_form (l : List Var) (s1 s2 s3 s4 : List DV) : resP l s1 s2 s3 s4 = bif resOK l s1 s2 s3 s4 then ans1 (ini l) (res1L l s1).1 (res2L l s1 s2).1 (res3L l s1 s2 s3).1 (res4L l s1 s2 s3 s4).1 else ans0 (resE l s1 s2 s3 s4) := by
  unfold resP resOK resE
  by_cases h1 : chkP l s1 s2 s3 s4 = 0
  · by_cases h2 : 16 < (l.length : Int)
    · simp [h1, h2]
    · cases h3 : dupB [] l <;> cases h4 : many 0 l <;> cases h5 : (res4L l s1 s2 s3 s4).2.a <;> cases h6 : (res4L l s1 s2 s3 s4).2.b <;> simp [h1, h2]
  · simp [h1]

theorem ok_within9 : FnOK Tryd.prog gl 14 (withinT 9) := ok_within 9

def resolveT2 : FT
  | [.agg [.d (.sl 3 xs), .d (.sl 18 s1), .d (.sl 18 s2), .d (.sl 18 s3), .d (.sl 18 s4)]], [] => .opt (unL unVar xs) fun l => .br (decide ((l.length : Int) ≤ big) && (short l && fitP s1 s2 s3 s4)) (.br (resOK l s1 s2 s3 s4) (.leaf (.tup [.agg [.d (.sl 1 (ini l)), .d (.sl 18 ((res1L l s1).1.map encSt)), .d (.sl 18 ((res2L l s1 s2).1.map encSt)), .d (.sl 18 ((res3L l s1 s2 s3).1.map encSt)), .d (.sl 18 ((res4L l s1 s2 s3 s4).1.map encSt))], .d (.int .i64 0)], [])) (.leaf (.tup [.agg [.d (.sl 1 []), .d (.sl 18 []), .d (.sl 18 []), .d (.sl 18 []), .d (.sl 18 [])], .d (.int .i64 (resE l s1 s2 s3 s4))], []))) .fail
  | _, _ => .fail


theorem ok_resolve2 : FnOK Tryd.prog gl 10 resolveT2 := ok_resolve.imp fun ar H o h => by
  unfold resolveT2 at h
  unfold resolveT
  split at h
  · obtain ⟨l, hl, h⟩ := Tr.opt_some h
    refine Tr.opt_to hl ?_
    rcases Tr.br_some h with ⟨h1, h2⟩ | ⟨_, h2⟩
    · refine (Tr.run_yes h1).trans ?_
      rw [resP_form]
      rcases Tr.br_some h2 with ⟨h3, h4⟩ | ⟨h3, h4⟩ <;> rw [h3] <;> exact h4
    · exact Tr.fail_some h2
  · exact Tr.fail_some h

noncomputable abbrev Xaw : TX := ⟨Tryd.prog, tbl [(10, resolveT2), (13, lookupT)], iso, gl, vw⟩

theorem xok_Xaw (f : Nat) : XOK Xaw (ann f) gl := XOK.of base (l := [(10, resolveT2), (13, lookupT)]) ⟨ok_resolve2, ok_lookup, trivial⟩ f

def awakeT : FT
  | [], [] => .leaf (.d (.bool true), [])
  | _, _ => .fail

/-- rollbacknet/rollbacknetlaw03.awake -/
def c_awake : CC := .seq (.region [
    ⟨.yes, (some 0), .assign (.const (.bool false)), false, false, []⟩] []) <|
  .seq (.region [
    ⟨.yes, (some 7), .build 42 #[(0, (.const (.string ⟨#[120]⟩))), (2, (.const (.int .i64 (3))))], false, false, []⟩,
    ⟨.yes, (some 8), .build 42 #[(0, (.const (.string ⟨#[97]⟩))), (1, (.const (.int .i64 (2))))], false, false, []⟩,
    ⟨.yes, (some 9), .build 42 #[(0, (.const (.string ⟨#[121]⟩)))], false, false, []⟩,
    ⟨.yes, (some 10), .buildSlice 26 3 #[(0, (.tmp 7)), (1, (.tmp 8)), (2, (.tmp 9))], false, false, [(some 3)]⟩,
    ⟨.yes, (some 11), .build 29 #[(0, (.tmp 10))], true, false, [(some 3), (some 18), (some 18), (some 18), (some 18)]⟩,
    ⟨.yes, (some 1), .alloc 29, false, false, []⟩,
    ⟨.yes, none, .store 29 (.tmp 1) (.tmp 11), true, false, []⟩] [1]) <|
  .seq (.region [
    ⟨.yes, (some 13), .load 29 (.tmp 1), false, false, [(some 3), (some 18), (some 18), (some 18), (some 18)]⟩,
    ⟨.yes, (some 14), .call ⟨.value (.func 10), #[(.tmp 13)], #[29]⟩, false, false, []⟩,
    ⟨.yes, (some 12), .move (.tmp 14), true, false, []⟩,
    ⟨.yes, (some 15), .extract (.tmp 12) 0, false, false, [(some 1), (some 18), (some 18), (some 18), (some 18)]⟩,
    ⟨.yes, (some 16), .extract (.tmp 12) 1, false, false, []⟩,
    ⟨.yes, (some 2), .alloc 35, false, false, []⟩,
    ⟨.yes, none, .store 35 (.tmp 2) (.tmp 15), true, false, []⟩,
    ⟨.yes, (some 3), .assign (.tmp 16), true, false, []⟩] [1, 2, 3]) <|
  .seq (.region [
    ⟨.yes, (some 18), .fieldAddr 29 (.tmp 1) 0, false, false, []⟩,
    ⟨.yes, (some 19), .load 26 (.tmp 18), false, false, [(some 3)]⟩,
    ⟨.yes, (some 20), .call ⟨.value (.func 13), #[(.tmp 19), (.const (.string ⟨#[121]⟩))], #[26, 9]⟩, false, false, []⟩,
    ⟨.yes, (some 17), .move (.tmp 20), true, false, []⟩,
    ⟨.yes, (some 21), .extract (.tmp 17) 0, false, false, []⟩,
    ⟨.yes, (some 22), .extract (.tmp 17) 1, false, false, []⟩,
    ⟨.yes, (some 23), .extract (.tmp 17) 2, false, false, []⟩,
    ⟨.yes, (some 4), .assign (.tmp 21), true, false, []⟩,
    ⟨.yes, (some 5), .assign (.tmp 22), true, false, []⟩,
    ⟨.yes, (some 6), .assign (.tmp 23), true, false, []⟩] [2, 3, 4, 6]) <|
  .seq (.region [
    ⟨.yes, (some 24), .move (.tmp 3), true, false, []⟩,
    ⟨.yes, (some 25), .binOp .eql 36 (.tmp 24) (.const (.int .i64 (0))) 36, false, false, []⟩,
    ⟨.yes, (some 26), .move (.tmp 25), true, false, []⟩,
    ⟨(.on 26 true), (some 27), .fieldAddr 35 (.tmp 2) 0, false, false, []⟩,
    ⟨(.on 26 true), (some 28), .load 33 (.tmp 27), false, false, [(some 1)]⟩,
    ⟨(.on 26 true), (some 29), .call ⟨.builtin .len, #[(.tmp 28)], #[33]⟩, false, false, []⟩,
    ⟨(.on 26 true), (some 30), .binOp .eql 3 (.tmp 29) (.const (.int .i64 (4))) 3, false, false, []⟩,
    ⟨.yes, (some 31), .pick (.tmp 26) (.tmp 30) (.const (.bool false)), false, false, []⟩,
    ⟨.yes, (some 32), .move (.tmp 31), true, false, []⟩,
    ⟨(.on 32 true), (some 33), .fieldAddr 35 (.tmp 2) 0, false, false, []⟩,
    ⟨(.on 32 true), (some 34), .load 33 (.tmp 33), false, false, [(some 1)]⟩,
    ⟨(.on 32 true), (some 35), .indexAddr 33 (.tmp 34) (.const (.int .i64 (0))), false, false, []⟩,
    ⟨(.on 32 true), (some 36), .load 3 (.tmp 35), false, false, []⟩,
    ⟨(.on 32 true), (some 37), .binOp .eql 3 (.tmp 36) (.const (.int .i64 (3))) 3, false, false, []⟩,
    ⟨.yes, (some 38), .pick (.tmp 32) (.tmp 37) (.const (.bool false)), false, false, []⟩,
    ⟨.yes, (some 39), .move (.tmp 38), true, false, []⟩,
    ⟨(.on 39 true), (some 40), .move (.tmp 6), true, false, []⟩,
    ⟨.yes, (some 41), .pick (.tmp 39) (.tmp 40) (.const (.bool false)), false, false, []⟩,
    ⟨.yes, (some 42), .move (.tmp 41), true, false, []⟩,
    ⟨(.on 42 true), (some 43), .move (.tmp 4), true, false, []⟩,
    ⟨(.on 42 true), (some 44), .binOp .eql 3 (.tmp 43) (.const (.int .i64 (3))) 3, false, false, []⟩,
    ⟨.yes, (some 45), .pick (.tmp 42) (.tmp 44) (.const (.bool false)), false, false, []⟩,
    ⟨.yes, (some 0), .assign (.tmp 45), true, false, []⟩] [0]) <|
  .ret

theorem c_awake_eq : ∃ c, Tryd.f6.body = some c ∧ codeOK Tryd.f6.ntmps c = true ∧ comp Tryd.prog (ann 6) c = erase c_awake := ⟨_, rfl, by kernel_rfl, by kernel_rfl⟩

theorem tree_awake : fnT Xaw c_awake Tryd.f6.results.toList [] [] = (
    .opt (unL unVar ([(.agg [.str [120], .int .i64 0, .int .i64 3]), (.agg [.str [97], .int .i64 2, .int .i64 0]), (.agg [.str [121], .int .i64 0, .int .i64 0])] : List DV)) fun l1 => .br (decide ((l1.length : Int) ≤ big) && (short l1 && fitP ([] : List DV) ([] : List DV) ([] : List DV) ([] : List DV)))
 (.br (resOK l1 ([] : List DV) ([] : List DV) ([] : List DV) ([] : List DV))
 (.opt (unL unVar ([(.agg [.str [120], .int .i64 0, .int .i64 3]), (.agg [.str [97], .int .i64 2, .int .i64 0]), (.agg [.str [121], .int .i64 0, .int .i64 0])] : List DV)) fun l2 => .br (decide ((l2.length : Int) ≤ big))
 (.br (decide ((0 : Int) = 0))
 (.br (decide (((ini l1).length : Int) = 4))
 (.br (decide ((0 : Int) ≤ 0))
 (.opt (((ini l1)[0]?).bind (unInt .i64)) fun y3 => .br (decide (y3 = 3))
 (.br ((lk (lookG l2 ([121] : List UInt8) 0)).2.2)
 (.leaf (.d (.bool (decide (((lk (lookG l2 ([121] : List UInt8) 0)).1) = 3))), []))
 (.leaf (.d (.bool false), [])))
 (.leaf (.d (.bool false), [])))
 (.fail))
 (.leaf (.d (.bool false), [])))
 (.leaf (.d (.bool false), [])))
 (.fail))
 (.opt (unL unVar ([(.agg [.str [120], .int .i64 0, .int .i64 3]), (.agg [.str [97], .int .i64 2, .int .i64 0]), (.agg [.str [121], .int .i64 0, .int .i64 0])] : List DV)) fun l4 => .br (decide ((l4.length : Int) ≤ big))
 (.br (decide ((resE l1 ([] : List DV) ([] : List DV) ([] : List DV) ([] : List DV)) = 0))
 (.br (decide ((([] : List DV).length : Int) = 4))
 (.br (decide ((0 : Int) ≤ 0))
 (.opt ((([] : List DV)[0]?).bind (unInt .i64)) fun y5 => .br (decide (y5 = 3))
 (.br ((lk (lookG l4 ([121] : List UInt8) 0)).2.2)
 (.leaf (.d (.bool (decide (((lk (lookG l4 ([121] : List UInt8) 0)).1) = 3))), []))
 (.leaf (.d (.bool false), [])))
 (.leaf (.d (.bool false), [])))
 (.fail))
 (.leaf (.d (.bool false), [])))
 (.leaf (.d (.bool false), [])))
 (.fail)))
 (.fail) : Tr (AV × Hp)) := by kernel_rfl

theorem ok_awake : FnOK Tryd.prog gl 6 awakeT := by
  refine fn_of (X := Xaw) (xok_Xaw 6) Tryd.func6 c_awake_eq (by kernel_rfl) (by simp only [Sums, c_awake, and_true]) ?_
  intro xs H o h
  unfold awakeT at h
  split at h
  · rw [tree_awake]
    obtain rfl := Tr.leaf_some h
    kernel_rfl
  · exact Tr.fail_some h

end Go.AI.RD

/- Integers in lists; resolved statements fit; the initial values of the drawn declarations. -/
namespace Go.AI.RD
open Go Go.Proofs
set_option maxRecDepth 10000
set_option linter.unusedVariables false
set_option linter.unusedSimpArgs false

def unI : DV → Option Int := unInt .i64
def encI (n : Int) : DV := .int .i64 n
theorem unI_enc (n : Int) : unI (encI n) = some n := rfl
theorem unI_ok : ∀ x y, unI x = some y → x = encI y := (View.int .i64).ok

theorem resL_fit {f : Xp → Mk → Xp × Mk} {P : Xp → Bool} : ∀ (l : List Xp) (m : Mk), (∀ x ∈ l, ∀ m, P (f x m).1 = true) → (resL f l m).1.all P = true ∧ (resL f l m).1.length = l.length
  | [], m, _ => ⟨rfl, rfl⟩
  | x :: l, m, h => by
    have h1 := h x (List.mem_cons_self ..) m
    have h2 := resL_fit l (f x m).2 (fun y hy => h y (List.mem_cons_of_mem _ hy))
    show (P (f x m).1 && (resL f l (f x m).2).1.all P) = true ∧ (resL f l (f x m).2).1.length + 1 = l.length + 1
    rw [h1, h2.1, h2.2]
    exact ⟨rfl, rfl⟩
theorem headR_same (ks : List DV) (ps : List Plc) (e : Xp) (m : Mk) : (headR ks ps e m).1.name = e.name := by unfold headR; split <;> rfl
theorem resX_fit {ks : List DV} {ps : List Plc} : ∀ (n : Nat) (e : Xp) (m : Mk), fitX n e = true → fitX n (resX ks ps n e m).1 = true
  | 0, _, _, h => by simp [fitX] at h
  | n + 1, e, m, h => by
    simp only [fitX] at h
    split at h
    · rename_i l hl
      simp only [Bool.and_eq_true, decide_eq_true_eq] at h
      obtain ⟨⟨h1, h2⟩, h3⟩ := h
      have hu : ∀ q : List Xp, unL unXp (q.map encXp) = some q := unL_map (un := unXp) (enc := encXp) unXp_enc
      have q := resL_fit (f := resX ks ps n) (P := fitX n) l (headR ks ps e m).2 (fun x hx m => resX_fit n x m (List.all_eq_true.1 h3 x hx))
      simp only [resX, hl, fitX, hu, q.1, q.2, headR_same, Bool.and_true]
      exact decide_eq_true ⟨h1, h2⟩
    · cases h
theorem resQ_fit {f : St → Mk → St × Mk} {P : St → Bool} : ∀ (l : List St) (m : Mk), (∀ x ∈ l, ∀ m, P (f x m).1 = true) → (resQ f l m).1.all P = true ∧ (resQ f l m).1.length = l.length
  | [], m, _ => ⟨rfl, rfl⟩
  | x :: l, m, h => by
    have h1 := h x (List.mem_cons_self ..) m
    have h2 := resQ_fit l (f x m).2 (fun y hy => h y (List.mem_cons_of_mem _ hy))
    show (P (f x m).1 && (resQ f l (f x m).2).1.all P) = true ∧ (resQ f l (f x m).2).1.length + 1 = l.length + 1
    rw [h1, h2.1, h2.2]
    exact ⟨rfl, rfl⟩
theorem resS_fit {ks : List DV} {ps : List Plc} : ∀ (n : Nat) (ss : List DV) (m : Mk), fitS n ss = true → fitS n ((resS ks ps n ss m).1.map encSt) = true
  | 0, _, _, h => by simp [fitS] at h
  | n + 1, ss, m, h => by
    simp only [fitS] at h
    split at h
    · rename_i l hl
      simp only [Bool.and_eq_true, decide_eq_true_eq] at h
      obtain ⟨h1, h3⟩ := h
      have hu : ∀ q : List St, unL unSt (q.map encSt) = some q := unL_map (un := unSt) (enc := encSt) unSt_enc
      have q := resQ_fit (f := res1 ks ps (resS ks ps n)) (P := fit1 n) l m (fun x hx m => by
        have := List.all_eq_true.1 h3 x hx
        simp only [Bool.and_eq_true, decide_eq_true_eq] at this
        obtain ⟨f1, f2, f3, f4, f5⟩ := this
        simp only [fit1, res1, resX_fit 9 _ _ f1, resX_fit 9 _ _ f2, resS_fit n _ _ f3, resS_fit n _ _ f4, Bool.true_and]
        exact decide_eq_true f5)
      simp only [resS, hl, fitS, hu, q.2]
      rw [Bool.and_eq_true]
      exact ⟨decide_eq_true h1, q.1⟩
    · cases h

theorem vars5_ini {a b c : Int} {B : Nat} (hb : b = (B : Int)) : ini (vars5 a b c) = ([a] ++ (List.replicate (B + 1) 0 ++ ([0] ++ ([c] ++ [0, 0])))).map encI := by
  subst hb
  simp only [ini, vars5, List.flatMap_cons, List.flatMap_nil, iniOf, List.map_append, List.map_replicate]
  have h2 : (max (1 + (B : Int)) 1).toNat - 1 = B := by omega
  rw [h2, List.replicate_succ]
  rfl

theorem vars5_list {a b c : Int} (h0 : 0 ≤ b) : ∃ q : List Int, ini (vars5 a b c) = q.map encI ∧ q.length = 6 + b.toNat := by
  obtain ⟨B, rfl⟩ := Int.eq_ofNat_of_zero_le h0
  exact ⟨_, vars5_ini rfl, by simp; omega⟩
end Go.AI.RD
