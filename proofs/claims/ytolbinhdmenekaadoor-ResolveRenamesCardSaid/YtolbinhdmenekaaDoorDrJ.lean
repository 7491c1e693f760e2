/- syntax.statement, syntax.statements, in sum. -/
import Derived.Test.YtolbinhdmenekaaDoorDrG
namespace Go.AI.RD
open Go Go.Proofs
set_option maxRecDepth 10000
set_option linter.unusedVariables false
set_option linter.unusedSimpArgs false

theorem ok_expr9 : FnOK Tryd.prog gl 56 (exprT 9) := ok_expr 9

/-- Is a statement itself one that could be written? -/
def headS (s : St) : Bool :=
  !(decide (s.kind < 1) || (decide (6 < s.kind) || (!decide (s.slot = 0) || !decide (s.size = 0)))) &&
  (!(((decide (s.kind = 1) || decide (s.kind = 2)) && !validB s.name) || (!(decide (s.kind = 1) || decide (s.kind = 2)) && !decide (s.name = []))) &&
  (!(((decide (s.kind = 2) || decide (s.kind = 5)) && !goodX 9 s.place) || ((!(decide (s.kind = 2) || decide (s.kind = 5)) && !zeroX s.place) || !goodX 9 s.value)) &&
  !((!decide (s.kind = 3) && decide ((0 : Int) < s.els.length)) || (!decide (s.kind = 3) && (!decide (s.kind = 4) && decide ((0 : Int) < s.body.length))))))

def goodL : Nat → List DV → Bool
  | 0, _ => false
  | n + 1, ss => match unL unSt ss with
    | some l => l.all fun s => headS s && (goodL n s.body && goodL n s.els)
    | none => false
def good1 (n : Nat) (s : St) : Bool := headS s && (goodL n s.body && goodL n s.els)

def statsT (N : Nat) : FT
  | [.d (.sl 18 ss)], [] => .br (fitS N ss) (.leaf (.d (.bool (goodL N ss)), [])) .fail
  | _, _ => .fail

def statT (N : Nat) : FT
  | [.agg [.d (.int .i64 k), .d (.str nm), .d (.int .i64 sl), .d (.int .i64 sz), .d (.int .i64 po), .d (.int .i64 pv), .d (.str pn), .d (.int .i64 ps), .d (.int .i64 pz), .d (.sl 6 pa), .d (.int .i64 vo), .d (.int .i64 vv), .d (.str vn), .d (.int .i64 vs), .d (.int .i64 vz), .d (.sl 6 va), .d (.sl 18 bd), .d (.sl 18 es)]], [] => .br (fit1 N ⟨k, nm, sl, sz, ⟨po, pv, pn, ps, pz, pa⟩, ⟨vo, vv, vn, vs, vz, va⟩, bd, es⟩) (.leaf (.d (.bool (good1 N ⟨k, nm, sl, sz, ⟨po, pv, pn, ps, pz, pa⟩, ⟨vo, vv, vn, vs, vz, va⟩, bd, es⟩)), [])) .fail
  | _, _ => .fail

noncomputable abbrev Xst (N : Nat) : TX := ⟨Tryd.prog, tbl [(56, (exprT 9)), (33, validT), (57, zeroT), (34, statsT N)], iso, gl, vw⟩

theorem xok_Xst (N : Nat) (h_stats : FnOK Tryd.prog gl 34 (statsT N)) (f : Nat) : XOK (Xst N) (ann f) gl := XOK.of base (l := [(56, (exprT 9)), (33, validT), (57, zeroT), (34, statsT N)]) ⟨ok_expr9, ok_valid, ok_zero, h_stats, trivial⟩ f

/-- rollbacknet/syntax.statement -/
def c_stat : CC := .seq (.region [
    ⟨.yes, (some 1), .box 59 (.tmp 0), true, false, []⟩,
    ⟨.yes, (some 2), .assign (.const (.bool false)), false, false, []⟩] [1]) <|
  .seq (.region [
    ⟨.yes, (some 5), .fieldAddr 59 (.tmp 1) 0, false, false, []⟩,
    ⟨.yes, (some 6), .load 3 (.tmp 5), false, false, []⟩,
    ⟨.yes, (some 7), .binOp .eql 3 (.tmp 6) (.const (.int .i64 (1))) 3, false, false, []⟩,
    ⟨.yes, (some 8), .move (.tmp 7), true, false, []⟩,
    ⟨(.on 8 false), (some 9), .fieldAddr 59 (.tmp 1) 0, false, false, []⟩,
    ⟨(.on 8 false), (some 10), .load 3 (.tmp 9), false, false, []⟩,
    ⟨(.on 8 false), (some 11), .binOp .eql 3 (.tmp 10) (.const (.int .i64 (2))) 3, false, false, []⟩,
    ⟨.yes, (some 12), .pick (.tmp 8) (.const (.bool true)) (.tmp 11), false, false, []⟩,
    ⟨.yes, (some 3), .assign (.tmp 12), true, false, []⟩] [1, 3]) <|
  .seq (.region [
    ⟨.yes, (some 13), .fieldAddr 59 (.tmp 1) 0, false, false, []⟩,
    ⟨.yes, (some 14), .load 3 (.tmp 13), false, false, []⟩,
    ⟨.yes, (some 15), .binOp .eql 3 (.tmp 14) (.const (.int .i64 (2))) 3, false, false, []⟩,
    ⟨.yes, (some 16), .move (.tmp 15), true, false, []⟩,
    ⟨(.on 16 false), (some 17), .fieldAddr 59 (.tmp 1) 0, false, false, []⟩,
    ⟨(.on 16 false), (some 18), .load 3 (.tmp 17), false, false, []⟩,
    ⟨(.on 16 false), (some 19), .binOp .eql 3 (.tmp 18) (.const (.int .i64 (5))) 3, false, false, []⟩,
    ⟨.yes, (some 20), .pick (.tmp 16) (.const (.bool true)) (.tmp 19), false, false, []⟩,
    ⟨.yes, (some 4), .assign (.tmp 20), true, false, []⟩] [1, 3, 4]) <|
  .seq (.block 0 <| .seq (.region [
    ⟨.yes, (some 22), .fieldAddr 59 (.tmp 1) 0, false, false, []⟩,
    ⟨.yes, (some 23), .load 3 (.tmp 22), false, false, []⟩,
    ⟨.yes, (some 24), .binOp .lss 3 (.tmp 23) (.const (.int .i64 (1))) 3, false, false, []⟩,
    ⟨.yes, (some 25), .move (.tmp 24), true, false, []⟩,
    ⟨(.on 25 false), (some 26), .fieldAddr 59 (.tmp 1) 0, false, false, []⟩,
    ⟨(.on 25 false), (some 27), .load 3 (.tmp 26), false, false, []⟩,
    ⟨(.on 25 false), (some 28), .binOp .gtr 3 (.tmp 27) (.const (.int .i64 (6))) 3, false, false, []⟩,
    ⟨.yes, (some 29), .pick (.tmp 25) (.const (.bool true)) (.tmp 28), false, false, []⟩,
    ⟨.yes, (some 30), .move (.tmp 29), true, false, []⟩,
    ⟨(.on 30 false), (some 31), .fieldAddr 59 (.tmp 1) 2, false, false, []⟩,
    ⟨(.on 30 false), (some 32), .load 3 (.tmp 31), false, false, []⟩,
    ⟨(.on 30 false), (some 33), .binOp .neq 3 (.tmp 32) (.const (.int .i64 (0))) 3, false, false, []⟩,
    ⟨.yes, (some 34), .pick (.tmp 30) (.const (.bool true)) (.tmp 33), false, false, []⟩,
    ⟨.yes, (some 35), .move (.tmp 34), true, false, []⟩,
    ⟨(.on 35 false), (some 36), .fieldAddr 59 (.tmp 1) 3, false, false, []⟩,
    ⟨(.on 35 false), (some 37), .load 3 (.tmp 36), false, false, []⟩,
    ⟨(.on 35 false), (some 38), .binOp .neq 3 (.tmp 37) (.const (.int .i64 (0))) 3, false, false, []⟩,
    ⟨.yes, (some 39), .pick (.tmp 35) (.const (.bool true)) (.tmp 38), false, false, []⟩,
    ⟨.yes, (some 21), .assign (.tmp 39), true, false, []⟩] [1, 3, 4, 21]) <|
  .cond (.tmp 21)
    (.seq (.region [
      ⟨.yes, (some 2), .assign (.const (.bool false)), false, false, []⟩] [2]) <|
    .ret)
    (.seq (.region [
      ⟨.yes, (some 41), .move (.tmp 3), false, false, []⟩,
      ⟨.yes, (some 42), .move (.tmp 41), true, false, []⟩,
      ⟨(.on 42 true), (some 43), .fieldAddr 59 (.tmp 1) 1, false, false, []⟩,
      ⟨(.on 42 true), (some 44), .load 9 (.tmp 43), false, false, []⟩,
      ⟨(.on 42 true), (some 45), .call ⟨.value (.func 33), #[(.tmp 44)], #[9]⟩, false, false, []⟩,
      ⟨(.on 42 true), (some 46), .unOp .not 4 (.tmp 45), false, false, []⟩,
      ⟨.yes, (some 47), .pick (.tmp 42) (.tmp 46) (.const (.bool false)), false, false, []⟩,
      ⟨.yes, (some 48), .move (.tmp 47), true, false, []⟩,
      ⟨(.on 48 false), (some 49), .move (.tmp 3), true, false, []⟩,
      ⟨(.on 48 false), (some 50), .unOp .not 4 (.tmp 49), false, false, []⟩,
      ⟨(.on 48 false), (some 51), .move (.tmp 50), true, false, []⟩,
      ⟨(.on 51 true), (some 52), .fieldAddr 59 (.tmp 1) 1, false, false, []⟩,
      ⟨(.on 51 true), (some 53), .load 9 (.tmp 52), false, false, []⟩,
      ⟨(.on 51 true), (some 54), .binOp .neq 9 (.tmp 53) (.const (.string ⟨#[]⟩)) 9, false, false, []⟩,
      ⟨(.on 48 false), (some 55), .pick (.tmp 51) (.tmp 54) (.const (.bool false)), false, false, []⟩,
      ⟨.yes, (some 56), .pick (.tmp 48) (.const (.bool true)) (.tmp 55), false, false, []⟩,
      ⟨.yes, (some 40), .assign (.tmp 56), true, false, []⟩] [1, 4, 40]) <|
    .cond (.tmp 40)
      (.seq (.region [
        ⟨.yes, (some 2), .assign (.const (.bool false)), false, false, []⟩] [2]) <|
      .ret)
      (.seq (.region [
        ⟨.yes, (some 58), .move (.tmp 4), false, false, []⟩,
        ⟨.yes, (some 59), .move (.tmp 58), true, false, []⟩,
        ⟨(.on 59 true), (some 60), .fieldAddr 59 (.tmp 1) 4, false, false, []⟩,
        ⟨(.on 59 true), (some 61), .load 56 (.tmp 60), false, false, [none, none, none, none, none, (some 6)]⟩,
        ⟨(.on 59 true), (some 62), .call ⟨.value (.func 56), #[(.tmp 61)], #[56]⟩, false, false, []⟩,
        ⟨(.on 59 true), (some 63), .unOp .not 4 (.tmp 62), false, false, []⟩,
        ⟨.yes, (some 64), .pick (.tmp 59) (.tmp 63) (.const (.bool false)), false, false, []⟩,
        ⟨.yes, (some 65), .move (.tmp 64), true, false, []⟩,
        ⟨(.on 65 false), (some 66), .move (.tmp 4), true, false, []⟩,
        ⟨(.on 65 false), (some 67), .unOp .not 4 (.tmp 66), false, false, []⟩,
        ⟨(.on 65 false), (some 68), .move (.tmp 67), true, false, []⟩,
        ⟨(.on 68 true), (some 69), .fieldAddr 59 (.tmp 1) 4, false, false, []⟩,
        ⟨(.on 68 true), (some 70), .load 56 (.tmp 69), false, false, [none, none, none, none, none, (some 6)]⟩,
        ⟨(.on 68 true), (some 71), .call ⟨.value (.func 57), #[(.tmp 70)], #[56]⟩, false, false, []⟩,
        ⟨(.on 68 true), (some 72), .unOp .not 4 (.tmp 71), false, false, []⟩,
        ⟨(.on 65 false), (some 73), .pick (.tmp 68) (.tmp 72) (.const (.bool false)), false, false, []⟩,
        ⟨.yes, (some 74), .pick (.tmp 65) (.const (.bool true)) (.tmp 73), false, false, []⟩,
        ⟨.yes, (some 75), .move (.tmp 74), true, false, []⟩,
        ⟨(.on 75 false), (some 76), .fieldAddr 59 (.tmp 1) 5, false, false, []⟩,
        ⟨(.on 75 false), (some 77), .load 56 (.tmp 76), false, false, [none, none, none, none, none, (some 6)]⟩,
        ⟨(.on 75 false), (some 78), .call ⟨.value (.func 56), #[(.tmp 77)], #[56]⟩, false, false, []⟩,
        ⟨(.on 75 false), (some 79), .unOp .not 4 (.tmp 78), false, false, []⟩,
        ⟨.yes, (some 80), .pick (.tmp 75) (.const (.bool true)) (.tmp 79), false, false, []⟩,
        ⟨.yes, (some 57), .assign (.tmp 80), true, false, []⟩] [1, 57]) <|
      .cond (.tmp 57)
        (.seq (.region [
          ⟨.yes, (some 2), .assign (.const (.bool false)), false, false, []⟩] [2]) <|
        .ret)
        (.seq (.region [
          ⟨.yes, (some 82), .fieldAddr 59 (.tmp 1) 0, false, false, []⟩,
          ⟨.yes, (some 83), .load 3 (.tmp 82), false, false, []⟩,
          ⟨.yes, (some 84), .binOp .neq 3 (.tmp 83) (.const (.int .i64 (3))) 3, false, false, []⟩,
          ⟨.yes, (some 85), .move (.tmp 84), true, false, []⟩,
          ⟨(.on 85 true), (some 86), .fieldAddr 59 (.tmp 1) 7, false, false, []⟩,
          ⟨(.on 85 true), (some 87), .load 27 (.tmp 86), false, false, [(some 18)]⟩,
          ⟨(.on 85 true), (some 88), .call ⟨.builtin .len, #[(.tmp 87)], #[27]⟩, false, false, []⟩,
          ⟨(.on 85 true), (some 89), .binOp .gtr 3 (.tmp 88) (.const (.int .i64 (0))) 3, false, false, []⟩,
          ⟨.yes, (some 90), .pick (.tmp 85) (.tmp 89) (.const (.bool false)), false, false, []⟩,
          ⟨.yes, (some 91), .move (.tmp 90), true, false, []⟩,
          ⟨(.on 91 false), (some 92), .fieldAddr 59 (.tmp 1) 0, false, false, []⟩,
          ⟨(.on 91 false), (some 93), .load 3 (.tmp 92), false, false, []⟩,
          ⟨(.on 91 false), (some 94), .binOp .neq 3 (.tmp 93) (.const (.int .i64 (3))) 3, false, false, []⟩,
          ⟨(.on 91 false), (some 95), .move (.tmp 94), true, false, []⟩,
          ⟨(.on 95 true), (some 96), .fieldAddr 59 (.tmp 1) 0, false, false, []⟩,
          ⟨(.on 95 true), (some 97), .load 3 (.tmp 96), false, false, []⟩,
          ⟨(.on 95 true), (some 98), .binOp .neq 3 (.tmp 97) (.const (.int .i64 (4))) 3, false, false, []⟩,
          ⟨(.on 91 false), (some 99), .pick (.tmp 95) (.tmp 98) (.const (.bool false)), false, false, []⟩,
          ⟨(.on 91 false), (some 100), .move (.tmp 99), true, false, []⟩,
          ⟨(.on 100 true), (some 101), .fieldAddr 59 (.tmp 1) 6, false, false, []⟩,
          ⟨(.on 100 true), (some 102), .load 27 (.tmp 101), false, false, [(some 18)]⟩,
          ⟨(.on 100 true), (some 103), .call ⟨.builtin .len, #[(.tmp 102)], #[27]⟩, false, false, []⟩,
          ⟨(.on 100 true), (some 104), .binOp .gtr 3 (.tmp 103) (.const (.int .i64 (0))) 3, false, false, []⟩,
          ⟨(.on 91 false), (some 105), .pick (.tmp 100) (.tmp 104) (.const (.bool false)), false, false, []⟩,
          ⟨.yes, (some 106), .pick (.tmp 91) (.const (.bool true)) (.tmp 105), false, false, []⟩,
          ⟨.yes, (some 81), .assign (.tmp 106), true, false, []⟩] [1, 81]) <|
        .cond (.tmp 81)
          (.seq (.region [
            ⟨.yes, (some 2), .assign (.const (.bool false)), false, false, []⟩] [2]) <|
          .ret)
          (.skip))))) <|
  .seq (.region [
    ⟨.yes, (some 107), .fieldAddr 59 (.tmp 1) 6, false, false, []⟩,
    ⟨.yes, (some 108), .load 27 (.tmp 107), false, false, [(some 18)]⟩,
    ⟨.yes, (some 109), .call ⟨.value (.func 34), #[(.tmp 108)], #[27]⟩, false, false, []⟩,
    ⟨.yes, (some 110), .move (.tmp 109), true, false, []⟩,
    ⟨(.on 110 true), (some 111), .fieldAddr 59 (.tmp 1) 7, false, false, []⟩,
    ⟨(.on 110 true), (some 112), .load 27 (.tmp 111), false, false, [(some 18)]⟩,
    ⟨(.on 110 true), (some 113), .call ⟨.value (.func 34), #[(.tmp 112)], #[27]⟩, false, false, []⟩,
    ⟨.yes, (some 114), .pick (.tmp 110) (.tmp 113) (.const (.bool false)), false, false, []⟩,
    ⟨.yes, (some 2), .assign (.tmp 114), true, false, []⟩] [2]) <|
  .ret

theorem c_stat_eq : ∃ c, Tryd.f47.body = some c ∧ codeOK Tryd.f47.ntmps c = true ∧ comp Tryd.prog (ann 47) c = erase c_stat := ⟨_, rfl, by kernel_rfl, by kernel_rfl⟩

theorem tree_stat (N : Nat) (k sl sz po pv ps pz vo vv vs vz : Int) (nm pn vn : List UInt8) (pa va bd es : List DV) : fnT (Xst N) c_stat Tryd.f47.results.toList [.agg [.d (.int .i64 k), .d (.str nm), .d (.int .i64 sl), .d (.int .i64 sz), .d (.int .i64 po), .d (.int .i64 pv), .d (.str pn), .d (.int .i64 ps), .d (.int .i64 pz), .d (.sl 6 pa), .d (.int .i64 vo), .d (.int .i64 vv), .d (.str vn), .d (.int .i64 vs), .d (.int .i64 vz), .d (.sl 6 va), .d (.sl 18 bd), .d (.sl 18 es)]] [] = (
    .br (decide (k = 1))
 (.br (decide (k = 2))
 (.br (decide (k < 1))
 (.leaf (.d (.bool false), []))
 (.br (decide ((6 : Int) < k))
 (.leaf (.d (.bool false), []))
 (.br (!decide (sl = 0))
 (.leaf (.d (.bool false), []))
 (.br (!decide (sz = 0))
 (.leaf (.d (.bool false), []))
 (.br (decide ((nm.length : Int) ≤ big))
 (.br (!(validB nm))
 (.leaf (.d (.bool false), []))
 (.br (fitX 9 ⟨po, pv, pn, ps, pz, pa⟩)
 (.br (!(goodX 9 ⟨po, pv, pn, ps, pz, pa⟩))
 (.leaf (.d (.bool false), []))
 (.br (fitX 9 ⟨vo, vv, vn, vs, vz, va⟩)
 (.br (!(goodX 9 ⟨vo, vv, vn, vs, vz, va⟩))
 (.leaf (.d (.bool false), []))
 (.br (!decide (k = 3))
 (.br (decide ((0 : Int) < (es.length : Int)))
 (.leaf (.d (.bool false), []))
 (.br (!decide (k = 3))
 (.br (!decide (k = 4))
 (.br (decide ((0 : Int) < (bd.length : Int)))
 (.leaf (.d (.bool false), []))
 (.br (fitS N bd)
 (.br (goodL N bd)
 (.br (fitS N es)
 (.leaf (.d (.bool (goodL N es)), []))
 (.fail))
 (.leaf (.d (.bool false), [])))
 (.fail)))
 (.br (fitS N bd)
 (.br (goodL N bd)
 (.br (fitS N es)
 (.leaf (.d (.bool (goodL N es)), []))
 (.fail))
 (.leaf (.d (.bool false), [])))
 (.fail)))
 (.br (fitS N bd)
 (.br (goodL N bd)
 (.br (fitS N es)
 (.leaf (.d (.bool (goodL N es)), []))
 (.fail))
 (.leaf (.d (.bool false), [])))
 (.fail))))
 (.br (!decide (k = 3))
 (.br (!decide (k = 4))
 (.br (decide ((0 : Int) < (bd.length : Int)))
 (.leaf (.d (.bool false), []))
 (.br (fitS N bd)
 (.br (goodL N bd)
 (.br (fitS N es)
 (.leaf (.d (.bool (goodL N es)), []))
 (.fail))
 (.leaf (.d (.bool false), [])))
 (.fail)))
 (.br (fitS N bd)
 (.br (goodL N bd)
 (.br (fitS N es)
 (.leaf (.d (.bool (goodL N es)), []))
 (.fail))
 (.leaf (.d (.bool false), [])))
 (.fail)))
 (.br (fitS N bd)
 (.br (goodL N bd)
 (.br (fitS N es)
 (.leaf (.d (.bool (goodL N es)), []))
 (.fail))
 (.leaf (.d (.bool false), [])))
 (.fail)))))
 (.fail)))
 (.fail)))
 (.fail))))))
 (.br (decide (k < 1))
 (.leaf (.d (.bool false), []))
 (.br (decide ((6 : Int) < k))
 (.leaf (.d (.bool false), []))
 (.br (!decide (sl = 0))
 (.leaf (.d (.bool false), []))
 (.br (!decide (sz = 0))
 (.leaf (.d (.bool false), []))
 (.br (decide ((nm.length : Int) ≤ big))
 (.br (!(validB nm))
 (.leaf (.d (.bool false), []))
 (.br (decide (k = 5))
 (.br (fitX 9 ⟨po, pv, pn, ps, pz, pa⟩)
 (.br (!(goodX 9 ⟨po, pv, pn, ps, pz, pa⟩))
 (.leaf (.d (.bool false), []))
 (.br (!(decide (k = 5)))
 (.br (!(zeroX ⟨po, pv, pn, ps, pz, pa⟩))
 (.leaf (.d (.bool false), []))
 (.br (fitX 9 ⟨vo, vv, vn, vs, vz, va⟩)
 (.br (!(goodX 9 ⟨vo, vv, vn, vs, vz, va⟩))
 (.leaf (.d (.bool false), []))
 (.br (!decide (k = 3))
 (.br (decide ((0 : Int) < (es.length : Int)))
 (.leaf (.d (.bool false), []))
 (.br (!decide (k = 3))
 (.br (!decide (k = 4))
 (.br (decide ((0 : Int) < (bd.length : Int)))
 (.leaf (.d (.bool false), []))
 (.br (fitS N bd)
 (.br (goodL N bd)
 (.br (fitS N es)
 (.leaf (.d (.bool (goodL N es)), []))
 (.fail))
 (.leaf (.d (.bool false), [])))
 (.fail)))
 (.br (fitS N bd)
 (.br (goodL N bd)
 (.br (fitS N es)
 (.leaf (.d (.bool (goodL N es)), []))
 (.fail))
 (.leaf (.d (.bool false), [])))
 (.fail)))
 (.br (fitS N bd)
 (.br (goodL N bd)
 (.br (fitS N es)
 (.leaf (.d (.bool (goodL N es)), []))
 (.fail))
 (.leaf (.d (.bool false), [])))
 (.fail))))
 (.br (!decide (k = 3))
 (.br (!decide (k = 4))
 (.br (decide ((0 : Int) < (bd.length : Int)))
 (.leaf (.d (.bool false), []))
 (.br (fitS N bd)
 (.br (goodL N bd)
 (.br (fitS N es)
 (.leaf (.d (.bool (goodL N es)), []))
 (.fail))
 (.leaf (.d (.bool false), [])))
 (.fail)))
 (.br (fitS N bd)
 (.br (goodL N bd)
 (.br (fitS N es)
 (.leaf (.d (.bool (goodL N es)), []))
 (.fail))
 (.leaf (.d (.bool false), [])))
 (.fail)))
 (.br (fitS N bd)
 (.br (goodL N bd)
 (.br (fitS N es)
 (.leaf (.d (.bool (goodL N es)), []))
 (.fail))
 (.leaf (.d (.bool false), [])))
 (.fail)))))
 (.fail)))
 (.br (fitX 9 ⟨vo, vv, vn, vs, vz, va⟩)
 (.br (!(goodX 9 ⟨vo, vv, vn, vs, vz, va⟩))
 (.leaf (.d (.bool false), []))
 (.br (!decide (k = 3))
 (.br (decide ((0 : Int) < (es.length : Int)))
 (.leaf (.d (.bool false), []))
 (.br (!decide (k = 3))
 (.br (!decide (k = 4))
 (.br (decide ((0 : Int) < (bd.length : Int)))
 (.leaf (.d (.bool false), []))
 (.br (fitS N bd)
 (.br (goodL N bd)
 (.br (fitS N es)
 (.leaf (.d (.bool (goodL N es)), []))
 (.fail))
 (.leaf (.d (.bool false), [])))
 (.fail)))
 (.br (fitS N bd)
 (.br (goodL N bd)
 (.br (fitS N es)
 (.leaf (.d (.bool (goodL N es)), []))
 (.fail))
 (.leaf (.d (.bool false), [])))
 (.fail)))
 (.br (fitS N bd)
 (.br (goodL N bd)
 (.br (fitS N es)
 (.leaf (.d (.bool (goodL N es)), []))
 (.fail))
 (.leaf (.d (.bool false), [])))
 (.fail))))
 (.br (!decide (k = 3))
 (.br (!decide (k = 4))
 (.br (decide ((0 : Int) < (bd.length : Int)))
 (.leaf (.d (.bool false), []))
 (.br (fitS N bd)
 (.br (goodL N bd)
 (.br (fitS N es)
 (.leaf (.d (.bool (goodL N es)), []))
 (.fail))
 (.leaf (.d (.bool false), [])))
 (.fail)))
 (.br (fitS N bd)
 (.br (goodL N bd)
 (.br (fitS N es)
 (.leaf (.d (.bool (goodL N es)), []))
 (.fail))
 (.leaf (.d (.bool false), [])))
 (.fail)))
 (.br (fitS N bd)
 (.br (goodL N bd)
 (.br (fitS N es)
 (.leaf (.d (.bool (goodL N es)), []))
 (.fail))
 (.leaf (.d (.bool false), [])))
 (.fail)))))
 (.fail))))
 (.fail))
 (.br (!(decide (k = 5)))
 (.br (!(zeroX ⟨po, pv, pn, ps, pz, pa⟩))
 (.leaf (.d (.bool false), []))
 (.br (fitX 9 ⟨vo, vv, vn, vs, vz, va⟩)
 (.br (!(goodX 9 ⟨vo, vv, vn, vs, vz, va⟩))
 (.leaf (.d (.bool false), []))
 (.br (!decide (k = 3))
 (.br (decide ((0 : Int) < (es.length : Int)))
 (.leaf (.d (.bool false), []))
 (.br (!decide (k = 3))
 (.br (!decide (k = 4))
 (.br (decide ((0 : Int) < (bd.length : Int)))
 (.leaf (.d (.bool false), []))
 (.br (fitS N bd)
 (.br (goodL N bd)
 (.br (fitS N es)
 (.leaf (.d (.bool (goodL N es)), []))
 (.fail))
 (.leaf (.d (.bool false), [])))
 (.fail)))
 (.br (fitS N bd)
 (.br (goodL N bd)
 (.br (fitS N es)
 (.leaf (.d (.bool (goodL N es)), []))
 (.fail))
 (.leaf (.d (.bool false), [])))
 (.fail)))
 (.br (fitS N bd)
 (.br (goodL N bd)
 (.br (fitS N es)
 (.leaf (.d (.bool (goodL N es)), []))
 (.fail))
 (.leaf (.d (.bool false), [])))
 (.fail))))
 (.br (!decide (k = 3))
 (.br (!decide (k = 4))
 (.br (decide ((0 : Int) < (bd.length : Int)))
 (.leaf (.d (.bool false), []))
 (.br (fitS N bd)
 (.br (goodL N bd)
 (.br (fitS N es)
 (.leaf (.d (.bool (goodL N es)), []))
 (.fail))
 (.leaf (.d (.bool false), [])))
 (.fail)))
 (.br (fitS N bd)
 (.br (goodL N bd)
 (.br (fitS N es)
 (.leaf (.d (.bool (goodL N es)), []))
 (.fail))
 (.leaf (.d (.bool false), [])))
 (.fail)))
 (.br (fitS N bd)
 (.br (goodL N bd)
 (.br (fitS N es)
 (.leaf (.d (.bool (goodL N es)), []))
 (.fail))
 (.leaf (.d (.bool false), [])))
 (.fail)))))
 (.fail)))
 (.br (fitX 9 ⟨vo, vv, vn, vs, vz, va⟩)
 (.br (!(goodX 9 ⟨vo, vv, vn, vs, vz, va⟩))
 (.leaf (.d (.bool false), []))
 (.br (!decide (k = 3))
 (.br (decide ((0 : Int) < (es.length : Int)))
 (.leaf (.d (.bool false), []))
 (.br (!decide (k = 3))
 (.br (!decide (k = 4))
 (.br (decide ((0 : Int) < (bd.length : Int)))
 (.leaf (.d (.bool false), []))
 (.br (fitS N bd)
 (.br (goodL N bd)
 (.br (fitS N es)
 (.leaf (.d (.bool (goodL N es)), []))
 (.fail))
 (.leaf (.d (.bool false), [])))
 (.fail)))
 (.br (fitS N bd)
 (.br (goodL N bd)
 (.br (fitS N es)
 (.leaf (.d (.bool (goodL N es)), []))
 (.fail))
 (.leaf (.d (.bool false), [])))
 (.fail)))
 (.br (fitS N bd)
 (.br (goodL N bd)
 (.br (fitS N es)
 (.leaf (.d (.bool (goodL N es)), []))
 (.fail))
 (.leaf (.d (.bool false), [])))
 (.fail))))
 (.br (!decide (k = 3))
 (.br (!decide (k = 4))
 (.br (decide ((0 : Int) < (bd.length : Int)))
 (.leaf (.d (.bool false), []))
 (.br (fitS N bd)
 (.br (goodL N bd)
 (.br (fitS N es)
 (.leaf (.d (.bool (goodL N es)), []))
 (.fail))
 (.leaf (.d (.bool false), [])))
 (.fail)))
 (.br (fitS N bd)
 (.br (goodL N bd)
 (.br (fitS N es)
 (.leaf (.d (.bool (goodL N es)), []))
 (.fail))
 (.leaf (.d (.bool false), [])))
 (.fail)))
 (.br (fitS N bd)
 (.br (goodL N bd)
 (.br (fitS N es)
 (.leaf (.d (.bool (goodL N es)), []))
 (.fail))
 (.leaf (.d (.bool false), [])))
 (.fail)))))
 (.fail)))))
 (.fail)))))))
 (.br (decide (k = 2))
 (.br (decide (k < 1))
 (.leaf (.d (.bool false), []))
 (.br (decide ((6 : Int) < k))
 (.leaf (.d (.bool false), []))
 (.br (!decide (sl = 0))
 (.leaf (.d (.bool false), []))
 (.br (!decide (sz = 0))
 (.leaf (.d (.bool false), []))
 (.br (decide (k = 2))
 (.br (decide ((nm.length : Int) ≤ big))
 (.br (!(validB nm))
 (.leaf (.d (.bool false), []))
 (.br (!(decide (k = 2)))
 (.br (!decide (nm = []))
 (.leaf (.d (.bool false), []))
 (.br (fitX 9 ⟨po, pv, pn, ps, pz, pa⟩)
 (.br (!(goodX 9 ⟨po, pv, pn, ps, pz, pa⟩))
 (.leaf (.d (.bool false), []))
 (.br (fitX 9 ⟨vo, vv, vn, vs, vz, va⟩)
 (.br (!(goodX 9 ⟨vo, vv, vn, vs, vz, va⟩))
 (.leaf (.d (.bool false), []))
 (.br (!decide (k = 3))
 (.br (decide ((0 : Int) < (es.length : Int)))
 (.leaf (.d (.bool false), []))
 (.br (!decide (k = 3))
 (.br (!decide (k = 4))
 (.br (decide ((0 : Int) < (bd.length : Int)))
 (.leaf (.d (.bool false), []))
 (.br (fitS N bd)
 (.br (goodL N bd)
 (.br (fitS N es)
 (.leaf (.d (.bool (goodL N es)), []))
 (.fail))
 (.leaf (.d (.bool false), [])))
 (.fail)))
 (.br (fitS N bd)
 (.br (goodL N bd)
 (.br (fitS N es)
 (.leaf (.d (.bool (goodL N es)), []))
 (.fail))
 (.leaf (.d (.bool false), [])))
 (.fail)))
 (.br (fitS N bd)
 (.br (goodL N bd)
 (.br (fitS N es)
 (.leaf (.d (.bool (goodL N es)), []))
 (.fail))
 (.leaf (.d (.bool false), [])))
 (.fail))))
 (.br (!decide (k = 3))
 (.br (!decide (k = 4))
 (.br (decide ((0 : Int) < (bd.length : Int)))
 (.leaf (.d (.bool false), []))
 (.br (fitS N bd)
 (.br (goodL N bd)
 (.br (fitS N es)
 (.leaf (.d (.bool (goodL N es)), []))
 (.fail))
 (.leaf (.d (.bool false), [])))
 (.fail)))
 (.br (fitS N bd)
 (.br (goodL N bd)
 (.br (fitS N es)
 (.leaf (.d (.bool (goodL N es)), []))
 (.fail))
 (.leaf (.d (.bool false), [])))
 (.fail)))
 (.br (fitS N bd)
 (.br (goodL N bd)
 (.br (fitS N es)
 (.leaf (.d (.bool (goodL N es)), []))
 (.fail))
 (.leaf (.d (.bool false), [])))
 (.fail)))))
 (.fail)))
 (.fail)))
 (.br (fitX 9 ⟨po, pv, pn, ps, pz, pa⟩)
 (.br (!(goodX 9 ⟨po, pv, pn, ps, pz, pa⟩))
 (.leaf (.d (.bool false), []))
 (.br (fitX 9 ⟨vo, vv, vn, vs, vz, va⟩)
 (.br (!(goodX 9 ⟨vo, vv, vn, vs, vz, va⟩))
 (.leaf (.d (.bool false), []))
 (.br (!decide (k = 3))
 (.br (decide ((0 : Int) < (es.length : Int)))
 (.leaf (.d (.bool false), []))
 (.br (!decide (k = 3))
 (.br (!decide (k = 4))
 (.br (decide ((0 : Int) < (bd.length : Int)))
 (.leaf (.d (.bool false), []))
 (.br (fitS N bd)
 (.br (goodL N bd)
 (.br (fitS N es)
 (.leaf (.d (.bool (goodL N es)), []))
 (.fail))
 (.leaf (.d (.bool false), [])))
 (.fail)))
 (.br (fitS N bd)
 (.br (goodL N bd)
 (.br (fitS N es)
 (.leaf (.d (.bool (goodL N es)), []))
 (.fail))
 (.leaf (.d (.bool false), [])))
 (.fail)))
 (.br (fitS N bd)
 (.br (goodL N bd)
 (.br (fitS N es)
 (.leaf (.d (.bool (goodL N es)), []))
 (.fail))
 (.leaf (.d (.bool false), [])))
 (.fail))))
 (.br (!decide (k = 3))
 (.br (!decide (k = 4))
 (.br (decide ((0 : Int) < (bd.length : Int)))
 (.leaf (.d (.bool false), []))
 (.br (fitS N bd)
 (.br (goodL N bd)
 (.br (fitS N es)
 (.leaf (.d (.bool (goodL N es)), []))
 (.fail))
 (.leaf (.d (.bool false), [])))
 (.fail)))
 (.br (fitS N bd)
 (.br (goodL N bd)
 (.br (fitS N es)
 (.leaf (.d (.bool (goodL N es)), []))
 (.fail))
 (.leaf (.d (.bool false), [])))
 (.fail)))
 (.br (fitS N bd)
 (.br (goodL N bd)
 (.br (fitS N es)
 (.leaf (.d (.bool (goodL N es)), []))
 (.fail))
 (.leaf (.d (.bool false), [])))
 (.fail)))))
 (.fail)))
 (.fail))))
 (.fail))
 (.br (!(decide (k = 2)))
 (.br (!decide (nm = []))
 (.leaf (.d (.bool false), []))
 (.br (fitX 9 ⟨po, pv, pn, ps, pz, pa⟩)
 (.br (!(goodX 9 ⟨po, pv, pn, ps, pz, pa⟩))
 (.leaf (.d (.bool false), []))
 (.br (fitX 9 ⟨vo, vv, vn, vs, vz, va⟩)
 (.br (!(goodX 9 ⟨vo, vv, vn, vs, vz, va⟩))
 (.leaf (.d (.bool false), []))
 (.br (!decide (k = 3))
 (.br (decide ((0 : Int) < (es.length : Int)))
 (.leaf (.d (.bool false), []))
 (.br (!decide (k = 3))
 (.br (!decide (k = 4))
 (.br (decide ((0 : Int) < (bd.length : Int)))
 (.leaf (.d (.bool false), []))
 (.br (fitS N bd)
 (.br (goodL N bd)
 (.br (fitS N es)
 (.leaf (.d (.bool (goodL N es)), []))
 (.fail))
 (.leaf (.d (.bool false), [])))
 (.fail)))
 (.br (fitS N bd)
 (.br (goodL N bd)
 (.br (fitS N es)
 (.leaf (.d (.bool (goodL N es)), []))
 (.fail))
 (.leaf (.d (.bool false), [])))
 (.fail)))
 (.br (fitS N bd)
 (.br (goodL N bd)
 (.br (fitS N es)
 (.leaf (.d (.bool (goodL N es)), []))
 (.fail))
 (.leaf (.d (.bool false), [])))
 (.fail))))
 (.br (!decide (k = 3))
 (.br (!decide (k = 4))
 (.br (decide ((0 : Int) < (bd.length : Int)))
 (.leaf (.d (.bool false), []))
 (.br (fitS N bd)
 (.br (goodL N bd)
 (.br (fitS N es)
 (.leaf (.d (.bool (goodL N es)), []))
 (.fail))
 (.leaf (.d (.bool false), [])))
 (.fail)))
 (.br (fitS N bd)
 (.br (goodL N bd)
 (.br (fitS N es)
 (.leaf (.d (.bool (goodL N es)), []))
 (.fail))
 (.leaf (.d (.bool false), [])))
 (.fail)))
 (.br (fitS N bd)
 (.br (goodL N bd)
 (.br (fitS N es)
 (.leaf (.d (.bool (goodL N es)), []))
 (.fail))
 (.leaf (.d (.bool false), [])))
 (.fail)))))
 (.fail)))
 (.fail)))
 (.br (fitX 9 ⟨po, pv, pn, ps, pz, pa⟩)
 (.br (!(goodX 9 ⟨po, pv, pn, ps, pz, pa⟩))
 (.leaf (.d (.bool false), []))
 (.br (fitX 9 ⟨vo, vv, vn, vs, vz, va⟩)
 (.br (!(goodX 9 ⟨vo, vv, vn, vs, vz, va⟩))
 (.leaf (.d (.bool false), []))
 (.br (!decide (k = 3))
 (.br (decide ((0 : Int) < (es.length : Int)))
 (.leaf (.d (.bool false), []))
 (.br (!decide (k = 3))
 (.br (!decide (k = 4))
 (.br (decide ((0 : Int) < (bd.length : Int)))
 (.leaf (.d (.bool false), []))
 (.br (fitS N bd)
 (.br (goodL N bd)
 (.br (fitS N es)
 (.leaf (.d (.bool (goodL N es)), []))
 (.fail))
 (.leaf (.d (.bool false), [])))
 (.fail)))
 (.br (fitS N bd)
 (.br (goodL N bd)
 (.br (fitS N es)
 (.leaf (.d (.bool (goodL N es)), []))
 (.fail))
 (.leaf (.d (.bool false), [])))
 (.fail)))
 (.br (fitS N bd)
 (.br (goodL N bd)
 (.br (fitS N es)
 (.leaf (.d (.bool (goodL N es)), []))
 (.fail))
 (.leaf (.d (.bool false), [])))
 (.fail))))
 (.br (!decide (k = 3))
 (.br (!decide (k = 4))
 (.br (decide ((0 : Int) < (bd.length : Int)))
 (.leaf (.d (.bool false), []))
 (.br (fitS N bd)
 (.br (goodL N bd)
 (.br (fitS N es)
 (.leaf (.d (.bool (goodL N es)), []))
 (.fail))
 (.leaf (.d (.bool false), [])))
 (.fail)))
 (.br (fitS N bd)
 (.br (goodL N bd)
 (.br (fitS N es)
 (.leaf (.d (.bool (goodL N es)), []))
 (.fail))
 (.leaf (.d (.bool false), [])))
 (.fail)))
 (.br (fitS N bd)
 (.br (goodL N bd)
 (.br (fitS N es)
 (.leaf (.d (.bool (goodL N es)), []))
 (.fail))
 (.leaf (.d (.bool false), [])))
 (.fail)))))
 (.fail)))
 (.fail))))))))
 (.br (decide (k < 1))
 (.leaf (.d (.bool false), []))
 (.br (decide ((6 : Int) < k))
 (.leaf (.d (.bool false), []))
 (.br (!decide (sl = 0))
 (.leaf (.d (.bool false), []))
 (.br (!decide (sz = 0))
 (.leaf (.d (.bool false), []))
 (.br (decide (k = 2))
 (.br (decide ((nm.length : Int) ≤ big))
 (.br (!(validB nm))
 (.leaf (.d (.bool false), []))
 (.br (!(decide (k = 2)))
 (.br (!decide (nm = []))
 (.leaf (.d (.bool false), []))
 (.br (decide (k = 5))
 (.br (fitX 9 ⟨po, pv, pn, ps, pz, pa⟩)
 (.br (!(goodX 9 ⟨po, pv, pn, ps, pz, pa⟩))
 (.leaf (.d (.bool false), []))
 (.br (!(decide (k = 5)))
 (.br (!(zeroX ⟨po, pv, pn, ps, pz, pa⟩))
 (.leaf (.d (.bool false), []))
 (.br (fitX 9 ⟨vo, vv, vn, vs, vz, va⟩)
 (.br (!(goodX 9 ⟨vo, vv, vn, vs, vz, va⟩))
 (.leaf (.d (.bool false), []))
 (.br (!decide (k = 3))
 (.br (decide ((0 : Int) < (es.length : Int)))
 (.leaf (.d (.bool false), []))
 (.br (!decide (k = 3))
 (.br (!decide (k = 4))
 (.br (decide ((0 : Int) < (bd.length : Int)))
 (.leaf (.d (.bool false), []))
 (.br (fitS N bd)
 (.br (goodL N bd)
 (.br (fitS N es)
 (.leaf (.d (.bool (goodL N es)), []))
 (.fail))
 (.leaf (.d (.bool false), [])))
 (.fail)))
 (.br (fitS N bd)
 (.br (goodL N bd)
 (.br (fitS N es)
 (.leaf (.d (.bool (goodL N es)), []))
 (.fail))
 (.leaf (.d (.bool false), [])))
 (.fail)))
 (.br (fitS N bd)
 (.br (goodL N bd)
 (.br (fitS N es)
 (.leaf (.d (.bool (goodL N es)), []))
 (.fail))
 (.leaf (.d (.bool false), [])))
 (.fail))))
 (.br (!decide (k = 3))
 (.br (!decide (k = 4))
 (.br (decide ((0 : Int) < (bd.length : Int)))
 (.leaf (.d (.bool false), []))
 (.br (fitS N bd)
 (.br (goodL N bd)
 (.br (fitS N es)
 (.leaf (.d (.bool (goodL N es)), []))
 (.fail))
 (.leaf (.d (.bool false), [])))
 (.fail)))
 (.br (fitS N bd)
 (.br (goodL N bd)
 (.br (fitS N es)
 (.leaf (.d (.bool (goodL N es)), []))
 (.fail))
 (.leaf (.d (.bool false), [])))
 (.fail)))
 (.br (fitS N bd)
 (.br (goodL N bd)
 (.br (fitS N es)
 (.leaf (.d (.bool (goodL N es)), []))
 (.fail))
 (.leaf (.d (.bool false), [])))
 (.fail)))))
 (.fail)))
 (.br (fitX 9 ⟨vo, vv, vn, vs, vz, va⟩)
 (.br (!(goodX 9 ⟨vo, vv, vn, vs, vz, va⟩))
 (.leaf (.d (.bool false), []))
 (.br (!decide (k = 3))
 (.br (decide ((0 : Int) < (es.length : Int)))
 (.leaf (.d (.bool false), []))
 (.br (!decide (k = 3))
 (.br (!decide (k = 4))
 (.br (decide ((0 : Int) < (bd.length : Int)))
 (.leaf (.d (.bool false), []))
 (.br (fitS N bd)
 (.br (goodL N bd)
 (.br (fitS N es)
 (.leaf (.d (.bool (goodL N es)), []))
 (.fail))
 (.leaf (.d (.bool false), [])))
 (.fail)))
 (.br (fitS N bd)
 (.br (goodL N bd)
 (.br (fitS N es)
 (.leaf (.d (.bool (goodL N es)), []))
 (.fail))
 (.leaf (.d (.bool false), [])))
 (.fail)))
 (.br (fitS N bd)
 (.br (goodL N bd)
 (.br (fitS N es)
 (.leaf (.d (.bool (goodL N es)), []))
 (.fail))
 (.leaf (.d (.bool false), [])))
 (.fail))))
 (.br (!decide (k = 3))
 (.br (!decide (k = 4))
 (.br (decide ((0 : Int) < (bd.length : Int)))
 (.leaf (.d (.bool false), []))
 (.br (fitS N bd)
 (.br (goodL N bd)
 (.br (fitS N es)
 (.leaf (.d (.bool (goodL N es)), []))
 (.fail))
 (.leaf (.d (.bool false), [])))
 (.fail)))
 (.br (fitS N bd)
 (.br (goodL N bd)
 (.br (fitS N es)
 (.leaf (.d (.bool (goodL N es)), []))
 (.fail))
 (.leaf (.d (.bool false), [])))
 (.fail)))
 (.br (fitS N bd)
 (.br (goodL N bd)
 (.br (fitS N es)
 (.leaf (.d (.bool (goodL N es)), []))
 (.fail))
 (.leaf (.d (.bool false), [])))
 (.fail)))))
 (.fail))))
 (.fail))
 (.br (!(decide (k = 5)))
 (.br (!(zeroX ⟨po, pv, pn, ps, pz, pa⟩))
 (.leaf (.d (.bool false), []))
 (.br (fitX 9 ⟨vo, vv, vn, vs, vz, va⟩)
 (.br (!(goodX 9 ⟨vo, vv, vn, vs, vz, va⟩))
 (.leaf (.d (.bool false), []))
 (.br (!decide (k = 3))
 (.br (decide ((0 : Int) < (es.length : Int)))
 (.leaf (.d (.bool false), []))
 (.br (!decide (k = 3))
 (.br (!decide (k = 4))
 (.br (decide ((0 : Int) < (bd.length : Int)))
 (.leaf (.d (.bool false), []))
 (.br (fitS N bd)
 (.br (goodL N bd)
 (.br (fitS N es)
 (.leaf (.d (.bool (goodL N es)), []))
 (.fail))
 (.leaf (.d (.bool false), [])))
 (.fail)))
 (.br (fitS N bd)
 (.br (goodL N bd)
 (.br (fitS N es)
 (.leaf (.d (.bool (goodL N es)), []))
 (.fail))
 (.leaf (.d (.bool false), [])))
 (.fail)))
 (.br (fitS N bd)
 (.br (goodL N bd)
 (.br (fitS N es)
 (.leaf (.d (.bool (goodL N es)), []))
 (.fail))
 (.leaf (.d (.bool false), [])))
 (.fail))))
 (.br (!decide (k = 3))
 (.br (!decide (k = 4))
 (.br (decide ((0 : Int) < (bd.length : Int)))
 (.leaf (.d (.bool false), []))
 (.br (fitS N bd)
 (.br (goodL N bd)
 (.br (fitS N es)
 (.leaf (.d (.bool (goodL N es)), []))
 (.fail))
 (.leaf (.d (.bool false), [])))
 (.fail)))
 (.br (fitS N bd)
 (.br (goodL N bd)
 (.br (fitS N es)
 (.leaf (.d (.bool (goodL N es)), []))
 (.fail))
 (.leaf (.d (.bool false), [])))
 (.fail)))
 (.br (fitS N bd)
 (.br (goodL N bd)
 (.br (fitS N es)
 (.leaf (.d (.bool (goodL N es)), []))
 (.fail))
 (.leaf (.d (.bool false), [])))
 (.fail)))))
 (.fail)))
 (.br (fitX 9 ⟨vo, vv, vn, vs, vz, va⟩)
 (.br (!(goodX 9 ⟨vo, vv, vn, vs, vz, va⟩))
 (.leaf (.d (.bool false), []))
 (.br (!decide (k = 3))
 (.br (decide ((0 : Int) < (es.length : Int)))
 (.leaf (.d (.bool false), []))
 (.br (!decide (k = 3))
 (.br (!decide (k = 4))
 (.br (decide ((0 : Int) < (bd.length : Int)))
 (.leaf (.d (.bool false), []))
 (.br (fitS N bd)
 (.br (goodL N bd)
 (.br (fitS N es)
 (.leaf (.d (.bool (goodL N es)), []))
 (.fail))
 (.leaf (.d (.bool false), [])))
 (.fail)))
 (.br (fitS N bd)
 (.br (goodL N bd)
 (.br (fitS N es)
 (.leaf (.d (.bool (goodL N es)), []))
 (.fail))
 (.leaf (.d (.bool false), [])))
 (.fail)))
 (.br (fitS N bd)
 (.br (goodL N bd)
 (.br (fitS N es)
 (.leaf (.d (.bool (goodL N es)), []))
 (.fail))
 (.leaf (.d (.bool false), [])))
 (.fail))))
 (.br (!decide (k = 3))
 (.br (!decide (k = 4))
 (.br (decide ((0 : Int) < (bd.length : Int)))
 (.leaf (.d (.bool false), []))
 (.br (fitS N bd)
 (.br (goodL N bd)
 (.br (fitS N es)
 (.leaf (.d (.bool (goodL N es)), []))
 (.fail))
 (.leaf (.d (.bool false), [])))
 (.fail)))
 (.br (fitS N bd)
 (.br (goodL N bd)
 (.br (fitS N es)
 (.leaf (.d (.bool (goodL N es)), []))
 (.fail))
 (.leaf (.d (.bool false), [])))
 (.fail)))
 (.br (fitS N bd)
 (.br (goodL N bd)
 (.br (fitS N es)
 (.leaf (.d (.bool (goodL N es)), []))
 (.fail))
 (.leaf (.d (.bool false), [])))
 (.fail)))))
 (.fail)))))
 (.br (decide (k = 5))
 (.br (fitX 9 ⟨po, pv, pn, ps, pz, pa⟩)
 (.br (!(goodX 9 ⟨po, pv, pn, ps, pz, pa⟩))
 (.leaf (.d (.bool false), []))
 (.br (!(decide (k = 5)))
 (.br (!(zeroX ⟨po, pv, pn, ps, pz, pa⟩))
 (.leaf (.d (.bool false), []))
 (.br (fitX 9 ⟨vo, vv, vn, vs, vz, va⟩)
 (.br (!(goodX 9 ⟨vo, vv, vn, vs, vz, va⟩))
 (.leaf (.d (.bool false), []))
 (.br (!decide (k = 3))
 (.br (decide ((0 : Int) < (es.length : Int)))
 (.leaf (.d (.bool false), []))
 (.br (!decide (k = 3))
 (.br (!decide (k = 4))
 (.br (decide ((0 : Int) < (bd.length : Int)))
 (.leaf (.d (.bool false), []))
 (.br (fitS N bd)
 (.br (goodL N bd)
 (.br (fitS N es)
 (.leaf (.d (.bool (goodL N es)), []))
 (.fail))
 (.leaf (.d (.bool false), [])))
 (.fail)))
 (.br (fitS N bd)
 (.br (goodL N bd)
 (.br (fitS N es)
 (.leaf (.d (.bool (goodL N es)), []))
 (.fail))
 (.leaf (.d (.bool false), [])))
 (.fail)))
 (.br (fitS N bd)
 (.br (goodL N bd)
 (.br (fitS N es)
 (.leaf (.d (.bool (goodL N es)), []))
 (.fail))
 (.leaf (.d (.bool false), [])))
 (.fail))))
 (.br (!decide (k = 3))
 (.br (!decide (k = 4))
 (.br (decide ((0 : Int) < (bd.length : Int)))
 (.leaf (.d (.bool false), []))
 (.br (fitS N bd)
 (.br (goodL N bd)
 (.br (fitS N es)
 (.leaf (.d (.bool (goodL N es)), []))
 (.fail))
 (.leaf (.d (.bool false), [])))
 (.fail)))
 (.br (fitS N bd)
 (.br (goodL N bd)
 (.br (fitS N es)
 (.leaf (.d (.bool (goodL N es)), []))
 (.fail))
 (.leaf (.d (.bool false), [])))
 (.fail)))
 (.br (fitS N bd)
 (.br (goodL N bd)
 (.br (fitS N es)
 (.leaf (.d (.bool (goodL N es)), []))
 (.fail))
 (.leaf (.d (.bool false), [])))
 (.fail)))))
 (.fail)))
 (.br (fitX 9 ⟨vo, vv, vn, vs, vz, va⟩)
 (.br (!(goodX 9 ⟨vo, vv, vn, vs, vz, va⟩))
 (.leaf (.d (.bool false), []))
 (.br (!decide (k = 3))
 (.br (decide ((0 : Int) < (es.length : Int)))
 (.leaf (.d (.bool false), []))
 (.br (!decide (k = 3))
 (.br (!decide (k = 4))
 (.br (decide ((0 : Int) < (bd.length : Int)))
 (.leaf (.d (.bool false), []))
 (.br (fitS N bd)
 (.br (goodL N bd)
 (.br (fitS N es)
 (.leaf (.d (.bool (goodL N es)), []))
 (.fail))
 (.leaf (.d (.bool false), [])))
 (.fail)))
 (.br (fitS N bd)
 (.br (goodL N bd)
 (.br (fitS N es)
 (.leaf (.d (.bool (goodL N es)), []))
 (.fail))
 (.leaf (.d (.bool false), [])))
 (.fail)))
 (.br (fitS N bd)
 (.br (goodL N bd)
 (.br (fitS N es)
 (.leaf (.d (.bool (goodL N es)), []))
 (.fail))
 (.leaf (.d (.bool false), [])))
 (.fail))))
 (.br (!decide (k = 3))
 (.br (!decide (k = 4))
 (.br (decide ((0 : Int) < (bd.length : Int)))
 (.leaf (.d (.bool false), []))
 (.br (fitS N bd)
 (.br (goodL N bd)
 (.br (fitS N es)
 (.leaf (.d (.bool (goodL N es)), []))
 (.fail))
 (.leaf (.d (.bool false), [])))
 (.fail)))
 (.br (fitS N bd)
 (.br (goodL N bd)
 (.br (fitS N es)
 (.leaf (.d (.bool (goodL N es)), []))
 (.fail))
 (.leaf (.d (.bool false), [])))
 (.fail)))
 (.br (fitS N bd)
 (.br (goodL N bd)
 (.br (fitS N es)
 (.leaf (.d (.bool (goodL N es)), []))
 (.fail))
 (.leaf (.d (.bool false), [])))
 (.fail)))))
 (.fail))))
 (.fail))
 (.br (!(decide (k = 5)))
 (.br (!(zeroX ⟨po, pv, pn, ps, pz, pa⟩))
 (.leaf (.d (.bool false), []))
 (.br (fitX 9 ⟨vo, vv, vn, vs, vz, va⟩)
 (.br (!(goodX 9 ⟨vo, vv, vn, vs, vz, va⟩))
 (.leaf (.d (.bool false), []))
 (.br (!decide (k = 3))
 (.br (decide ((0 : Int) < (es.length : Int)))
 (.leaf (.d (.bool false), []))
 (.br (!decide (k = 3))
 (.br (!decide (k = 4))
 (.br (decide ((0 : Int) < (bd.length : Int)))
 (.leaf (.d (.bool false), []))
 (.br (fitS N bd)
 (.br (goodL N bd)
 (.br (fitS N es)
 (.leaf (.d (.bool (goodL N es)), []))
 (.fail))
 (.leaf (.d (.bool false), [])))
 (.fail)))
 (.br (fitS N bd)
 (.br (goodL N bd)
 (.br (fitS N es)
 (.leaf (.d (.bool (goodL N es)), []))
 (.fail))
 (.leaf (.d (.bool false), [])))
 (.fail)))
 (.br (fitS N bd)
 (.br (goodL N bd)
 (.br (fitS N es)
 (.leaf (.d (.bool (goodL N es)), []))
 (.fail))
 (.leaf (.d (.bool false), [])))
 (.fail))))
 (.br (!decide (k = 3))
 (.br (!decide (k = 4))
 (.br (decide ((0 : Int) < (bd.length : Int)))
 (.leaf (.d (.bool false), []))
 (.br (fitS N bd)
 (.br (goodL N bd)
 (.br (fitS N es)
 (.leaf (.d (.bool (goodL N es)), []))
 (.fail))
 (.leaf (.d (.bool false), [])))
 (.fail)))
 (.br (fitS N bd)
 (.br (goodL N bd)
 (.br (fitS N es)
 (.leaf (.d (.bool (goodL N es)), []))
 (.fail))
 (.leaf (.d (.bool false), [])))
 (.fail)))
 (.br (fitS N bd)
 (.br (goodL N bd)
 (.br (fitS N es)
 (.leaf (.d (.bool (goodL N es)), []))
 (.fail))
 (.leaf (.d (.bool false), [])))
 (.fail)))))
 (.fail)))
 (.br (fitX 9 ⟨vo, vv, vn, vs, vz, va⟩)
 (.br (!(goodX 9 ⟨vo, vv, vn, vs, vz, va⟩))
 (.leaf (.d (.bool false), []))
 (.br (!decide (k = 3))
 (.br (decide ((0 : Int) < (es.length : Int)))
 (.leaf (.d (.bool false), []))
 (.br (!decide (k = 3))
 (.br (!decide (k = 4))
 (.br (decide ((0 : Int) < (bd.length : Int)))
 (.leaf (.d (.bool false), []))
 (.br (fitS N bd)
 (.br (goodL N bd)
 (.br (fitS N es)
 (.leaf (.d (.bool (goodL N es)), []))
 (.fail))
 (.leaf (.d (.bool false), [])))
 (.fail)))
 (.br (fitS N bd)
 (.br (goodL N bd)
 (.br (fitS N es)
 (.leaf (.d (.bool (goodL N es)), []))
 (.fail))
 (.leaf (.d (.bool false), [])))
 (.fail)))
 (.br (fitS N bd)
 (.br (goodL N bd)
 (.br (fitS N es)
 (.leaf (.d (.bool (goodL N es)), []))
 (.fail))
 (.leaf (.d (.bool false), [])))
 (.fail))))
 (.br (!decide (k = 3))
 (.br (!decide (k = 4))
 (.br (decide ((0 : Int) < (bd.length : Int)))
 (.leaf (.d (.bool false), []))
 (.br (fitS N bd)
 (.br (goodL N bd)
 (.br (fitS N es)
 (.leaf (.d (.bool (goodL N es)), []))
 (.fail))
 (.leaf (.d (.bool false), [])))
 (.fail)))
 (.br (fitS N bd)
 (.br (goodL N bd)
 (.br (fitS N es)
 (.leaf (.d (.bool (goodL N es)), []))
 (.fail))
 (.leaf (.d (.bool false), [])))
 (.fail)))
 (.br (fitS N bd)
 (.br (goodL N bd)
 (.br (fitS N es)
 (.leaf (.d (.bool (goodL N es)), []))
 (.fail))
 (.leaf (.d (.bool false), [])))
 (.fail)))))
 (.fail))))))
 (.fail))
 (.br (!(decide (k = 2)))
 (.br (!decide (nm = []))
 (.leaf (.d (.bool false), []))
 (.br (decide (k = 5))
 (.br (fitX 9 ⟨po, pv, pn, ps, pz, pa⟩)
 (.br (!(goodX 9 ⟨po, pv, pn, ps, pz, pa⟩))
 (.leaf (.d (.bool false), []))
 (.br (!(decide (k = 5)))
 (.br (!(zeroX ⟨po, pv, pn, ps, pz, pa⟩))
 (.leaf (.d (.bool false), []))
 (.br (fitX 9 ⟨vo, vv, vn, vs, vz, va⟩)
 (.br (!(goodX 9 ⟨vo, vv, vn, vs, vz, va⟩))
 (.leaf (.d (.bool false), []))
 (.br (!decide (k = 3))
 (.br (decide ((0 : Int) < (es.length : Int)))
 (.leaf (.d (.bool false), []))
 (.br (!decide (k = 3))
 (.br (!decide (k = 4))
 (.br (decide ((0 : Int) < (bd.length : Int)))
 (.leaf (.d (.bool false), []))
 (.br (fitS N bd)
 (.br (goodL N bd)
 (.br (fitS N es)
 (.leaf (.d (.bool (goodL N es)), []))
 (.fail))
 (.leaf (.d (.bool false), [])))
 (.fail)))
 (.br (fitS N bd)
 (.br (goodL N bd)
 (.br (fitS N es)
 (.leaf (.d (.bool (goodL N es)), []))
 (.fail))
 (.leaf (.d (.bool false), [])))
 (.fail)))
 (.br (fitS N bd)
 (.br (goodL N bd)
 (.br (fitS N es)
 (.leaf (.d (.bool (goodL N es)), []))
 (.fail))
 (.leaf (.d (.bool false), [])))
 (.fail))))
 (.br (!decide (k = 3))
 (.br (!decide (k = 4))
 (.br (decide ((0 : Int) < (bd.length : Int)))
 (.leaf (.d (.bool false), []))
 (.br (fitS N bd)
 (.br (goodL N bd)
 (.br (fitS N es)
 (.leaf (.d (.bool (goodL N es)), []))
 (.fail))
 (.leaf (.d (.bool false), [])))
 (.fail)))
 (.br (fitS N bd)
 (.br (goodL N bd)
 (.br (fitS N es)
 (.leaf (.d (.bool (goodL N es)), []))
 (.fail))
 (.leaf (.d (.bool false), [])))
 (.fail)))
 (.br (fitS N bd)
 (.br (goodL N bd)
 (.br (fitS N es)
 (.leaf (.d (.bool (goodL N es)), []))
 (.fail))
 (.leaf (.d (.bool false), [])))
 (.fail)))))
 (.fail)))
 (.br (fitX 9 ⟨vo, vv, vn, vs, vz, va⟩)
 (.br (!(goodX 9 ⟨vo, vv, vn, vs, vz, va⟩))
 (.leaf (.d (.bool false), []))
 (.br (!decide (k = 3))
 (.br (decide ((0 : Int) < (es.length : Int)))
 (.leaf (.d (.bool false), []))
 (.br (!decide (k = 3))
 (.br (!decide (k = 4))
 (.br (decide ((0 : Int) < (bd.length : Int)))
 (.leaf (.d (.bool false), []))
 (.br (fitS N bd)
 (.br (goodL N bd)
 (.br (fitS N es)
 (.leaf (.d (.bool (goodL N es)), []))
 (.fail))
 (.leaf (.d (.bool false), [])))
 (.fail)))
 (.br (fitS N bd)
 (.br (goodL N bd)
 (.br (fitS N es)
 (.leaf (.d (.bool (goodL N es)), []))
 (.fail))
 (.leaf (.d (.bool false), [])))
 (.fail)))
 (.br (fitS N bd)
 (.br (goodL N bd)
 (.br (fitS N es)
 (.leaf (.d (.bool (goodL N es)), []))
 (.fail))
 (.leaf (.d (.bool false), [])))
 (.fail))))
 (.br (!decide (k = 3))
 (.br (!decide (k = 4))
 (.br (decide ((0 : Int) < (bd.length : Int)))
 (.leaf (.d (.bool false), []))
 (.br (fitS N bd)
 (.br (goodL N bd)
 (.br (fitS N es)
 (.leaf (.d (.bool (goodL N es)), []))
 (.fail))
 (.leaf (.d (.bool false), [])))
 (.fail)))
 (.br (fitS N bd)
 (.br (goodL N bd)
 (.br (fitS N es)
 (.leaf (.d (.bool (goodL N es)), []))
 (.fail))
 (.leaf (.d (.bool false), [])))
 (.fail)))
 (.br (fitS N bd)
 (.br (goodL N bd)
 (.br (fitS N es)
 (.leaf (.d (.bool (goodL N es)), []))
 (.fail))
 (.leaf (.d (.bool false), [])))
 (.fail)))))
 (.fail))))
 (.fail))
 (.br (!(decide (k = 5)))
 (.br (!(zeroX ⟨po, pv, pn, ps, pz, pa⟩))
 (.leaf (.d (.bool false), []))
 (.br (fitX 9 ⟨vo, vv, vn, vs, vz, va⟩)
 (.br (!(goodX 9 ⟨vo, vv, vn, vs, vz, va⟩))
 (.leaf (.d (.bool false), []))
 (.br (!decide (k = 3))
 (.br (decide ((0 : Int) < (es.length : Int)))
 (.leaf (.d (.bool false), []))
 (.br (!decide (k = 3))
 (.br (!decide (k = 4))
 (.br (decide ((0 : Int) < (bd.length : Int)))
 (.leaf (.d (.bool false), []))
 (.br (fitS N bd)
 (.br (goodL N bd)
 (.br (fitS N es)
 (.leaf (.d (.bool (goodL N es)), []))
 (.fail))
 (.leaf (.d (.bool false), [])))
 (.fail)))
 (.br (fitS N bd)
 (.br (goodL N bd)
 (.br (fitS N es)
 (.leaf (.d (.bool (goodL N es)), []))
 (.fail))
 (.leaf (.d (.bool false), [])))
 (.fail)))
 (.br (fitS N bd)
 (.br (goodL N bd)
 (.br (fitS N es)
 (.leaf (.d (.bool (goodL N es)), []))
 (.fail))
 (.leaf (.d (.bool false), [])))
 (.fail))))
 (.br (!decide (k = 3))
 (.br (!decide (k = 4))
 (.br (decide ((0 : Int) < (bd.length : Int)))
 (.leaf (.d (.bool false), []))
 (.br (fitS N bd)
 (.br (goodL N bd)
 (.br (fitS N es)
 (.leaf (.d (.bool (goodL N es)), []))
 (.fail))
 (.leaf (.d (.bool false), [])))
 (.fail)))
 (.br (fitS N bd)
 (.br (goodL N bd)
 (.br (fitS N es)
 (.leaf (.d (.bool (goodL N es)), []))
 (.fail))
 (.leaf (.d (.bool false), [])))
 (.fail)))
 (.br (fitS N bd)
 (.br (goodL N bd)
 (.br (fitS N es)
 (.leaf (.d (.bool (goodL N es)), []))
 (.fail))
 (.leaf (.d (.bool false), [])))
 (.fail)))))
 (.fail)))
 (.br (fitX 9 ⟨vo, vv, vn, vs, vz, va⟩)
 (.br (!(goodX 9 ⟨vo, vv, vn, vs, vz, va⟩))
 (.leaf (.d (.bool false), []))
 (.br (!decide (k = 3))
 (.br (decide ((0 : Int) < (es.length : Int)))
 (.leaf (.d (.bool false), []))
 (.br (!decide (k = 3))
 (.br (!decide (k = 4))
 (.br (decide ((0 : Int) < (bd.length : Int)))
 (.leaf (.d (.bool false), []))
 (.br (fitS N bd)
 (.br (goodL N bd)
 (.br (fitS N es)
 (.leaf (.d (.bool (goodL N es)), []))
 (.fail))
 (.leaf (.d (.bool false), [])))
 (.fail)))
 (.br (fitS N bd)
 (.br (goodL N bd)
 (.br (fitS N es)
 (.leaf (.d (.bool (goodL N es)), []))
 (.fail))
 (.leaf (.d (.bool false), [])))
 (.fail)))
 (.br (fitS N bd)
 (.br (goodL N bd)
 (.br (fitS N es)
 (.leaf (.d (.bool (goodL N es)), []))
 (.fail))
 (.leaf (.d (.bool false), [])))
 (.fail))))
 (.br (!decide (k = 3))
 (.br (!decide (k = 4))
 (.br (decide ((0 : Int) < (bd.length : Int)))
 (.leaf (.d (.bool false), []))
 (.br (fitS N bd)
 (.br (goodL N bd)
 (.br (fitS N es)
 (.leaf (.d (.bool (goodL N es)), []))
 (.fail))
 (.leaf (.d (.bool false), [])))
 (.fail)))
 (.br (fitS N bd)
 (.br (goodL N bd)
 (.br (fitS N es)
 (.leaf (.d (.bool (goodL N es)), []))
 (.fail))
 (.leaf (.d (.bool false), [])))
 (.fail)))
 (.br (fitS N bd)
 (.br (goodL N bd)
 (.br (fitS N es)
 (.leaf (.d (.bool (goodL N es)), []))
 (.fail))
 (.leaf (.d (.bool false), [])))
 (.fail)))))
 (.fail)))))
 (.br (decide (k = 5))
 (.br (fitX 9 ⟨po, pv, pn, ps, pz, pa⟩)
 (.br (!(goodX 9 ⟨po, pv, pn, ps, pz, pa⟩))
 (.leaf (.d (.bool false), []))
 (.br (!(decide (k = 5)))
 (.br (!(zeroX ⟨po, pv, pn, ps, pz, pa⟩))
 (.leaf (.d (.bool false), []))
 (.br (fitX 9 ⟨vo, vv, vn, vs, vz, va⟩)
 (.br (!(goodX 9 ⟨vo, vv, vn, vs, vz, va⟩))
 (.leaf (.d (.bool false), []))
 (.br (!decide (k = 3))
 (.br (decide ((0 : Int) < (es.length : Int)))
 (.leaf (.d (.bool false), []))
 (.br (!decide (k = 3))
 (.br (!decide (k = 4))
 (.br (decide ((0 : Int) < (bd.length : Int)))
 (.leaf (.d (.bool false), []))
 (.br (fitS N bd)
 (.br (goodL N bd)
 (.br (fitS N es)
 (.leaf (.d (.bool (goodL N es)), []))
 (.fail))
 (.leaf (.d (.bool false), [])))
 (.fail)))
 (.br (fitS N bd)
 (.br (goodL N bd)
 (.br (fitS N es)
 (.leaf (.d (.bool (goodL N es)), []))
 (.fail))
 (.leaf (.d (.bool false), [])))
 (.fail)))
 (.br (fitS N bd)
 (.br (goodL N bd)
 (.br (fitS N es)
 (.leaf (.d (.bool (goodL N es)), []))
 (.fail))
 (.leaf (.d (.bool false), [])))
 (.fail))))
 (.br (!decide (k = 3))
 (.br (!decide (k = 4))
 (.br (decide ((0 : Int) < (bd.length : Int)))
 (.leaf (.d (.bool false), []))
 (.br (fitS N bd)
 (.br (goodL N bd)
 (.br (fitS N es)
 (.leaf (.d (.bool (goodL N es)), []))
 (.fail))
 (.leaf (.d (.bool false), [])))
 (.fail)))
 (.br (fitS N bd)
 (.br (goodL N bd)
 (.br (fitS N es)
 (.leaf (.d (.bool (goodL N es)), []))
 (.fail))
 (.leaf (.d (.bool false), [])))
 (.fail)))
 (.br (fitS N bd)
 (.br (goodL N bd)
 (.br (fitS N es)
 (.leaf (.d (.bool (goodL N es)), []))
 (.fail))
 (.leaf (.d (.bool false), [])))
 (.fail)))))
 (.fail)))
 (.br (fitX 9 ⟨vo, vv, vn, vs, vz, va⟩)
 (.br (!(goodX 9 ⟨vo, vv, vn, vs, vz, va⟩))
 (.leaf (.d (.bool false), []))
 (.br (!decide (k = 3))
 (.br (decide ((0 : Int) < (es.length : Int)))
 (.leaf (.d (.bool false), []))
 (.br (!decide (k = 3))
 (.br (!decide (k = 4))
 (.br (decide ((0 : Int) < (bd.length : Int)))
 (.leaf (.d (.bool false), []))
 (.br (fitS N bd)
 (.br (goodL N bd)
 (.br (fitS N es)
 (.leaf (.d (.bool (goodL N es)), []))
 (.fail))
 (.leaf (.d (.bool false), [])))
 (.fail)))
 (.br (fitS N bd)
 (.br (goodL N bd)
 (.br (fitS N es)
 (.leaf (.d (.bool (goodL N es)), []))
 (.fail))
 (.leaf (.d (.bool false), [])))
 (.fail)))
 (.br (fitS N bd)
 (.br (goodL N bd)
 (.br (fitS N es)
 (.leaf (.d (.bool (goodL N es)), []))
 (.fail))
 (.leaf (.d (.bool false), [])))
 (.fail))))
 (.br (!decide (k = 3))
 (.br (!decide (k = 4))
 (.br (decide ((0 : Int) < (bd.length : Int)))
 (.leaf (.d (.bool false), []))
 (.br (fitS N bd)
 (.br (goodL N bd)
 (.br (fitS N es)
 (.leaf (.d (.bool (goodL N es)), []))
 (.fail))
 (.leaf (.d (.bool false), [])))
 (.fail)))
 (.br (fitS N bd)
 (.br (goodL N bd)
 (.br (fitS N es)
 (.leaf (.d (.bool (goodL N es)), []))
 (.fail))
 (.leaf (.d (.bool false), [])))
 (.fail)))
 (.br (fitS N bd)
 (.br (goodL N bd)
 (.br (fitS N es)
 (.leaf (.d (.bool (goodL N es)), []))
 (.fail))
 (.leaf (.d (.bool false), [])))
 (.fail)))))
 (.fail))))
 (.fail))
 (.br (!(decide (k = 5)))
 (.br (!(zeroX ⟨po, pv, pn, ps, pz, pa⟩))
 (.leaf (.d (.bool false), []))
 (.br (fitX 9 ⟨vo, vv, vn, vs, vz, va⟩)
 (.br (!(goodX 9 ⟨vo, vv, vn, vs, vz, va⟩))
 (.leaf (.d (.bool false), []))
 (.br (!decide (k = 3))
 (.br (decide ((0 : Int) < (es.length : Int)))
 (.leaf (.d (.bool false), []))
 (.br (!decide (k = 3))
 (.br (!decide (k = 4))
 (.br (decide ((0 : Int) < (bd.length : Int)))
 (.leaf (.d (.bool false), []))
 (.br (fitS N bd)
 (.br (goodL N bd)
 (.br (fitS N es)
 (.leaf (.d (.bool (goodL N es)), []))
 (.fail))
 (.leaf (.d (.bool false), [])))
 (.fail)))
 (.br (fitS N bd)
 (.br (goodL N bd)
 (.br (fitS N es)
 (.leaf (.d (.bool (goodL N es)), []))
 (.fail))
 (.leaf (.d (.bool false), [])))
 (.fail)))
 (.br (fitS N bd)
 (.br (goodL N bd)
 (.br (fitS N es)
 (.leaf (.d (.bool (goodL N es)), []))
 (.fail))
 (.leaf (.d (.bool false), [])))
 (.fail))))
 (.br (!decide (k = 3))
 (.br (!decide (k = 4))
 (.br (decide ((0 : Int) < (bd.length : Int)))
 (.leaf (.d (.bool false), []))
 (.br (fitS N bd)
 (.br (goodL N bd)
 (.br (fitS N es)
 (.leaf (.d (.bool (goodL N es)), []))
 (.fail))
 (.leaf (.d (.bool false), [])))
 (.fail)))
 (.br (fitS N bd)
 (.br (goodL N bd)
 (.br (fitS N es)
 (.leaf (.d (.bool (goodL N es)), []))
 (.fail))
 (.leaf (.d (.bool false), [])))
 (.fail)))
 (.br (fitS N bd)
 (.br (goodL N bd)
 (.br (fitS N es)
 (.leaf (.d (.bool (goodL N es)), []))
 (.fail))
 (.leaf (.d (.bool false), [])))
 (.fail)))))
 (.fail)))
 (.br (fitX 9 ⟨vo, vv, vn, vs, vz, va⟩)
 (.br (!(goodX 9 ⟨vo, vv, vn, vs, vz, va⟩))
 (.leaf (.d (.bool false), []))
 (.br (!decide (k = 3))
 (.br (decide ((0 : Int) < (es.length : Int)))
 (.leaf (.d (.bool false), []))
 (.br (!decide (k = 3))
 (.br (!decide (k = 4))
 (.br (decide ((0 : Int) < (bd.length : Int)))
 (.leaf (.d (.bool false), []))
 (.br (fitS N bd)
 (.br (goodL N bd)
 (.br (fitS N es)
 (.leaf (.d (.bool (goodL N es)), []))
 (.fail))
 (.leaf (.d (.bool false), [])))
 (.fail)))
 (.br (fitS N bd)
 (.br (goodL N bd)
 (.br (fitS N es)
 (.leaf (.d (.bool (goodL N es)), []))
 (.fail))
 (.leaf (.d (.bool false), [])))
 (.fail)))
 (.br (fitS N bd)
 (.br (goodL N bd)
 (.br (fitS N es)
 (.leaf (.d (.bool (goodL N es)), []))
 (.fail))
 (.leaf (.d (.bool false), [])))
 (.fail))))
 (.br (!decide (k = 3))
 (.br (!decide (k = 4))
 (.br (decide ((0 : Int) < (bd.length : Int)))
 (.leaf (.d (.bool false), []))
 (.br (fitS N bd)
 (.br (goodL N bd)
 (.br (fitS N es)
 (.leaf (.d (.bool (goodL N es)), []))
 (.fail))
 (.leaf (.d (.bool false), [])))
 (.fail)))
 (.br (fitS N bd)
 (.br (goodL N bd)
 (.br (fitS N es)
 (.leaf (.d (.bool (goodL N es)), []))
 (.fail))
 (.leaf (.d (.bool false), [])))
 (.fail)))
 (.br (fitS N bd)
 (.br (goodL N bd)
 (.br (fitS N es)
 (.leaf (.d (.bool (goodL N es)), []))
 (.fail))
 (.leaf (.d (.bool false), [])))
 (.fail)))))
 (.fail))))))))))) : Tr (AV × Hp)) := by kernel_rfl

def L_stats_0 (N : Nat) : ST → Tr (Ex × ST)
  | ⟨[(5, .d (.sl 18 ss)), (6, .d (.int .i64 m)), (7, .d (.int .i64 n))], []⟩ => .opt (unL unSt ss) fun l => .br (decide (m = l.length ∧ 0 ≤ n ∧ n ≤ m ∧ m ≤ 100000) && l.all (fit1 N)) (.br ((l.drop n.toNat).all (good1 N)) (.leaf ((.ext 0), ⟨[], []⟩)) (.leaf (.ret, ⟨[(2, .d (.bool false))], []⟩))) .fail
  | _ => .fail

noncomputable abbrev Xss (N : Nat) : TX := ⟨Tryd.prog, tbl [(47, statT N)], iso, gl, vw⟩

theorem xok_Xss (N : Nat) (h_stat : FnOK Tryd.prog gl 47 (statT N)) (f : Nat) : XOK (Xss N) (ann f) gl := XOK.of base (l := [(47, statT N)]) ⟨h_stat, trivial⟩ f

def l_stats_0 : CC := .seq (.region [
    ⟨.yes, (some 8), .binOp .lss 3 (.tmp 7) (.tmp 6) 3, false, false, []⟩] [5, 6, 7, 8]) <|
  .seq (.cond (.tmp 8)
    (.skip)
    (.exit 0)) <|
  .seq (.block 1 <| .seq (.region [
    ⟨.yes, (some 9), .indexAddr 27 (.tmp 5) (.tmp 7), false, false, []⟩,
    ⟨.yes, (some 10), .load 59 (.tmp 9), false, false, [none, none, none, none, none, none, none, none, none, (some 6), none, none, none, none, none, (some 6), (some 18), (some 18)]⟩,
    ⟨.yes, (some 4), .alloc 59, false, false, []⟩,
    ⟨.yes, none, .store 59 (.tmp 4) (.tmp 10), true, false, []⟩] [4, 5, 6, 7]) <|
  .seq (.region [
    ⟨.yes, (some 11), .load 59 (.tmp 4), false, false, [none, none, none, none, none, none, none, none, none, (some 6), none, none, none, none, none, (some 6), (some 18), (some 18)]⟩,
    ⟨.yes, (some 12), .call ⟨.value (.func 47), #[(.tmp 11)], #[59]⟩, false, false, []⟩,
    ⟨.yes, (some 13), .unOp .not 4 (.tmp 12), false, false, []⟩] [5, 6, 7, 13]) <|
  .cond (.tmp 13)
    (.seq (.region [
      ⟨.yes, (some 2), .assign (.const (.bool false)), false, false, []⟩] [2]) <|
    .ret)
    (.skip)) <|
  .region [
    ⟨.yes, (some 14), .binOp .add 3 (.tmp 7) (.const (.int .i64 (1))) 3, false, false, []⟩,
    ⟨.yes, (some 7), .move (.tmp 14), true, false, []⟩] [5, 6, 7]

def c_stats (N : Nat) : CC := .seq (.region [
    ⟨.yes, (some 2), .assign (.const (.bool false)), false, false, []⟩] [0]) <|
  .seq (.seq (.region [
    ⟨.yes, (some 5), .move (.tmp 0), true, false, [(some 18)]⟩,
    ⟨.yes, (some 6), .call ⟨.builtin .len, #[(.tmp 5)], #[27]⟩, false, false, []⟩,
    ⟨.yes, (some 7), .move (.const (.int .i64 (0))), false, false, []⟩] [5, 6, 7]) <|
  .block 0 <| .keep [5, 6, 7] <| .sum (L_stats_0 N) (.loop l_stats_0)) <|
  .seq (.region [
    ⟨.yes, (some 2), .assign (.const (.bool true)), false, false, []⟩] [2]) <|
  .ret

theorem c_stats_eq (N : Nat) : ∃ c, Tryd.f34.body = some c ∧ codeOK Tryd.f34.ntmps c = true ∧ comp Tryd.prog (ann 34) c = erase (c_stats N) := ⟨_, rfl, by kernel_rfl, by kernel_rfl⟩

theorem body_stats_0 (N : Nat) (ss : List DV) (m n : Int) : bodyT (Xss N) [5, 6, 7] [2] [(0, [])] l_stats_0 ⟨[(5, .d (.sl 18 ss)), (6, .d (.int .i64 m)), (7, .d (.int .i64 n))], []⟩ = (
    .br (decide (n < m))
 (.br (decide ((0 : Int) ≤ n))
 (.opt ((ss[(Int.toNat n)]?).bind unSt) fun y1 => .br (fit1 N ⟨y1.kind, y1.name, y1.slot, y1.size, ⟨y1.place.op, y1.place.value, y1.place.name, y1.place.slot, y1.place.size, y1.place.args⟩, ⟨y1.value.op, y1.value.value, y1.value.name, y1.value.slot, y1.value.size, y1.value.args⟩, y1.body, y1.els⟩)
 (.br (!(good1 N ⟨y1.kind, y1.name, y1.slot, y1.size, ⟨y1.place.op, y1.place.value, y1.place.name, y1.place.slot, y1.place.size, y1.place.args⟩, ⟨y1.value.op, y1.value.value, y1.value.name, y1.value.slot, y1.value.size, y1.value.args⟩, y1.body, y1.els⟩))
 (.leaf (.ret, ⟨[(2, .d (.bool false))], []⟩))
 (.leaf (.nrm, ⟨[(5, .d (.sl 18 ss)), (6, .d (.int .i64 m)), (7, .d (.int .i64 (IntKind.i64.wrap (n + 1))))], []⟩)))
 (.fail))
 (.fail))
 (.leaf ((.ext 0), ⟨[], []⟩)) : Tr (Ex × ST)) := by kernel_rfl

theorem tree_stats (N : Nat) (ss : List DV) : fnT (Xss N) (c_stats N) Tryd.f34.results.toList [.d (.sl 18 ss)] [] = (
    .opt (unL unSt ss) fun l1 => .br (decide ((ss.length : Int) = l1.length ∧ 0 ≤ (0 : Int) ∧ (0 : Int) ≤ (ss.length : Int) ∧ (ss.length : Int) ≤ 100000) && l1.all (fit1 N))
 (.br ((l1.drop (0 : Int).toNat).all (good1 N))
 (.leaf (.d (.bool true), []))
 (.leaf (.d (.bool false), [])))
 (.fail) : Tr (AV × Hp)) := by kernel_rfl


theorem sum_stats_0 (N : Nat) (h : FnOK Tryd.prog gl 47 (statT N)) : SumOK Tryd.prog gl (ann 34) (L_stats_0 N) (.loop l_stats_0) := by
  refine SumOK.of_inv (X := Xss N) (xok_Xss N h 34) (by simp only [Sums, l_stats_0, and_true]) (by kernel_rfl) (lv := [5, 6, 7]) (rt := [2]) (xs := [(0, [])]) (by decide)
    (fun k st r => ∃ (l : List St) (n : Nat), n ≤ l.length ∧ (l.length : Int) ≤ 100000 ∧ l.all (fit1 N) = true ∧
      st = ⟨[(5, .d (.sl 18 (l.map encSt))), (6, .d (.int .i64 (l.length : Int))), (7, .d (.int .i64 (n : Int)))], []⟩ ∧
      r = (bif (l.drop n).all (good1 N) then (.ext 0, ⟨[], []⟩) else (.ret, ⟨[(2, .d (.bool false))], []⟩)) ∧ k = l.length - n) ?_ ?_
  · intro st r h
    unfold L_stats_0 at h
    split at h
    · rename_i ar m n
      obtain ⟨l, hl, h0⟩ := Tr.opt_some h
      obtain rfl := unL_inv unSt_ok hl
      rcases Tr.br_some h0 with ⟨h1, h2⟩ | ⟨_, h2⟩
      · simp only [Bool.and_eq_true, decide_eq_true_eq] at h1
        obtain ⟨⟨rfl, h3, h4, h5⟩, h8⟩ := h1
        obtain ⟨k, rfl⟩ := Int.eq_ofNat_of_zero_le h3
        refine ⟨_, l, k, by omega, h5, h8, rfl, ?_, rfl⟩
        simp only [Int.toNat_natCast] at h2
        rcases Tr.br_some h2 with ⟨hs, h9⟩ | ⟨hs, h9⟩ <;> rw [hs] <;> exact (Tr.leaf_some h9).symm
      · exact Tr.fail_some h2
    · exact Tr.fail_some h
  · rintro k st r ⟨l, n, h1, h2, h3, rfl, rfl, rfl⟩
    rw [body_stats_0]
    cases hb : l[n]? with
    | none =>
      have hl : l.length ≤ n := by simpa using hb
      have he : l.drop n = [] := List.drop_eq_nil_of_le hl
      refine ⟨.ext 0, _, Tr.dec_no (by omega) rfl, .inl ⟨by simp, by rw [he]; rfl⟩⟩
    | some v =>
      have hl := (List.getElem?_eq_some_iff.1 hb).1
      have hfit : fit1 N v = true := (List.all_eq_true.1 h3) v (List.mem_of_getElem? hb)
      have hdr : l.drop n = v :: l.drop (n + 1) := by
        rw [List.drop_eq_getElem_cons hl]; congr 1; exact (List.getElem?_eq_some_iff.1 hb).2
      have hw : IntKind.i64.wrap ((n : Int) + 1) = ((n + 1 : Nat) : Int) := by rw [wrap_in] <;> omega
      have hat : ((l.map encSt)[(Int.toNat (n : Int))]?).bind unSt = some v := by simp [hb, unSt_enc]
      cases hg : good1 N v with
      | false =>
        refine ⟨.ret, _, Tr.dec_yes (by omega) (Tr.dec_yes (by omega) (Tr.opt_to hat ((Tr.run_yes hfit).trans ((Tr.run_yes (by show (!good1 N v) = true; rw [hg]; rfl)).trans rfl)))), .inl ⟨by simp, ?_⟩⟩
        rw [hdr, List.all_cons, hg]; rfl
      | true =>
        refine ⟨.nrm, ⟨[(5, .d (.sl 18 (l.map encSt))), (6, .d (.int .i64 (l.length : Int))), (7, .d (.int .i64 ((n + 1 : Nat) : Int)))], []⟩,
          Tr.dec_yes (by omega) (Tr.dec_yes (by omega) (Tr.opt_to hat ((Tr.run_yes hfit).trans ((Tr.run_no (by show (!good1 N v) = false; rw [hg]; rfl)).trans ?_)))),
          .inr ⟨rfl, _, ?_, l, n + 1, by omega, h2, h3, rfl, ?_, rfl⟩⟩
        · rw [hw]; rfl
        · omega
        · rw [hdr, List.all_cons, hg, Bool.true_and]

theorem stats_of_stat {N : Nat} (ih : FnOK Tryd.prog gl 47 (statT N)) : FnOK Tryd.prog gl 34 (statsT (N + 1)) := by
  refine fn_of (X := Xss N) (xok_Xss N ih 34) Tryd.func34 (c_stats_eq N) (by kernel_rfl) (by simp only [Sums, c_stats, and_true, true_and]; exact sum_stats_0 N ih) ?_
  intro ar H o h
  unfold statsT at h
  split at h
  · rename_i ss
    rw [tree_stats]
    rcases Tr.br_some h with ⟨h1, h2⟩ | ⟨_, h2⟩
    · obtain rfl := Tr.leaf_some h2
      unfold fitS at h1
      split at h1
      · rename_i l hl
        simp only [Bool.and_eq_true, decide_eq_true_eq] at h1
        obtain ⟨h3, h4⟩ := h1
        have h5 : l.all (fit1 N) = true := h4
        have hlen : ss.length = l.length := by rw [unL_inv unSt_ok hl, List.length_map]
        refine Tr.opt_to hl ?_
        have hd : goodL (N + 1) ss = l.all (good1 N) := by simp only [goodL, hl]; rfl
        rw [hd]
        refine (Tr.run_yes ?_).trans ?_
        · rw [h5, Bool.and_true]
          exact decide_eq_true ⟨by omega, by omega, by omega, by omega⟩
        · rw [show l.drop (0 : Int).toNat = l from List.drop_zero]
          cases l.all (good1 N) <;> rfl
      · simp at h1
    · exact Tr.fail_some h2
  · exact Tr.fail_some h

theorem stat_of_stats {N : Nat} (ih : FnOK Tryd.prog gl 34 (statsT N)) : FnOK Tryd.prog gl 47 (statT N) := by
  refine fn_of (X := Xst N) (xok_Xst N ih 47) Tryd.func47 c_stat_eq (by kernel_rfl) (by simp only [Sums, c_stat, and_true]) ?_
  intro ar H r h
  unfold statT at h
  split at h
  · rename_i k nm sl sz po pv pn ps pz pa vo vv vn vs vz va bd es
    rw [tree_stat]
    rcases Tr.br_some h with ⟨h1, h2⟩ | ⟨_, h2⟩
    · obtain rfl := Tr.leaf_some h2
      simp only [fit1, Bool.and_eq_true, decide_eq_true_eq] at h1
      obtain ⟨f1, f2, f3, f4, f5⟩ := h1
      have hbig : decide ((nm.length : Int) ≤ big) = true := decide_eq_true (by unfold big; omega)
      simp only [f1, f2, f3, f4, hbig]
      unfold good1 headS
      dsimp only
      clear h h2 f1 f2 f3 f4 f5 hbig
      generalize validB nm = b1
      generalize goodX 9 ⟨po, pv, pn, ps, pz, pa⟩ = b2
      generalize zeroX ⟨po, pv, pn, ps, pz, pa⟩ = b3
      generalize goodX 9 ⟨vo, vv, vn, vs, vz, va⟩ = b4
      generalize goodL N bd = b5
      generalize goodL N es = b6
      generalize decide ((0 : Int) < (es.length : Int)) = b7
      generalize decide ((0 : Int) < (bd.length : Int)) = b8
      generalize decide (nm = []) = b9
      by_cases a1 : k < 1
      · have e1 : decide (k = 1) = false := decide_eq_false (by omega)
        have e2 : decide (k = 2) = false := decide_eq_false (by omega)
        have e5 : decide (k = 5) = false := decide_eq_false (by omega)
        simp [Tr.run_br, Tr.run_leaf, a1, e1, e2, e5, show ¬ k = 1 by omega, show ¬ k = 2 by omega, show ¬ k = 5 by omega]
      by_cases a2 : 6 < k
      · simp [Tr.run_br, Tr.run_leaf, a1, a2, show ¬ k = 1 by omega, show ¬ k = 2 by omega, show ¬ k = 5 by omega]
      have hk : k = 1 ∨ k = 2 ∨ k = 3 ∨ k = 4 ∨ k = 5 ∨ k = 6 := by omega
      by_cases a3 : ¬ sl = 0
      · rcases hk with rfl | rfl | rfl | rfl | rfl | rfl <;> simp [Tr.run_br, Tr.run_leaf, a3]
      by_cases a4 : ¬ sz = 0
      · replace a3 := Decidable.not_not.1 a3
        rcases hk with rfl | rfl | rfl | rfl | rfl | rfl <;> simp [Tr.run_br, Tr.run_leaf, a3, a4]
      replace a3 := Decidable.not_not.1 a3
      replace a4 := Decidable.not_not.1 a4
      subst a3; subst a4
      rcases hk with rfl | rfl | rfl | rfl | rfl | rfl
      · cases b1; · rfl
        cases b3; · rfl
        cases b4; · rfl
        cases b7 <;> cases b8 <;> cases b5 <;> cases b6 <;> rfl
      · cases b1; · rfl
        cases b2; · rfl
        cases b4; · rfl
        cases b7 <;> cases b8 <;> cases b5 <;> cases b6 <;> rfl
      · cases b9; · rfl
        cases b3; · rfl
        cases b4; · rfl
        cases b5 <;> cases b6 <;> rfl
      · cases b9; · rfl
        cases b3; · rfl
        cases b4; · rfl
        cases b7 <;> cases b5 <;> cases b6 <;> rfl
      · cases b9; · rfl
        cases b2; · rfl
        cases b4; · rfl
        cases b7 <;> cases b8 <;> cases b5 <;> cases b6 <;> rfl
      · cases b9; · rfl
        cases b3; · rfl
        cases b4; · rfl
        cases b7 <;> cases b8 <;> cases b5 <;> cases b6 <;> rfl
    · exact Tr.fail_some h2
  · exact Tr.fail_some h

theorem ok_both : ∀ N : Nat, FnOK Tryd.prog gl 34 (statsT N) ∧ FnOK Tryd.prog gl 47 (statT N)
  | 0 => by
    have h0 : FnOK Tryd.prog gl 34 (statsT 0) := by
      refine ⟨⟨_, Tryd.func34, rfl⟩, fun ar H v H' h => ?_⟩
      unfold statsT at h
      split at h
      · exact Tr.fail_some h
      · exact Tr.fail_some h
    exact ⟨h0, stat_of_stats h0⟩
  | N + 1 => ⟨stats_of_stat (ok_both N).2, stat_of_stats (stats_of_stat (ok_both N).2)⟩
end Go.AI.RD

/- syntax.Check, in sum. -/
namespace Go.AI.RD
open Go Go.Proofs
set_option maxRecDepth 10000
set_option linter.unusedVariables false
set_option linter.unusedSimpArgs false

theorem ok_depths9 : FnOK Tryd.prog gl 43 (depthsT 9) := ok_depths 9 (by decide)
theorem ok_stats9 : FnOK Tryd.prog gl 34 (statsT 9) := (ok_both 9).1

/-- No name is too long to be looked at. -/
def short (l : List Var) : Bool := l.all fun v => decide ((v.name.length : Int) ≤ big)

/-- What keeps a declaration from being one. -/
def badVar (v : Var) : Bool := !validB v.name || (decide (v.size < 0) || ((!decide (v.size = 0) && !decide (v.init = 0)) || decide (v.init = -9223372036854775808)))


def prog4 (xs s1 s2 s3 s4 : List DV) : List AV := [.d (.sl 3 xs), .d (.sl 18 s1), .d (.sl 18 s2), .d (.sl 18 s3), .d (.sl 18 s4)]
def fitP (s1 s2 s3 s4 : List DV) : Bool := fitS 9 s1 && (fitS 9 s2 && (fitS 9 s3 && fitS 9 s4))
def depP (s1 s2 s3 s4 : List DV) : Int := max (max (max (depthS 9 s1) (depthS 9 s2)) (depthS 9 s3)) (depthS 9 s4)
def fitZ (z : DV) : Bool := match unSl 18 z with | some y => fitS 9 y | none => false
def goodZ (z : DV) : Bool := match unSl 18 z with | some y => goodL 9 y | none => false

def sdepthT : FT
  | [.agg [.d (.sl 3 xs), .d (.sl 18 s1), .d (.sl 18 s2), .d (.sl 18 s3), .d (.sl 18 s4)]], [] => .br (fitP s1 s2 s3 s4) (.leaf (.d (.int .i64 (depP s1 s2 s3 s4)), [])) .fail
  | _, _ => .fail

noncomputable abbrev Xsd : TX := ⟨Tryd.prog, tbl [(43, (depthsT 9))], iso, gl, vw⟩

theorem xok_Xsd (f : Nat) : XOK Xsd (ann f) gl := XOK.of base (l := [(43, (depthsT 9))]) ⟨ok_depths9, trivial⟩ f

/-- rollbacknet/syntax.Depth -/
def c_sdepth : CC := .seq (.region [
    ⟨.yes, (some 1), .box 29 (.tmp 0), true, false, []⟩,
    ⟨.yes, (some 2), .assign (.const (.int .i64 (0))), false, false, []⟩] [1]) <|
  .seq (.drawn ⟨[13], [], [2]⟩ [
    ⟨(some 3), .fieldAddr 29 (.tmp 1) 1, 0, "check.go:12", #[], none⟩,
    ⟨(some 4), .load 27 (.tmp 3), 27, "check.go:12", #[⟨0, .data⟩], none⟩,
    ⟨(some 5), .call ⟨.value (.func 43), #[(.tmp 4)], #[27]⟩, 3, "check.go:12", #[⟨1, .data⟩], none⟩,
    ⟨(some 6), .fieldAddr 29 (.tmp 1) 2, 0, "check.go:12", #[], none⟩,
    ⟨(some 7), .load 27 (.tmp 6), 27, "check.go:12", #[⟨3, .data⟩], none⟩,
    ⟨(some 8), .call ⟨.value (.func 43), #[(.tmp 7)], #[27]⟩, 3, "check.go:12", #[⟨4, .data⟩, ⟨2, .chain⟩], none⟩,
    ⟨(some 9), .fieldAddr 29 (.tmp 1) 3, 0, "check.go:12", #[], none⟩,
    ⟨(some 10), .load 27 (.tmp 9), 27, "check.go:12", #[⟨6, .data⟩], none⟩,
    ⟨(some 11), .call ⟨.value (.func 43), #[(.tmp 10)], #[27]⟩, 3, "check.go:12", #[⟨7, .data⟩, ⟨5, .chain⟩], none⟩,
    ⟨(some 12), .fieldAddr 29 (.tmp 1) 4, 0, "check.go:12", #[], none⟩,
    ⟨(some 13), .load 27 (.tmp 12), 27, "check.go:12", #[⟨9, .data⟩], none⟩,
    ⟨(some 14), .call ⟨.value (.func 43), #[(.tmp 13)], #[27]⟩, 3, "check.go:12", #[⟨10, .data⟩, ⟨8, .chain⟩], none⟩,
    ⟨(some 15), .call ⟨.builtin .max, #[(.tmp 5), (.tmp 8), (.tmp 11), (.tmp 14)], #[3, 3, 3, 3]⟩, 3, "check.go:12", #[⟨2, .data⟩, ⟨5, .data⟩, ⟨8, .data⟩, ⟨11, .data⟩], none⟩,
    ⟨(some 2), .assign (.tmp 15), 3, "check.go:12", #[⟨12, .data⟩, ⟨11, .chain⟩, ⟨0, .phase⟩, ⟨1, .phase⟩, ⟨2, .phase⟩, ⟨3, .phase⟩, ⟨4, .phase⟩, ⟨5, .phase⟩, ⟨6, .phase⟩, ⟨7, .phase⟩, ⟨8, .phase⟩, ⟨9, .phase⟩, ⟨10, .phase⟩, ⟨11, .phase⟩, ⟨12, .phase⟩], none⟩]) <|
  .ret

theorem c_sdepth_eq : ∃ c, Tryd.f32.body = some c ∧ codeOK Tryd.f32.ntmps c = true ∧ comp Tryd.prog (ann 32) c = erase c_sdepth := ⟨_, rfl, by kernel_rfl, by kernel_rfl⟩

theorem tree_sdepth (xs s1 s2 s3 s4 : List DV) : fnT Xsd c_sdepth Tryd.f32.results.toList [.agg [.d (.sl 3 xs), .d (.sl 18 s1), .d (.sl 18 s2), .d (.sl 18 s3), .d (.sl 18 s4)]] [] = (
    .br (fitS 9 s1)
 (.br (fitS 9 s2)
 (.br (fitS 9 s3)
 (.br (fitS 9 s4)
 (.leaf (.d (.int .i64 (if (if (if (depthS 9 s1) < (depthS 9 s2) then (depthS 9 s2) else (depthS 9 s1)) < (depthS 9 s3) then (depthS 9 s3) else if (depthS 9 s1) < (depthS 9 s2) then (depthS 9 s2) else (depthS 9 s1)) < (depthS 9 s4) then (depthS 9 s4) else if (if (depthS 9 s1) < (depthS 9 s2) then (depthS 9 s2) else (depthS 9 s1)) < (depthS 9 s3) then (depthS 9 s3) else if (depthS 9 s1) < (depthS 9 s2) then (depthS 9 s2) else (depthS 9 s1))), []))
 (.fail))
 (.fail))
 (.fail))
 (.fail) : Tr (AV × Hp)) := by kernel_rfl

theorem ok_sdepth : FnOK Tryd.prog gl 32 sdepthT := by
  refine fn_of (X := Xsd) (xok_Xsd 32) Tryd.func32 c_sdepth_eq (by kernel_rfl) (by simp only [Sums, c_sdepth, and_true]) ?_
  intro xs H o h
  unfold sdepthT at h
  split at h
  · rename_i xs s1 s2 s3 s4
    rw [tree_sdepth]
    rcases Tr.br_some h with ⟨h1, h2⟩ | ⟨_, h2⟩
    · obtain rfl := Tr.leaf_some h2
      simp only [fitP, Bool.and_eq_true] at h1
      obtain ⟨f1, f2, f3, f4⟩ := h1
      refine (Tr.run_yes f1).trans ((Tr.run_yes f2).trans ((Tr.run_yes f3).trans ((Tr.run_yes f4).trans ?_)))
      simp only [maxif]
      rfl
    · exact Tr.fail_some h2
  · exact Tr.fail_some h

def L_check_0 : ST → Tr (Ex × ST)
  | ⟨[(1, .box [.d (.sl 3 xs), .d (.sl 18 s1), .d (.sl 18 s2), .d (.sl 18 s3), .d (.sl 18 s4)]), (11, .d (.sl 3 ys)), (12, .d (.int .i64 m)), (13, .d (.int .i64 n))], []⟩ => .opt (unL unVar ys) fun l => .br (decide (m = l.length ∧ 0 ≤ n ∧ n ≤ m ∧ m ≤ big) && short l) (.br ((l.drop n.toNat).any badVar) (.leaf (.ret, ⟨[(2, .d (.int .i64 7))], []⟩)) (.leaf ((.ext 0), ⟨[(1, .box [.d (.sl 3 xs), .d (.sl 18 s1), .d (.sl 18 s2), .d (.sl 18 s3), .d (.sl 18 s4)])], []⟩))) .fail
  | _ => .fail

def L_check_1 : ST → Tr (Ex × ST)
  | ⟨[(50, .osl 1 zs), (51, .d (.int .i64 m)), (52, .d (.int .i64 n))], []⟩ => .br (decide (m = zs.length ∧ 0 ≤ n ∧ n ≤ m ∧ m ≤ big) && zs.all fitZ) (.br ((zs.drop n.toNat).all goodZ) (.leaf ((.ext 2), ⟨[], []⟩)) (.leaf (.ret, ⟨[(2, .d (.int .i64 7))], []⟩))) .fail
  | _ => .fail

noncomputable abbrev Xck : TX := ⟨Tryd.prog, tbl [(32, sdepthT), (33, validT), (34, (statsT 9))], iso, gl, vw⟩

theorem xok_Xck (f : Nat) : XOK Xck (ann f) gl := XOK.of base (l := [(32, sdepthT), (33, validT), (34, (statsT 9))]) ⟨ok_sdepth, ok_valid, ok_stats9, trivial⟩ f

def l_check_0 : CC := .seq (.region [
    ⟨.yes, (some 14), .binOp .lss 3 (.tmp 13) (.tmp 12) 3, false, false, []⟩] [1, 11, 12, 13, 14]) <|
  .seq (.cond (.tmp 14)
    (.skip)
    (.exit 0)) <|
  .seq (.block 1 <| .seq (.region [
    ⟨.yes, (some 15), .indexAddr 26 (.tmp 11) (.tmp 13), false, false, []⟩,
    ⟨.yes, (some 16), .load 42 (.tmp 15), false, false, []⟩,
    ⟨.yes, (some 4), .alloc 42, false, false, []⟩,
    ⟨.yes, none, .store 42 (.tmp 4) (.tmp 16), true, false, []⟩] [1, 4, 11, 12, 13]) <|
  .seq (.region [
    ⟨.yes, (some 17), .fieldAddr 42 (.tmp 4) 0, false, false, []⟩,
    ⟨.yes, (some 18), .load 9 (.tmp 17), false, false, []⟩,
    ⟨.yes, (some 19), .call ⟨.value (.func 33), #[(.tmp 18)], #[9]⟩, false, false, []⟩,
    ⟨.yes, (some 20), .unOp .not 4 (.tmp 19), false, false, []⟩,
    ⟨.yes, (some 21), .move (.tmp 20), true, false, []⟩,
    ⟨(.on 21 false), (some 22), .fieldAddr 42 (.tmp 4) 1, false, false, []⟩,
    ⟨(.on 21 false), (some 23), .load 3 (.tmp 22), false, false, []⟩,
    ⟨(.on 21 false), (some 24), .binOp .lss 3 (.tmp 23) (.const (.int .i64 (0))) 3, false, false, []⟩,
    ⟨.yes, (some 25), .pick (.tmp 21) (.const (.bool true)) (.tmp 24), false, false, []⟩,
    ⟨.yes, (some 26), .move (.tmp 25), true, false, []⟩,
    ⟨(.on 26 false), (some 27), .fieldAddr 42 (.tmp 4) 1, false, false, []⟩,
    ⟨(.on 26 false), (some 28), .load 3 (.tmp 27), false, false, []⟩,
    ⟨(.on 26 false), (some 29), .binOp .neq 3 (.tmp 28) (.const (.int .i64 (0))) 3, false, false, []⟩,
    ⟨(.on 26 false), (some 30), .move (.tmp 29), true, false, []⟩,
    ⟨(.on 30 true), (some 31), .fieldAddr 42 (.tmp 4) 2, false, false, []⟩,
    ⟨(.on 30 true), (some 32), .load 3 (.tmp 31), false, false, []⟩,
    ⟨(.on 30 true), (some 33), .binOp .neq 3 (.tmp 32) (.const (.int .i64 (0))) 3, false, false, []⟩,
    ⟨(.on 26 false), (some 34), .pick (.tmp 30) (.tmp 33) (.const (.bool false)), false, false, []⟩,
    ⟨.yes, (some 35), .pick (.tmp 26) (.const (.bool true)) (.tmp 34), false, false, []⟩,
    ⟨.yes, (some 36), .move (.tmp 35), true, false, []⟩,
    ⟨(.on 36 false), (some 37), .fieldAddr 42 (.tmp 4) 2, false, false, []⟩,
    ⟨(.on 36 false), (some 38), .load 3 (.tmp 37), false, false, []⟩,
    ⟨(.on 36 false), (some 39), .binOp .eql 3 (.tmp 38) (.const (.int .i64 (-9223372036854775808))) 3, false, false, []⟩,
    ⟨.yes, (some 40), .pick (.tmp 36) (.const (.bool true)) (.tmp 39), false, false, []⟩] [1, 11, 12, 13, 40]) <|
  .cond (.tmp 40)
    (.seq (.region [
      ⟨.yes, (some 2), .assign (.const (.int .i64 (7))), false, false, []⟩] [2]) <|
    .ret)
    (.skip)) <|
  .region [
    ⟨.yes, (some 41), .binOp .add 3 (.tmp 13) (.const (.int .i64 (1))) 3, false, false, []⟩,
    ⟨.yes, (some 13), .move (.tmp 41), true, false, []⟩] [1, 11, 12, 13]

def l_check_1 : CC := .seq (.region [
    ⟨.yes, (some 53), .binOp .lss 3 (.tmp 52) (.tmp 51) 3, false, false, []⟩] [50, 51, 52, 53]) <|
  .seq (.cond (.tmp 53)
    (.skip)
    (.exit 2)) <|
  .seq (.block 3 <| .seq (.region [
    ⟨.yes, (some 54), .indexAddr 80 (.tmp 50) (.tmp 52), false, false, []⟩,
    ⟨.yes, (some 55), .load 27 (.tmp 54), false, false, [(some 18)]⟩,
    ⟨.yes, (some 6), .assign (.tmp 55), true, false, [(some 18)]⟩] [6, 50, 51, 52]) <|
  .seq (.region [
    ⟨.yes, (some 56), .move (.tmp 6), true, false, [(some 18)]⟩,
    ⟨.yes, (some 57), .call ⟨.value (.func 34), #[(.tmp 56)], #[27]⟩, false, false, []⟩,
    ⟨.yes, (some 58), .unOp .not 4 (.tmp 57), false, false, []⟩] [50, 51, 52, 58]) <|
  .cond (.tmp 58)
    (.seq (.region [
      ⟨.yes, (some 2), .assign (.const (.int .i64 (7))), false, false, []⟩] [2]) <|
    .ret)
    (.skip)) <|
  .region [
    ⟨.yes, (some 59), .binOp .add 3 (.tmp 52) (.const (.int .i64 (1))) 3, false, false, []⟩,
    ⟨.yes, (some 52), .move (.tmp 59), true, false, []⟩] [50, 51, 52]

/-- rollbacknet/syntax.Check -/
def c_check : CC := .seq (.region [
    ⟨.yes, (some 1), .box 29 (.tmp 0), true, false, []⟩,
    ⟨.yes, (some 2), .assign (.const (.int .i64 (0))), false, false, []⟩] [1]) <|
  .seq (.seq (.region [
    ⟨.yes, (some 7), .load 29 (.tmp 1), false, false, [(some 3), (some 18), (some 18), (some 18), (some 18)]⟩,
    ⟨.yes, (some 8), .call ⟨.value (.func 32), #[(.tmp 7)], #[29]⟩, false, false, []⟩,
    ⟨.yes, (some 9), .binOp .gtr 3 (.tmp 8) (.const (.int .i64 (16))) 3, false, false, []⟩] [1, 9]) <|
  .cond (.tmp 9)
    (.seq (.region [
      ⟨.yes, (some 2), .assign (.const (.int .i64 (6))), false, false, []⟩] [2]) <|
    .ret)
    (.skip)) <|
  .seq (.seq (.region [
    ⟨.yes, (some 10), .fieldAddr 29 (.tmp 1) 0, false, false, []⟩,
    ⟨.yes, (some 11), .load 26 (.tmp 10), false, false, [(some 3)]⟩,
    ⟨.yes, (some 12), .call ⟨.builtin .len, #[(.tmp 11)], #[26]⟩, false, false, []⟩,
    ⟨.yes, (some 13), .move (.const (.int .i64 (0))), false, false, []⟩] [1, 11, 12, 13]) <|
  .block 0 <| .keep [1, 11, 12, 13] <| .sum L_check_0 (.loop l_check_0)) <|
  .seq (.seq (.region [
    ⟨.yes, (some 42), .fieldAddr 29 (.tmp 1) 1, false, false, []⟩,
    ⟨.yes, (some 43), .load 27 (.tmp 42), false, false, [(some 18)]⟩,
    ⟨.yes, (some 44), .fieldAddr 29 (.tmp 1) 2, false, false, []⟩,
    ⟨.yes, (some 45), .load 27 (.tmp 44), false, false, [(some 18)]⟩,
    ⟨.yes, (some 46), .fieldAddr 29 (.tmp 1) 3, false, false, []⟩,
    ⟨.yes, (some 47), .load 27 (.tmp 46), false, false, [(some 18)]⟩,
    ⟨.yes, (some 48), .fieldAddr 29 (.tmp 1) 4, false, false, []⟩,
    ⟨.yes, (some 49), .load 27 (.tmp 48), false, false, [(some 18)]⟩,
    ⟨.yes, (some 50), .buildSlice 80 4 #[(0, (.tmp 43)), (1, (.tmp 45)), (2, (.tmp 47)), (3, (.tmp 49))], false, false, [(some 1)]⟩,
    ⟨.yes, (some 51), .call ⟨.builtin .len, #[(.tmp 50)], #[80]⟩, false, false, []⟩,
    ⟨.yes, (some 52), .move (.const (.int .i64 (0))), false, false, []⟩] [50, 51, 52]) <|
  .block 2 <| .keep [50, 51, 52] <| .sum L_check_1 (.loop l_check_1)) <|
  .seq (.region [
    ⟨.yes, (some 2), .assign (.const (.int .i64 (0))), false, false, []⟩] [2]) <|
  .ret

theorem c_check_eq : ∃ c, Tryd.f22.body = some c ∧ codeOK Tryd.f22.ntmps c = true ∧ comp Tryd.prog (ann 22) c = erase c_check := ⟨_, rfl, by kernel_rfl, by kernel_rfl⟩

theorem body_check_0 (xs s1 s2 s3 s4 ys : List DV) (m n : Int) : bodyT Xck [1, 11, 12, 13] [2] [(0, [1])] l_check_0 ⟨[(1, .box [.d (.sl 3 xs), .d (.sl 18 s1), .d (.sl 18 s2), .d (.sl 18 s3), .d (.sl 18 s4)]), (11, .d (.sl 3 ys)), (12, .d (.int .i64 m)), (13, .d (.int .i64 n))], []⟩ = (
    .br (decide (n < m))
 (.br (decide ((0 : Int) ≤ n))
 (.opt ((ys[(Int.toNat n)]?).bind unVar) fun y1 => .br (decide ((y1.name.length : Int) ≤ big))
 (.br (!(validB y1.name))
 (.leaf (.ret, ⟨[(2, .d (.int .i64 7))], []⟩))
 (.br (decide (y1.size < 0))
 (.leaf (.ret, ⟨[(2, .d (.int .i64 7))], []⟩))
 (.br (!decide (y1.size = 0))
 (.br (!decide (y1.init = 0))
 (.leaf (.ret, ⟨[(2, .d (.int .i64 7))], []⟩))
 (.br (decide (y1.init = (-9223372036854775808)))
 (.leaf (.ret, ⟨[(2, .d (.int .i64 7))], []⟩))
 (.leaf (.nrm, ⟨[(1, .box [.d (.sl 3 xs), .d (.sl 18 s1), .d (.sl 18 s2), .d (.sl 18 s3), .d (.sl 18 s4)]), (11, .d (.sl 3 ys)), (12, .d (.int .i64 m)), (13, .d (.int .i64 (IntKind.i64.wrap (n + 1))))], []⟩))))
 (.br (decide (y1.init = (-9223372036854775808)))
 (.leaf (.ret, ⟨[(2, .d (.int .i64 7))], []⟩))
 (.leaf (.nrm, ⟨[(1, .box [.d (.sl 3 xs), .d (.sl 18 s1), .d (.sl 18 s2), .d (.sl 18 s3), .d (.sl 18 s4)]), (11, .d (.sl 3 ys)), (12, .d (.int .i64 m)), (13, .d (.int .i64 (IntKind.i64.wrap (n + 1))))], []⟩))))))
 (.fail))
 (.fail))
 (.leaf ((.ext 0), ⟨[(1, .box [.d (.sl 3 xs), .d (.sl 18 s1), .d (.sl 18 s2), .d (.sl 18 s3), .d (.sl 18 s4)])], []⟩)) : Tr (Ex × ST)) := by kernel_rfl

theorem body_check_1 (zs : List DV) (m n : Int) : bodyT Xck [50, 51, 52] [2] [(2, [])] l_check_1 ⟨[(50, .osl 1 zs), (51, .d (.int .i64 m)), (52, .d (.int .i64 n))], []⟩ = (
    .br (decide (n < m))
 (.br (decide ((0 : Int) ≤ n))
 (.opt ((zs[(Int.toNat n)]?).bind (unSl 18)) fun y1 => .br (fitS 9 y1)
 (.br (!(goodL 9 y1))
 (.leaf (.ret, ⟨[(2, .d (.int .i64 7))], []⟩))
 (.leaf (.nrm, ⟨[(50, .osl 1 zs), (51, .d (.int .i64 m)), (52, .d (.int .i64 (IntKind.i64.wrap (n + 1))))], []⟩)))
 (.fail))
 (.fail))
 (.leaf ((.ext 2), ⟨[], []⟩)) : Tr (Ex × ST)) := by kernel_rfl

theorem tree_check (xs s1 s2 s3 s4 : List DV) : fnT Xck c_check Tryd.f22.results.toList [.agg [.d (.sl 3 xs), .d (.sl 18 s1), .d (.sl 18 s2), .d (.sl 18 s3), .d (.sl 18 s4)]] [] = (
    .br (fitP s1 s2 s3 s4)
 (.br (decide ((16 : Int) < (depP s1 s2 s3 s4)))
 (.leaf (.d (.int .i64 6), []))
 (.opt (unL unVar xs) fun l1 => .br (decide ((xs.length : Int) = l1.length ∧ 0 ≤ (0 : Int) ∧ (0 : Int) ≤ (xs.length : Int) ∧ (xs.length : Int) ≤ big) && short l1)
 (.br ((l1.drop (0 : Int).toNat).any badVar)
 (.leaf (.d (.int .i64 7), []))
 (.br (decide ((([(.sl 18 s1), (.sl 18 s2), (.sl 18 s3), (.sl 18 s4)] : List DV).length : Int) = ([(.sl 18 s1), (.sl 18 s2), (.sl 18 s3), (.sl 18 s4)] : List DV).length ∧ 0 ≤ (0 : Int) ∧ (0 : Int) ≤ (([(.sl 18 s1), (.sl 18 s2), (.sl 18 s3), (.sl 18 s4)] : List DV).length : Int) ∧ (([(.sl 18 s1), (.sl 18 s2), (.sl 18 s3), (.sl 18 s4)] : List DV).length : Int) ≤ big) && ([(.sl 18 s1), (.sl 18 s2), (.sl 18 s3), (.sl 18 s4)] : List DV).all fitZ)
 (.br ((([(.sl 18 s1), (.sl 18 s2), (.sl 18 s3), (.sl 18 s4)] : List DV).drop (0 : Int).toNat).all goodZ)
 (.leaf (.d (.int .i64 0), []))
 (.leaf (.d (.int .i64 7), [])))
 (.fail)))
 (.fail)))
 (.fail) : Tr (AV × Hp)) := by kernel_rfl


theorem sum_check_0 : SumOK Tryd.prog gl (ann 22) L_check_0 (.loop l_check_0) := by
  refine SumOK.of_inv (X := Xck) (xok_Xck 22) (by simp only [Sums, l_check_0, and_true]) (by kernel_rfl) (lv := [1, 11, 12, 13]) (rt := [2]) (xs := [(0, [1])]) (by decide)
    (fun k st r => ∃ (xs s1 s2 s3 s4 : List DV) (l : List Var) (n : Nat), n ≤ l.length ∧ (l.length : Int) ≤ big ∧ short l = true ∧
      st = ⟨[(1, .box (prog4 xs s1 s2 s3 s4)), (11, .d (.sl 3 (l.map encVar))), (12, .d (.int .i64 (l.length : Int))), (13, .d (.int .i64 (n : Int)))], []⟩ ∧
      r = (bif (l.drop n).any badVar then (.ret, ⟨[(2, .d (.int .i64 7))], []⟩) else (.ext 0, ⟨[(1, .box (prog4 xs s1 s2 s3 s4))], []⟩)) ∧ k = l.length - n) ?_ ?_
  · intro st r h
    unfold L_check_0 at h
    split at h
    · rename_i xs s1 s2 s3 s4 ys m n
      obtain ⟨l, hl, h0⟩ := Tr.opt_some h
      obtain rfl := unL_inv unVar_ok hl
      rcases Tr.br_some h0 with ⟨h1, h2⟩ | ⟨_, h2⟩
      · simp only [Bool.and_eq_true, decide_eq_true_eq] at h1
        obtain ⟨⟨rfl, h3, h4, h5⟩, h6⟩ := h1
        obtain ⟨k, rfl⟩ := Int.eq_ofNat_of_zero_le h3
        refine ⟨_, xs, s1, s2, s3, s4, l, k, by omega, h5, h6, rfl, ?_, rfl⟩
        simp only [Int.toNat_natCast] at h2
        rcases Tr.br_some h2 with ⟨hs, h8⟩ | ⟨hs, h8⟩ <;> rw [hs] <;> exact (Tr.leaf_some h8).symm
      · exact Tr.fail_some h2
    · exact Tr.fail_some h
  · rintro k st r ⟨xs, s1, s2, s3, s4, l, n, h1, h2, h3, rfl, rfl, rfl⟩
    unfold prog4
    rw [body_check_0]
    cases hb : l[n]? with
    | none =>
      have hl : l.length ≤ n := by simpa using hb
      have he : l.drop n = [] := List.drop_eq_nil_of_le hl
      refine ⟨.ext 0, ⟨[(1, .box (prog4 xs s1 s2 s3 s4))], []⟩, ?_, .inl ⟨by simp, by rw [he]; rfl⟩⟩
      have h5 : ¬ ((n : Int) < l.length) := by omega
      simp [Tr.run_br, Tr.run_leaf, h5, prog4]
    | some v =>
      have hl := at_len hb
      have h5 : ((n : Int) < l.length) := by omega
      have h6 : (v.name.length : Int) ≤ big := by simpa using (List.all_eq_true.1 h3) v (List.mem_of_getElem? hb)
      rw [vdrop hb, List.any_cons]
      cases hbad : badVar v with
      | true =>
        refine ⟨.ret, ⟨[(2, .d (.int .i64 7))], []⟩, ?_, .inl ⟨by simp, by simp⟩⟩
        unfold badVar at hbad
        by_cases a1 : validB v.name = true
        · by_cases a2 : v.size < 0
          · simp [Tr.run_br, Tr.run_leaf, Tr.run_opt_, h5, unVar_enc, hb, h6, a1, a2]
          · by_cases a3 : v.size = 0
            · have a4 : v.init = -9223372036854775808 := by simpa [a1, a2, a3] using hbad
              simp [Tr.run_br, Tr.run_leaf, Tr.run_opt_, h5, unVar_enc, hb, h6, a1, a3, a4]
            · by_cases a5 : v.init = 0
              · simp [a1, a2, a3, a5] at hbad
              · simp [Tr.run_br, Tr.run_leaf, Tr.run_opt_, h5, unVar_enc, hb, h6, a1, a2, a3, a5]
        · simp [Tr.run_br, Tr.run_leaf, Tr.run_opt_, h5, unVar_enc, hb, h6, a1]
      | false =>
        have h8 : IntKind.i64.wrap ((n : Int) + 1) = ((n + 1 : Nat) : Int) := by unfold big at h2; rw [wrap_in] <;> omega
        refine ⟨.nrm, ⟨[(1, .box (prog4 xs s1 s2 s3 s4)), (11, .d (.sl 3 (l.map encVar))), (12, .d (.int .i64 (l.length : Int))), (13, .d (.int .i64 ((n + 1 : Nat) : Int)))], []⟩, ?_, .inr ⟨rfl, _, ?_, xs, s1, s2, s3, s4, l, n + 1, by omega, h2, h3, rfl, rfl, rfl⟩⟩
        · unfold badVar at hbad
          simp only [Bool.or_eq_false_iff, Bool.not_eq_false', decide_eq_false_iff_not, Bool.and_eq_false_iff, decide_eq_true_eq] at hbad
          obtain ⟨a1, a2, a3, a4⟩ := hbad
          simp only [h8]
          by_cases a5 : v.size = 0
          · simp [Tr.run_br, Tr.run_leaf, Tr.run_opt_, h5, unVar_enc, hb, h6, a1, a4, a5, prog4]
          · have a6 : v.init = 0 := a3.resolve_left a5
            simp [Tr.run_br, Tr.run_leaf, Tr.run_opt_, h5, unVar_enc, hb, h6, a1, a2, a5, a6, prog4]
        · omega


theorem sum_check_1 : SumOK Tryd.prog gl (ann 22) L_check_1 (.loop l_check_1) := by
  refine SumOK.of_inv (X := Xck) (xok_Xck 22) (by simp only [Sums, l_check_1, and_true]) (by kernel_rfl) (lv := [50, 51, 52]) (rt := [2]) (xs := [(2, [])]) (by decide)
    (fun k st r => ∃ (zs : List DV) (n : Nat), n ≤ zs.length ∧ (zs.length : Int) ≤ big ∧ zs.all fitZ = true ∧ st = ⟨[(50, .osl 1 zs), (51, .d (.int .i64 (zs.length : Int))), (52, .d (.int .i64 (n : Int)))], []⟩ ∧
      r = (bif (zs.drop n).all goodZ then (.ext 2, ⟨[], []⟩) else (.ret, ⟨[(2, .d (.int .i64 7))], []⟩)) ∧ k = zs.length - n) ?_ ?_
  · intro st r h
    unfold L_check_1 at h
    split at h
    · rename_i zs m n
      rcases Tr.br_some h with ⟨h1, h2⟩ | ⟨_, h2⟩
      · simp only [Bool.and_eq_true, decide_eq_true_eq] at h1
        obtain ⟨⟨rfl, h3, h4, h5⟩, h6⟩ := h1
        obtain ⟨k, rfl⟩ := Int.eq_ofNat_of_zero_le h3
        refine ⟨_, zs, k, by omega, h5, h6, rfl, ?_, rfl⟩
        simp only [Int.toNat_natCast] at h2
        rcases Tr.br_some h2 with ⟨hs, h9⟩ | ⟨hs, h9⟩ <;> rw [hs] <;> exact (Tr.leaf_some h9).symm
      · exact Tr.fail_some h2
    · exact Tr.fail_some h
  · rintro k st r ⟨zs, n, h1, h2, h3, rfl, rfl, rfl⟩
    rw [body_check_1]
    cases hb : zs[n]? with
    | none =>
      have hl : zs.length ≤ n := by simpa using hb
      have he : zs.drop n = [] := List.drop_eq_nil_of_le hl
      refine ⟨.ext 2, _, Tr.dec_no (by omega) rfl, .inl ⟨by simp, by rw [he]; rfl⟩⟩
    | some z =>
      have hl := (List.getElem?_eq_some_iff.1 hb).1
      have hfit : fitZ z = true := (List.all_eq_true.1 h3) z (List.mem_of_getElem? hb)
      have hdr : zs.drop n = z :: zs.drop (n + 1) := by
        rw [List.drop_eq_getElem_cons hl]; congr 1; exact (List.getElem?_eq_some_iff.1 hb).2
      have hw : IntKind.i64.wrap ((n : Int) + 1) = ((n + 1 : Nat) : Int) := by unfold big at h2; rw [wrap_in] <;> omega
      unfold fitZ at hfit
      split at hfit
      · rename_i y hy
        have hat : (zs[(Int.toNat (n : Int))]?).bind (unSl 18) = some y := by simp [hb, hy]
        have hgz : goodZ z = goodL 9 y := by unfold goodZ; rw [hy]
        cases hg : goodL 9 y with
        | false =>
          refine ⟨.ret, _, Tr.dec_yes (by omega) (Tr.dec_yes (by omega) (Tr.opt_to hat ((Tr.run_yes hfit).trans ((Tr.run_yes (by rw [hg]; rfl)).trans rfl)))), .inl ⟨by simp, ?_⟩⟩
          rw [hdr, List.all_cons, hgz, hg]; rfl
        | true =>
          refine ⟨.nrm, ⟨[(50, .osl 1 zs), (51, .d (.int .i64 (zs.length : Int))), (52, .d (.int .i64 ((n + 1 : Nat) : Int)))], []⟩,
            Tr.dec_yes (by omega) (Tr.dec_yes (by omega) (Tr.opt_to hat ((Tr.run_yes hfit).trans ((Tr.run_no (by rw [hg]; rfl)).trans ?_)))),
            .inr ⟨rfl, _, ?_, zs, n + 1, by omega, h2, h3, rfl, ?_, rfl⟩⟩
          · rw [hw]; rfl
          · omega
          · rw [hdr, List.all_cons, hgz, hg, Bool.true_and]
      · simp at hfit

/-- Check's answer. -/
def chkP (l : List Var) (s1 s2 s3 s4 : List DV) : Int :=
  if 16 < depP s1 s2 s3 s4 then 6 else if l.any badVar then 7 else if goodL 9 s1 && (goodL 9 s2 && (goodL 9 s3 && goodL 9 s4)) then 0 else 7
def checkT : FT
  | [.agg [.d (.sl 3 xs), .d (.sl 18 s1), .d (.sl 18 s2), .d (.sl 18 s3), .d (.sl 18 s4)]], [] => .opt (unL unVar xs) fun l => .br (decide ((l.length : Int) ≤ big) && (short l && fitP s1 s2 s3 s4)) (.leaf (.d (.int .i64 (chkP l s1 s2 s3 s4)), [])) .fail
  | _, _ => .fail

theorem ok_check : FnOK Tryd.prog gl 22 checkT := by
  refine fn_of (X := Xck) (xok_Xck 22) Tryd.func22 c_check_eq (by kernel_rfl) (by simp only [Sums, c_check, and_true, true_and]; exact ⟨sum_check_0, sum_check_1⟩) ?_
  intro xs H o h
  unfold checkT at h
  split at h
  · rename_i xs s1 s2 s3 s4
    rw [tree_check]
    obtain ⟨l, hl, h⟩ := Tr.opt_some h
    rcases Tr.br_some h with ⟨h1, h2⟩ | ⟨_, h2⟩
    · simp only [Bool.and_eq_true, decide_eq_true_eq] at h1
      obtain ⟨h3, h4, h5⟩ := h1
      obtain rfl := Tr.leaf_some h2
      have hlen : xs.length = l.length := by rw [unL_inv unVar_ok hl, List.length_map]
      refine (Tr.run_yes h5).trans ?_
      simp only [fitP, Bool.and_eq_true] at h5
      obtain ⟨f1, f2, f3, f4⟩ := h5
      unfold chkP
      by_cases h6 : 16 < depP s1 s2 s3 s4
      · refine Tr.dec_yes h6 ?_
        rw [if_pos h6]; rfl
      · refine Tr.dec_no h6 ?_
        rw [if_neg h6]
        refine Tr.opt_to hl ((Tr.run_yes (by rw [h4, Bool.and_true]; exact decide_eq_true ⟨by omega, by omega, by omega, by omega⟩)).trans ?_)
        rw [show l.drop (0 : Int).toNat = l from List.drop_zero]
        cases hb : l.any badVar with
        | true => rfl
        | false =>
          refine (Tr.run_no rfl).trans ((Tr.run_yes (by simp [fitZ, unSl, f1, f2, f3, f4, big])).trans ?_)
          cases g1 : goodL 9 s1 <;> cases g2 : goodL 9 s2 <;> cases g3 : goodL 9 s3 <;> cases g4 : goodL 9 s4 <;> simp [Tr.run_br, Tr.run_leaf, goodZ, unSl, g1, g2, g3, g4]
    · exact Tr.fail_some h2
  · exact Tr.fail_some h

end Go.AI.RD
