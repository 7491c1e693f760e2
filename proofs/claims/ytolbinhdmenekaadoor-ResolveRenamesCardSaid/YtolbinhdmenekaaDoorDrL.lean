/- resolver.find, in sum. -/
import Derived.Test.YtolbinhdmenekaaDoorDrJ
namespace Go.AI.RD
open Go Go.Proofs
set_option maxRecDepth 10000
set_option linter.unusedVariables false
set_option linter.unusedSimpArgs false

/-- The places in a table. -/
def unM : List AV → Option (List Plc)
  | [] => some []
  | v :: r => match (deAV v).bind unPlc, unM r with
    | some p, some ps => some (p :: ps)
    | _, _ => none

def getP (k : DV) : List DV → List Plc → Option Plc
  | x :: ks, p :: ps => bif eqK k x then some p else getP k ks ps
  | _, _ => none

theorem has_getP {k : DV} : ∀ {ks : List DV} {vs : List AV} {ps : List Plc}, unM vs = some ps → ks.length = ps.length → hasM k ks = (getP k ks ps).isSome
  | [], [], ps, h, _ => by simp [unM] at h; subst h; rfl
  | [], _ :: _, ps, h, hl => by
    cases ps with
    | nil => rfl
    | cons => simp at hl
  | x :: ks, [], ps, h, hl => by simp [unM] at h; subst h; simp at hl
  | x :: ks, v :: vs, ps, h, hl => by
    unfold unM at h
    split at h
    · rename_i p ps' h1 h2
      obtain rfl := Option.some.inj h
      simp only [hasM, getP]
      cases eqK k x with
      | true => rfl
      | false => simp only [Bool.false_or, cond_false]; exact has_getP h2 (by simpa using hl)
    · simp at h

theorem find_getP {k : DV} {p : Plc} : ∀ {ks : List DV} {vs : List AV} {ps : List Plc}, unM vs = some ps → getP k ks ps = some p → (findM k ks vs).bind (fun a => (deAV a).bind unPlc) = some p
  | [], _, ps, _, h => by cases ps <;> simp [getP] at h
  | x :: ks, [], ps, h, h' => by simp [unM] at h; subst h; simp [getP] at h'
  | x :: ks, v :: vs, ps, h, h' => by
    unfold unM at h
    split at h
    · rename_i p' ps' h1 h2
      obtain rfl := Option.some.inj h
      simp only [getP] at h'
      simp only [findM]
      cases he : eqK k x with
      | true => rw [he, cond_true] at h'; rw [cond_true]; cases h'; exact h1
      | false => rw [he, cond_false] at h'; rw [cond_false]; exact find_getP h2 h'
    · simp at h

/-- What find gives: the place, and the two marks. -/
def fndR (ks : List DV) (ps : List Plc) (nm : List UInt8) (ar a b : Bool) : Plc × Bool × Bool :=
  match getP (.str nm) ks ps with
  | some p => (p, a, b || (ar != decide (0 < p.size)))
  | none => (⟨0, 0⟩, true, b)

def findT : FT
  | [.hp 1 0, .d (.str nm), .d (.bool ar)], [[.mpb .str ks vs], [.mp 0, .d (.bool a), .d (.bool b)]] => .opt (unM vs) fun ps => .br (decide (ks.length = ps.length)) (.leaf (.agg [.d (.int .i64 (fndR ks ps nm ar a b).1.slot), .d (.int .i64 (fndR ks ps nm ar a b).1.size)], [[.mpb .str ks vs], [.mp 0, .d (.bool (fndR ks ps nm ar a b).2.1), .d (.bool (fndR ks ps nm ar a b).2.2)]])) .fail
  | _, _ => .fail

noncomputable abbrev Xf : TX := ⟨Tryd.prog, tbl [], iso, gl, vw⟩

theorem xok_Xf (f : Nat) : XOK Xf (ann f) gl := XOK.of base (l := []) trivial f

/-- (*rollbacknet/resolve.resolver).find -/
def c_find : CC := .seq (.region [
    ⟨.yes, (some 6), .alloc 66, false, false, []⟩] [0, 1, 2, 6]) <|
  .seq (.region [
    ⟨.yes, (some 10), .move (.tmp 0), false, false, []⟩,
    ⟨.yes, (some 11), .nilCheck (.tmp 10), false, false, []⟩,
    ⟨.yes, (some 12), .fieldAddr 64 (.tmp 11) 0, false, false, []⟩,
    ⟨.yes, (some 13), .load 62 (.tmp 12), false, false, []⟩,
    ⟨.yes, (some 14), .move (.tmp 1), true, false, []⟩,
    ⟨.yes, (some 15), .lookup 62 (.tmp 13) (.tmp 14) true, false, false, []⟩,
    ⟨.yes, (some 9), .move (.tmp 15), true, false, []⟩,
    ⟨.yes, (some 16), .extract (.tmp 9) 0, false, false, []⟩,
    ⟨.yes, (some 17), .extract (.tmp 9) 1, false, false, []⟩,
    ⟨.yes, (some 7), .alloc 66, false, false, []⟩,
    ⟨.yes, none, .store 66 (.tmp 7) (.tmp 16), true, false, []⟩,
    ⟨.yes, (some 8), .assign (.tmp 17), true, false, []⟩] [0, 2, 6, 7, 8]) <|
  .seq (.region [
    ⟨.yes, (some 18), .move (.tmp 0), false, false, []⟩,
    ⟨.yes, (some 19), .move (.tmp 0), false, false, []⟩,
    ⟨.yes, (some 20), .nilCheck (.tmp 19), false, false, []⟩,
    ⟨.yes, (some 21), .fieldAddr 64 (.tmp 20) 1, false, false, []⟩,
    ⟨.yes, (some 22), .load 4 (.tmp 21), false, false, []⟩,
    ⟨.yes, (some 23), .move (.tmp 22), true, false, []⟩,
    ⟨(.on 23 false), (some 24), .move (.tmp 8), false, false, []⟩,
    ⟨(.on 23 false), (some 25), .unOp .not 4 (.tmp 24), false, false, []⟩,
    ⟨.yes, (some 26), .pick (.tmp 23) (.const (.bool true)) (.tmp 25), false, false, []⟩,
    ⟨.yes, (some 27), .nilCheck (.tmp 18), false, false, []⟩,
    ⟨.yes, (some 28), .fieldAddr 64 (.tmp 27) 1, false, false, []⟩,
    ⟨.yes, none, .store 4 (.tmp 28) (.tmp 26), true, false, []⟩] [0, 2, 6, 7, 8]) <|
  .seq (.region [
    ⟨.yes, (some 29), .move (.tmp 0), false, false, []⟩,
    ⟨.yes, (some 30), .move (.tmp 0), true, false, []⟩,
    ⟨.yes, (some 31), .nilCheck (.tmp 30), false, false, []⟩,
    ⟨.yes, (some 32), .fieldAddr 64 (.tmp 31) 2, false, false, []⟩,
    ⟨.yes, (some 33), .load 4 (.tmp 32), false, false, []⟩,
    ⟨.yes, (some 34), .move (.tmp 33), true, false, []⟩,
    ⟨(.on 34 false), (some 35), .move (.tmp 8), true, false, []⟩,
    ⟨(.on 34 false), (some 36), .move (.tmp 35), true, false, []⟩,
    ⟨(.on 36 true), (some 37), .move (.tmp 2), true, false, []⟩,
    ⟨(.on 36 true), (some 38), .fieldAddr 66 (.tmp 7) 1, false, false, []⟩,
    ⟨(.on 36 true), (some 39), .load 3 (.tmp 38), false, false, []⟩,
    ⟨(.on 36 true), (some 40), .binOp .gtr 3 (.tmp 39) (.const (.int .i64 (0))) 3, false, false, []⟩,
    ⟨(.on 36 true), (some 41), .binOp .neq 4 (.tmp 37) (.tmp 40) 4, false, false, []⟩,
    ⟨(.on 34 false), (some 42), .pick (.tmp 36) (.tmp 41) (.const (.bool false)), false, false, []⟩,
    ⟨.yes, (some 43), .pick (.tmp 34) (.const (.bool true)) (.tmp 42), false, false, []⟩,
    ⟨.yes, (some 44), .nilCheck (.tmp 29), false, false, []⟩,
    ⟨.yes, (some 45), .fieldAddr 64 (.tmp 44) 2, false, false, []⟩,
    ⟨.yes, none, .store 4 (.tmp 45) (.tmp 43), true, false, []⟩] [6, 7]) <|
  .seq (.region [
    ⟨.yes, (some 46), .load 66 (.tmp 7), false, false, []⟩,
    ⟨.yes, none, .store 66 (.tmp 6) (.tmp 46), true, false, []⟩] [6]) <|
  .ret

theorem c_find_eq : ∃ c, Tryd.f35.body = some c ∧ codeOK Tryd.f35.ntmps c = true ∧ comp Tryd.prog (ann 35) c = erase c_find := ⟨_, rfl, by kernel_rfl, by kernel_rfl⟩

theorem tree_find (ks : List DV) (vs : List AV) (nm : List UInt8) (ar a b : Bool) : fnT Xf c_find Tryd.f35.results.toList [.hp 1 0, .d (.str nm), .d (.bool ar)] [[.mpb .str ks vs], [.mp 0, .d (.bool a), .d (.bool b)]] = (
    .br (hasM (DV.str nm) ks)
 (.opt ((findM (DV.str nm) ks vs).bind (fun a => (deAV a).bind unPlc)) fun y1 => .br a
 (.br b
 (.leaf (.agg [.d (.int .i64 y1.slot), .d (.int .i64 y1.size)], [[.mpb .str ks vs], [.mp 0, .d (.bool true), .d (.bool true)]]))
 (.br true
 (.leaf (.agg [.d (.int .i64 y1.slot), .d (.int .i64 y1.size)], [[.mpb .str ks vs], [.mp 0, .d (.bool true), .d (.bool (!(ar == (decide ((0 : Int) < y1.size)))))]]))
 (.leaf (.agg [.d (.int .i64 y1.slot), .d (.int .i64 y1.size)], [[.mpb .str ks vs], [.mp 0, .d (.bool true), .d (.bool false)]]))))
 (.br b
 (.leaf (.agg [.d (.int .i64 y1.slot), .d (.int .i64 y1.size)], [[.mpb .str ks vs], [.mp 0, .d (.bool false), .d (.bool true)]]))
 (.br true
 (.leaf (.agg [.d (.int .i64 y1.slot), .d (.int .i64 y1.size)], [[.mpb .str ks vs], [.mp 0, .d (.bool false), .d (.bool (!(ar == (decide ((0 : Int) < y1.size)))))]]))
 (.leaf (.agg [.d (.int .i64 y1.slot), .d (.int .i64 y1.size)], [[.mpb .str ks vs], [.mp 0, .d (.bool false), .d (.bool false)]])))))
 (.br a
 (.br b
 (.leaf (.agg [.d (.int .i64 0), .d (.int .i64 0)], [[.mpb .str ks vs], [.mp 0, .d (.bool true), .d (.bool true)]]))
 (.br false
 (.leaf (.agg [.d (.int .i64 0), .d (.int .i64 0)], [[.mpb .str ks vs], [.mp 0, .d (.bool true), .d (.bool (!(ar == (decide ((0 : Int) < 0)))))]]))
 (.leaf (.agg [.d (.int .i64 0), .d (.int .i64 0)], [[.mpb .str ks vs], [.mp 0, .d (.bool true), .d (.bool false)]]))))
 (.br b
 (.leaf (.agg [.d (.int .i64 0), .d (.int .i64 0)], [[.mpb .str ks vs], [.mp 0, .d (.bool true), .d (.bool true)]]))
 (.br false
 (.leaf (.agg [.d (.int .i64 0), .d (.int .i64 0)], [[.mpb .str ks vs], [.mp 0, .d (.bool true), .d (.bool (!(ar == (decide ((0 : Int) < 0)))))]]))
 (.leaf (.agg [.d (.int .i64 0), .d (.int .i64 0)], [[.mpb .str ks vs], [.mp 0, .d (.bool true), .d (.bool false)]]))))) : Tr (AV × Hp)) := by kernel_rfl

theorem ok_find : FnOK Tryd.prog gl 35 findT := by
  refine fn_of (X := Xf) (xok_Xf 35) Tryd.func35 c_find_eq (by kernel_rfl) (by simp only [Sums, c_find, and_true]) ?_
  intro xs H o h
  unfold findT at h
  split at h
  · rename_i nm ar ks vs a b
    rw [tree_find]
    obtain ⟨ps, hp, h⟩ := Tr.opt_some h
    rcases Tr.br_some h with ⟨h1, h2⟩ | ⟨_, h2⟩
    · have hl := of_decide_eq_true h1
      obtain rfl := Tr.leaf_some h2
      have hh := has_getP (k := .str nm) hp hl
      unfold fndR
      cases hg : getP (.str nm) ks ps with
      | none =>
        rw [hg] at hh
        refine (Tr.run_no hh).trans ?_
        cases a <;> cases b <;> rfl
      | some p =>
        rw [hg] at hh
        refine (Tr.run_yes hh).trans (Tr.opt_to (find_getP hp hg) ?_)
        cases a <;> cases b <;> cases ar <;> cases hz : decide (0 < p.size) <;> simp [Tr.run_br, Tr.run_leaf] <;> simpa using hz
    · exact Tr.fail_some h2
  · exact Tr.fail_some h

end Go.AI.RD

/- resolver.expr, in sum. -/
namespace Go.AI.RD
open Go Go.Proofs
set_option maxRecDepth 10000
set_option linter.unusedVariables false
set_option linter.unusedSimpArgs false

/-- The marks: a name that is not declared; a name in the wrong place. -/
structure Mk where
  a : Bool
  b : Bool

def headR (ks : List DV) (ps : List Plc) (e : Xp) (m : Mk) : Xp × Mk :=
  if e.op = 2 ∨ e.op = 3 then
    (⟨e.op, e.value, e.name, (fndR ks ps e.name (decide (e.op = 3)) m.a m.b).1.slot, (fndR ks ps e.name (decide (e.op = 3)) m.a m.b).1.size, e.args⟩,
      ⟨(fndR ks ps e.name (decide (e.op = 3)) m.a m.b).2.1, (fndR ks ps e.name (decide (e.op = 3)) m.a m.b).2.2⟩)
  else (e, m)
def resL (f : Xp → Mk → Xp × Mk) : List Xp → Mk → List Xp × Mk
  | [], m => ([], m)
  | e :: r, m => ((f e m).1 :: (resL f r (f e m).2).1, (resL f r (f e m).2).2)
/-- A resolved expression. -/
def resX (ks : List DV) (ps : List Plc) : Nat → Xp → Mk → Xp × Mk
  | 0, e, m => (e, m)
  | n + 1, e, m => match unL unXp e.args with
    | some l =>
      let h := headR ks ps e m
      let q := resL (resX ks ps n) l h.2
      (⟨h.1.op, h.1.value, h.1.name, h.1.slot, h.1.size, q.1.map encXp⟩, q.2)
    | none => (e, m)

def rexprT (N : Nat) : FT
  | [.hp 1 0, .agg [.d (.int .i64 o), .d (.int .i64 v), .d (.str nm), .d (.int .i64 sl), .d (.int .i64 sz), .d (.sl 6 ar)]], [[.mpb .str ks vs], [.mp 0, .d (.bool a), .d (.bool b)]] => .opt (unM vs) fun ps => .br (decide (ks.length = ps.length) && fitX N ⟨o, v, nm, sl, sz, ar⟩) (.leaf (.agg [.d (.int .i64 ((resX ks ps N ⟨o, v, nm, sl, sz, ar⟩ ⟨a, b⟩).1).op), .d (.int .i64 ((resX ks ps N ⟨o, v, nm, sl, sz, ar⟩ ⟨a, b⟩).1).value), .d (.str ((resX ks ps N ⟨o, v, nm, sl, sz, ar⟩ ⟨a, b⟩).1).name), .d (.int .i64 ((resX ks ps N ⟨o, v, nm, sl, sz, ar⟩ ⟨a, b⟩).1).slot), .d (.int .i64 ((resX ks ps N ⟨o, v, nm, sl, sz, ar⟩ ⟨a, b⟩).1).size), .d (.sl 6 ((resX ks ps N ⟨o, v, nm, sl, sz, ar⟩ ⟨a, b⟩).1).args)], [[.mpb .str ks vs], [.mp 0, .d (.bool (resX ks ps N ⟨o, v, nm, sl, sz, ar⟩ ⟨a, b⟩).2.a), .d (.bool (resX ks ps N ⟨o, v, nm, sl, sz, ar⟩ ⟨a, b⟩).2.b)]])) .fail
  | _, _ => .fail

noncomputable abbrev Xrx (N : Nat) : TX := ⟨Tryd.prog, tbl [(35, findT), (36, rexprT N)], iso, gl, vw⟩

theorem xok_Xrx (N : Nat) (h_rexpr : FnOK Tryd.prog gl 36 (rexprT N)) (f : Nat) : XOK (Xrx N) (ann f) gl := XOK.of base (l := [(35, findT), (36, rexprT N)]) ⟨ok_find, h_rexpr, trivial⟩ f

def L_rexpr_0 (N : Nat) : ST → Tr (Ex × ST)
  | ⟨[(0, .hp 1 0), (3, .box [.d (.int .i64 o), .d (.int .i64 v), .d (.str nm), .d (.int .i64 sl), .d (.int .i64 sz), .d (.sl 6 br)]), (4, .box [.d (.int .i64 0), .d (.int .i64 0), .d (.str []), .d (.int .i64 0), .d (.int .i64 0), .osl 6 []]), (6, .osl 6 out), (31, .d (.sl 6 ar)), (32, .d (.int .i64 m)), (33, .d (.int .i64 n))], [[.mpb .str ks vs], [.mp 0, .d (.bool a), .d (.bool b)]]⟩ => .opt (unM vs) fun ps => .opt (unL unXp ar) fun l => .br (decide (ks.length = ps.length ∧ m = l.length ∧ 0 ≤ n ∧ n ≤ m ∧ m ≤ 100000 ∧ out.length = n.toNat) && l.all (fitX N)) (.leaf ((.ext 0), ⟨[(3, .box [.d (.int .i64 o), .d (.int .i64 v), .d (.str nm), .d (.int .i64 sl), .d (.int .i64 sz), .d (.sl 6 br)]), (4, .box [.d (.int .i64 0), .d (.int .i64 0), .d (.str []), .d (.int .i64 0), .d (.int .i64 0), .osl 6 []]), (6, .osl 6 (out ++ (resL (resX ks ps N) (l.drop n.toNat) ⟨a, b⟩).1.map encXp))], [[.mpb .str ks vs], [.mp 0, .d (.bool (resL (resX ks ps N) (l.drop n.toNat) ⟨a, b⟩).2.a), .d (.bool (resL (resX ks ps N) (l.drop n.toNat) ⟨a, b⟩).2.b)]]⟩)) .fail
  | _ => .fail

def l_rexpr_0 : CC := .seq (.region [
    ⟨.yes, (some 34), .binOp .lss 3 (.tmp 33) (.tmp 32) 3, false, false, []⟩] [0, 3, 4, 6, 31, 32, 33, 34]) <|
  .seq (.cond (.tmp 34)
    (.skip)
    (.exit 0)) <|
  .seq (.block 1 <| .seq (.region [
    ⟨.yes, (some 35), .indexAddr 54 (.tmp 31) (.tmp 33), false, false, []⟩,
    ⟨.yes, (some 36), .load 56 (.tmp 35), false, false, [none, none, none, none, none, (some 6)]⟩,
    ⟨.yes, (some 8), .alloc 56, false, false, []⟩,
    ⟨.yes, none, .store 56 (.tmp 8) (.tmp 36), true, false, []⟩] [0, 3, 4, 6, 8, 31, 32, 33]) <|
  .region [
    ⟨.yes, (some 37), .move (.tmp 6), true, false, [(some 6)]⟩,
    ⟨.yes, (some 38), .move (.tmp 0), false, false, []⟩,
    ⟨.yes, (some 39), .load 56 (.tmp 8), false, false, [none, none, none, none, none, (some 6)]⟩,
    ⟨.yes, (some 40), .call ⟨.value (.func 36), #[(.tmp 38), (.tmp 39)], #[82, 56]⟩, false, false, [none, none, none, none, none, (some 6)]⟩,
    ⟨.yes, (some 41), .buildSlice 54 1 #[(0, (.tmp 40))], false, false, [(some 6)]⟩,
    ⟨.yes, (some 42), .call ⟨.builtin .append, #[(.tmp 37), (.tmp 41)], #[54, 54]⟩, true, false, [(some 6)]⟩,
    ⟨.yes, (some 6), .assign (.tmp 42), true, false, [(some 6)]⟩] [0, 3, 4, 6, 31, 32, 33]) <|
  .region [
    ⟨.yes, (some 43), .binOp .add 3 (.tmp 33) (.const (.int .i64 (1))) 3, false, false, []⟩,
    ⟨.yes, (some 33), .move (.tmp 43), true, false, []⟩] [0, 3, 4, 6, 31, 32, 33]

def c_rexpr (N : Nat) : CC := .seq (.region [
    ⟨.yes, (some 3), .box 56 (.tmp 1), true, false, []⟩,
    ⟨.yes, (some 4), .alloc 56, false, false, []⟩] [0, 3, 4]) <|
  .seq (.seq (.region [
    ⟨.yes, (some 9), .fieldAddr 56 (.tmp 3) 0, false, false, []⟩,
    ⟨.yes, (some 10), .load 3 (.tmp 9), false, false, []⟩,
    ⟨.yes, (some 11), .binOp .eql 3 (.tmp 10) (.const (.int .i64 (2))) 3, false, false, []⟩,
    ⟨.yes, (some 12), .move (.tmp 11), true, false, []⟩,
    ⟨(.on 12 false), (some 13), .fieldAddr 56 (.tmp 3) 0, false, false, []⟩,
    ⟨(.on 12 false), (some 14), .load 3 (.tmp 13), false, false, []⟩,
    ⟨(.on 12 false), (some 15), .binOp .eql 3 (.tmp 14) (.const (.int .i64 (3))) 3, false, false, []⟩,
    ⟨.yes, (some 16), .pick (.tmp 12) (.const (.bool true)) (.tmp 15), false, false, []⟩] [0, 3, 4, 16]) <|
  .cond (.tmp 16)
    (.seq (.region [
      ⟨.yes, (some 17), .move (.tmp 0), false, false, []⟩,
      ⟨.yes, (some 18), .fieldAddr 56 (.tmp 3) 2, false, false, []⟩,
      ⟨.yes, (some 19), .load 9 (.tmp 18), false, false, []⟩,
      ⟨.yes, (some 20), .fieldAddr 56 (.tmp 3) 0, false, false, []⟩,
      ⟨.yes, (some 21), .load 3 (.tmp 20), false, false, []⟩,
      ⟨.yes, (some 22), .binOp .eql 3 (.tmp 21) (.const (.int .i64 (3))) 3, false, false, []⟩,
      ⟨.yes, (some 23), .call ⟨.value (.func 35), #[(.tmp 17), (.tmp 19), (.tmp 22)], #[82, 9, 4]⟩, false, false, []⟩,
      ⟨.yes, (some 5), .alloc 66, false, false, []⟩,
      ⟨.yes, none, .store 66 (.tmp 5) (.tmp 23), true, false, []⟩] [0, 3, 4, 5]) <|
    .drawn ⟨[5, 7], [], [0, 3, 4]⟩ [
      ⟨(some 24), .fieldAddr 66 (.tmp 5) 0, 0, "resolve.go:93", #[], none⟩,
      ⟨(some 25), .load 3 (.tmp 24), 3, "resolve.go:93", #[⟨0, .data⟩], none⟩,
      ⟨(some 26), .fieldAddr 66 (.tmp 5) 1, 0, "resolve.go:93", #[⟨5, .gcOnly .lateStores⟩], none⟩,
      ⟨(some 27), .load 3 (.tmp 26), 3, "resolve.go:93", #[⟨2, .data⟩, ⟨5, .gcOnly .lateStores⟩], none⟩,
      ⟨(some 28), .fieldAddr 56 (.tmp 3) 3, 0, "resolve.go:93", #[⟨0, .phase⟩, ⟨1, .phase⟩, ⟨2, .textOnly .lateStores⟩, ⟨3, .textOnly .lateStores⟩], none⟩,
      ⟨none, .store 3 (.tmp 28) (.tmp 25), 0, "resolve.go:93", #[⟨4, .data⟩, ⟨1, .data⟩, ⟨0, .phase⟩, ⟨1, .phase⟩, ⟨2, .textOnly .lateStores⟩, ⟨3, .textOnly .lateStores⟩], none⟩,
      ⟨(some 29), .fieldAddr 56 (.tmp 3) 4, 0, "resolve.go:93", #[⟨0, .phase⟩, ⟨1, .phase⟩, ⟨2, .phase⟩, ⟨3, .phase⟩, ⟨4, .phase⟩, ⟨5, .phase⟩], none⟩,
      ⟨none, .store 3 (.tmp 29) (.tmp 27), 0, "resolve.go:93", #[⟨6, .data⟩, ⟨3, .data⟩, ⟨5, .chain⟩, ⟨0, .phase⟩, ⟨1, .phase⟩, ⟨2, .phase⟩, ⟨3, .phase⟩, ⟨4, .phase⟩, ⟨5, .phase⟩], none⟩])
    (.skip)) <|
  .seq (.region [
    ⟨.yes, (some 6), .assign (.const (.slice none 0 0)), false, false, [(some 6)]⟩] [0, 3, 4, 6]) <|
  .seq (.seq (.region [
    ⟨.yes, (some 30), .fieldAddr 56 (.tmp 3) 5, false, false, []⟩,
    ⟨.yes, (some 31), .load 54 (.tmp 30), false, false, [(some 6)]⟩,
    ⟨.yes, (some 32), .call ⟨.builtin .len, #[(.tmp 31)], #[54]⟩, false, false, []⟩,
    ⟨.yes, (some 33), .move (.const (.int .i64 (0))), false, false, []⟩] [0, 3, 4, 6, 31, 32, 33]) <|
  .block 0 <| .keep [0, 3, 4, 6, 31, 32, 33] <| .sum (L_rexpr_0 N) (.loop l_rexpr_0)) <|
  .seq (.region [
    ⟨.yes, (some 44), .move (.tmp 6), true, false, [(some 6)]⟩,
    ⟨.yes, (some 45), .fieldAddr 56 (.tmp 3) 5, false, false, []⟩,
    ⟨.yes, none, .store 54 (.tmp 45) (.tmp 44), true, false, []⟩] [3, 4]) <|
  .seq (.region [
    ⟨.yes, (some 46), .load 56 (.tmp 3), false, false, [none, none, none, none, none, (some 6)]⟩,
    ⟨.yes, none, .store 56 (.tmp 4) (.tmp 46), true, false, []⟩] [4]) <|
  .ret

theorem c_rexpr_eq (N : Nat) : ∃ c, Tryd.f36.body = some c ∧ codeOK Tryd.f36.ntmps c = true ∧ comp Tryd.prog (ann 36) c = erase (c_rexpr N) := ⟨_, rfl, by kernel_rfl, by kernel_rfl⟩

theorem body_rexpr_0 (N : Nat) (ar : List DV) (nm : List UInt8) (o v sl sz : Int) (ks : List DV) (vs : List AV) (a b : Bool) (br out : List DV) (m n : Int) : bodyT (Xrx N) [0, 3, 4, 6, 31, 32, 33] [4] [(0, [3, 4, 6])] l_rexpr_0 ⟨[(0, .hp 1 0), (3, .box [.d (.int .i64 o), .d (.int .i64 v), .d (.str nm), .d (.int .i64 sl), .d (.int .i64 sz), .d (.sl 6 br)]), (4, .box [.d (.int .i64 0), .d (.int .i64 0), .d (.str []), .d (.int .i64 0), .d (.int .i64 0), .osl 6 []]), (6, .osl 6 out), (31, .d (.sl 6 ar)), (32, .d (.int .i64 m)), (33, .d (.int .i64 n))], [[.mpb .str ks vs], [.mp 0, .d (.bool a), .d (.bool b)]]⟩ = (
    .br (decide (n < m))
 (.br (decide ((0 : Int) ≤ n))
 (.opt ((ar[(Int.toNat n)]?).bind unXp) fun y1 => .opt (unM vs) fun ps2 => .br (decide (ks.length = ps2.length) && fitX N ⟨y1.op, y1.value, y1.name, y1.slot, y1.size, y1.args⟩)
 (.br (decide ((out.length + ([(.agg [.int .i64 (((resX ks ps2 N ⟨y1.op, y1.value, y1.name, y1.slot, y1.size, y1.args⟩ ⟨a, b⟩).1).op), .int .i64 (((resX ks ps2 N ⟨y1.op, y1.value, y1.name, y1.slot, y1.size, y1.args⟩ ⟨a, b⟩).1).value), .str (((resX ks ps2 N ⟨y1.op, y1.value, y1.name, y1.slot, y1.size, y1.args⟩ ⟨a, b⟩).1).name), .int .i64 (((resX ks ps2 N ⟨y1.op, y1.value, y1.name, y1.slot, y1.size, y1.args⟩ ⟨a, b⟩).1).slot), .int .i64 (((resX ks ps2 N ⟨y1.op, y1.value, y1.name, y1.slot, y1.size, y1.args⟩ ⟨a, b⟩).1).size), .sl 6 (((resX ks ps2 N ⟨y1.op, y1.value, y1.name, y1.slot, y1.size, y1.args⟩ ⟨a, b⟩).1).args)])] : List DV).length) * 72 ≤ 70368744177664))
 (.leaf (.nrm, ⟨[(0, .hp 1 0), (3, .box [.d (.int .i64 o), .d (.int .i64 v), .d (.str nm), .d (.int .i64 sl), .d (.int .i64 sz), .d (.sl 6 br)]), (4, .box [.d (.int .i64 0), .d (.int .i64 0), .d (.str []), .d (.int .i64 0), .d (.int .i64 0), .osl 6 []]), (6, .osl 6 (out ++ [(.agg [.int .i64 (((resX ks ps2 N ⟨y1.op, y1.value, y1.name, y1.slot, y1.size, y1.args⟩ ⟨a, b⟩).1).op), .int .i64 (((resX ks ps2 N ⟨y1.op, y1.value, y1.name, y1.slot, y1.size, y1.args⟩ ⟨a, b⟩).1).value), .str (((resX ks ps2 N ⟨y1.op, y1.value, y1.name, y1.slot, y1.size, y1.args⟩ ⟨a, b⟩).1).name), .int .i64 (((resX ks ps2 N ⟨y1.op, y1.value, y1.name, y1.slot, y1.size, y1.args⟩ ⟨a, b⟩).1).slot), .int .i64 (((resX ks ps2 N ⟨y1.op, y1.value, y1.name, y1.slot, y1.size, y1.args⟩ ⟨a, b⟩).1).size), .sl 6 (((resX ks ps2 N ⟨y1.op, y1.value, y1.name, y1.slot, y1.size, y1.args⟩ ⟨a, b⟩).1).args)])])), (31, .d (.sl 6 ar)), (32, .d (.int .i64 m)), (33, .d (.int .i64 (IntKind.i64.wrap (n + 1))))], [[.mpb .str ks vs], [.mp 0, .d (.bool ((resX ks ps2 N ⟨y1.op, y1.value, y1.name, y1.slot, y1.size, y1.args⟩ ⟨a, b⟩).2.a)), .d (.bool ((resX ks ps2 N ⟨y1.op, y1.value, y1.name, y1.slot, y1.size, y1.args⟩ ⟨a, b⟩).2.b))]]⟩))
 (.fail))
 (.fail))
 (.fail))
 (.leaf ((.ext 0), ⟨[(3, .box [.d (.int .i64 o), .d (.int .i64 v), .d (.str nm), .d (.int .i64 sl), .d (.int .i64 sz), .d (.sl 6 br)]), (4, .box [.d (.int .i64 0), .d (.int .i64 0), .d (.str []), .d (.int .i64 0), .d (.int .i64 0), .osl 6 []]), (6, .osl 6 out)], [[.mpb .str ks vs], [.mp 0, .d (.bool a), .d (.bool b)]]⟩)) : Tr (Ex × ST)) := by kernel_rfl

theorem tree_rexpr (N : Nat) (ar : List DV) (nm : List UInt8) (o v sl sz : Int) (ks : List DV) (vs : List AV) (a b : Bool) : fnT (Xrx N) (c_rexpr N) Tryd.f36.results.toList [.hp 1 0, .agg [.d (.int .i64 o), .d (.int .i64 v), .d (.str nm), .d (.int .i64 sl), .d (.int .i64 sz), .d (.sl 6 ar)]] [[.mpb .str ks vs], [.mp 0, .d (.bool a), .d (.bool b)]] = (
    .br (decide (o = 2))
 (.opt (unM vs) fun ps1 => .br (decide (ks.length = ps1.length))
 (.opt (unM vs) fun ps3 => .opt (unL unXp ar) fun l4 => .br (decide (ks.length = ps3.length ∧ (ar.length : Int) = l4.length ∧ 0 ≤ (0 : Int) ∧ (0 : Int) ≤ (ar.length : Int) ∧ (ar.length : Int) ≤ 100000 ∧ ([] : List DV).length = (0 : Int).toNat) && l4.all (fitX N))
 (.leaf (.agg [.d (.int .i64 o), .d (.int .i64 v), .d (.str nm), .d (.int .i64 ((fndR ks ps1 nm (decide (o = 3)) a b).1.slot)), .d (.int .i64 ((fndR ks ps1 nm (decide (o = 3)) a b).1.size)), .d (.sl 6 (([] : List DV) ++ (resL (resX ks ps3 N) (l4.drop (0 : Int).toNat) ⟨((fndR ks ps1 nm (decide (o = 3)) a b).2.1), ((fndR ks ps1 nm (decide (o = 3)) a b).2.2)⟩).1.map encXp))], [[.mpb .str ks vs], [.mp 0, .d (.bool ((resL (resX ks ps3 N) (l4.drop (0 : Int).toNat) ⟨((fndR ks ps1 nm (decide (o = 3)) a b).2.1), ((fndR ks ps1 nm (decide (o = 3)) a b).2.2)⟩).2.a)), .d (.bool ((resL (resX ks ps3 N) (l4.drop (0 : Int).toNat) ⟨((fndR ks ps1 nm (decide (o = 3)) a b).2.1), ((fndR ks ps1 nm (decide (o = 3)) a b).2.2)⟩).2.b))]]))
 (.fail))
 (.fail))
 (.br (decide (o = 3))
 (.opt (unM vs) fun ps2 => .br (decide (ks.length = ps2.length))
 (.opt (unM vs) fun ps5 => .opt (unL unXp ar) fun l6 => .br (decide (ks.length = ps5.length ∧ (ar.length : Int) = l6.length ∧ 0 ≤ (0 : Int) ∧ (0 : Int) ≤ (ar.length : Int) ∧ (ar.length : Int) ≤ 100000 ∧ ([] : List DV).length = (0 : Int).toNat) && l6.all (fitX N))
 (.leaf (.agg [.d (.int .i64 o), .d (.int .i64 v), .d (.str nm), .d (.int .i64 ((fndR ks ps2 nm (decide (o = 3)) a b).1.slot)), .d (.int .i64 ((fndR ks ps2 nm (decide (o = 3)) a b).1.size)), .d (.sl 6 (([] : List DV) ++ (resL (resX ks ps5 N) (l6.drop (0 : Int).toNat) ⟨((fndR ks ps2 nm (decide (o = 3)) a b).2.1), ((fndR ks ps2 nm (decide (o = 3)) a b).2.2)⟩).1.map encXp))], [[.mpb .str ks vs], [.mp 0, .d (.bool ((resL (resX ks ps5 N) (l6.drop (0 : Int).toNat) ⟨((fndR ks ps2 nm (decide (o = 3)) a b).2.1), ((fndR ks ps2 nm (decide (o = 3)) a b).2.2)⟩).2.a)), .d (.bool ((resL (resX ks ps5 N) (l6.drop (0 : Int).toNat) ⟨((fndR ks ps2 nm (decide (o = 3)) a b).2.1), ((fndR ks ps2 nm (decide (o = 3)) a b).2.2)⟩).2.b))]]))
 (.fail))
 (.fail))
 (.opt (unM vs) fun ps7 => .opt (unL unXp ar) fun l8 => .br (decide (ks.length = ps7.length ∧ (ar.length : Int) = l8.length ∧ 0 ≤ (0 : Int) ∧ (0 : Int) ≤ (ar.length : Int) ∧ (ar.length : Int) ≤ 100000 ∧ ([] : List DV).length = (0 : Int).toNat) && l8.all (fitX N))
 (.leaf (.agg [.d (.int .i64 o), .d (.int .i64 v), .d (.str nm), .d (.int .i64 sl), .d (.int .i64 sz), .d (.sl 6 (([] : List DV) ++ (resL (resX ks ps7 N) (l8.drop (0 : Int).toNat) ⟨a, b⟩).1.map encXp))], [[.mpb .str ks vs], [.mp 0, .d (.bool ((resL (resX ks ps7 N) (l8.drop (0 : Int).toNat) ⟨a, b⟩).2.a)), .d (.bool ((resL (resX ks ps7 N) (l8.drop (0 : Int).toNat) ⟨a, b⟩).2.b))]]))
 (.fail))) : Tr (AV × Hp)) := by kernel_rfl


def hpM (ks : List DV) (vs : List AV) (m : Mk) : Hp := [[.mpb .str ks vs], [.mp 0, .d (.bool m.a), .d (.bool m.b)]]
def cellsX (e : Xp) : List AV := [.d (.int .i64 e.op), .d (.int .i64 e.value), .d (.str e.name), .d (.int .i64 e.slot), .d (.int .i64 e.size), .d (.sl 6 e.args)]
def zX : List AV := [.d (.int .i64 0), .d (.int .i64 0), .d (.str []), .d (.int .i64 0), .d (.int .i64 0), .osl 6 []]

theorem sum_rexpr_0 (N : Nat) (h : FnOK Tryd.prog gl 36 (rexprT N)) : SumOK Tryd.prog gl (ann 36) (L_rexpr_0 N) (.loop l_rexpr_0) := by
  refine SumOK.of_inv (X := Xrx N) (xok_Xrx N h 36) (by simp only [Sums, l_rexpr_0, and_true]) (by kernel_rfl) (lv := [0, 3, 4, 6, 31, 32, 33]) (rt := [4]) (xs := [(0, [3, 4, 6])]) (by decide)
    (fun k st r => ∃ (e : Xp) (out : List DV) (l : List Xp) (n : Nat) (ks : List DV) (vs : List AV) (ps : List Plc) (mk : Mk), unM vs = some ps ∧ ks.length = ps.length ∧ n ≤ l.length ∧ (l.length : Int) ≤ 100000 ∧ l.all (fitX N) = true ∧ out.length = n ∧
      st = ⟨[(0, .hp 1 0), (3, .box (cellsX e)), (4, .box zX), (6, .osl 6 out), (31, .d (.sl 6 (l.map encXp))), (32, .d (.int .i64 (l.length : Int))), (33, .d (.int .i64 (n : Int)))], hpM ks vs mk⟩ ∧
      r = (.ext 0, ⟨[(3, .box (cellsX e)), (4, .box zX), (6, .osl 6 (out ++ (resL (resX ks ps N) (l.drop n) mk).1.map encXp))], hpM ks vs (resL (resX ks ps N) (l.drop n) mk).2⟩) ∧ k = l.length - n) ?_ ?_
  · intro st r h
    unfold L_rexpr_0 at h
    split at h
    · rename_i o v nm sl sz br out ar m n ks vs a b
      obtain ⟨ps, hp, h0⟩ := Tr.opt_some h
      obtain ⟨l, hl, h00⟩ := Tr.opt_some h0
      obtain rfl := unL_inv unXp_ok hl
      rcases Tr.br_some h00 with ⟨h1, h2⟩ | ⟨_, h2⟩
      · simp only [Bool.and_eq_true, decide_eq_true_eq] at h1
        obtain ⟨⟨h3, rfl, h4, h5, h6, h7⟩, h8⟩ := h1
        obtain ⟨k, rfl⟩ := Int.eq_ofNat_of_zero_le h4
        exact ⟨_, ⟨o, v, nm, sl, sz, br⟩, out, l, k, ks, vs, ps, ⟨a, b⟩, hp, h3, by omega, h6, h8, h7, rfl, (Tr.leaf_some h2).symm, rfl⟩
      · exact Tr.fail_some h2
    · exact Tr.fail_some h
  · rintro k st r ⟨e, out, l, n, ks, vs, ps, mk, hp, hkl, h1, h2, h3, h4, rfl, rfl, rfl⟩
    unfold cellsX zX hpM
    rw [body_rexpr_0]
    cases hb : l[n]? with
    | none =>
      have hl : l.length ≤ n := by simpa using hb
      have he : l.drop n = [] := List.drop_eq_nil_of_le hl
      refine ⟨.ext 0, _, Tr.dec_no (by omega) rfl, .inl ⟨by simp, by rw [he]; simp [resL]⟩⟩
    | some y =>
      have hl := (List.getElem?_eq_some_iff.1 hb).1
      have hfit : fitX N y = true := (List.all_eq_true.1 h3) y (List.mem_of_getElem? hb)
      have hdr : l.drop n = y :: l.drop (n + 1) := by
        rw [List.drop_eq_getElem_cons hl]; congr 1; exact (List.getElem?_eq_some_iff.1 hb).2
      have hw : IntKind.i64.wrap ((n : Int) + 1) = ((n + 1 : Nat) : Int) := by rw [wrap_in] <;> omega
      have hat : ((l.map encXp)[(Int.toNat (n : Int))]?).bind unXp = some y := by simp [hb, unXp_enc]
      refine ⟨.nrm, ⟨[(0, .hp 1 0), (3, .box (cellsX e)), (4, .box zX), (6, .osl 6 (out ++ [encXp (resX ks ps N y mk).1])), (31, .d (.sl 6 (l.map encXp))), (32, .d (.int .i64 (l.length : Int))), (33, .d (.int .i64 ((n + 1 : Nat) : Int)))], hpM ks vs (resX ks ps N y mk).2⟩,
        Tr.dec_yes (by omega) (Tr.dec_yes (by omega) (Tr.opt_to hat (Tr.opt_to hp ((Tr.run_yes (by rw [decide_eq_true hkl, Bool.true_and]; exact hfit)).trans ((Tr.run_yes (decide_eq_true (by show (out.length + 1) * 72 ≤ 70368744177664; omega))).trans ?_))))),
        .inr ⟨rfl, _, ?_, e, out ++ [encXp (resX ks ps N y mk).1], l, n + 1, ks, vs, ps, (resX ks ps N y mk).2, hp, hkl, by omega, h2, h3, by simp [h4], rfl, ?_, rfl⟩⟩
      · rw [hw]; rfl
      · omega
      · rw [hdr]
        simp only [resL, List.map_cons, List.append_assoc, List.singleton_append]

theorem ok_rexpr : ∀ N : Nat, FnOK Tryd.prog gl 36 (rexprT N)
  | 0 => by
    refine ⟨⟨_, Tryd.func36, rfl⟩, fun ar H v H' h => ?_⟩
    unfold rexprT at h
    split at h
    · obtain ⟨ps, hp, h⟩ := Tr.opt_some h
      rcases Tr.br_some h with ⟨h1, h2⟩ | ⟨_, h2⟩
      · simp [fitX] at h1
      · exact Tr.fail_some h2
    · exact Tr.fail_some h
  | N + 1 => by
    have ih := ok_rexpr N
    refine fn_of (X := Xrx N) (xok_Xrx N ih 36) Tryd.func36 (c_rexpr_eq N) (by kernel_rfl) (by simp only [Sums, c_rexpr, and_true, true_and]; exact sum_rexpr_0 N ih) ?_
    intro ar H r h
    unfold rexprT at h
    split at h
    · rename_i o v nm sl sz ar ks vs a b
      rw [tree_rexpr]
      obtain ⟨ps, hp, h⟩ := Tr.opt_some h
      rcases Tr.br_some h with ⟨h1, h2⟩ | ⟨_, h2⟩
      · obtain rfl := Tr.leaf_some h2
        simp only [Bool.and_eq_true, decide_eq_true_eq] at h1
        obtain ⟨hkl, h1⟩ := h1
        unfold fitX at h1
        split at h1
        · rename_i l hl
          simp only [Bool.and_eq_true, decide_eq_true_eq] at h1
          obtain ⟨⟨h3, h4⟩, h5⟩ := h1
          have hl' : unL unXp ar = some l := hl
          have hlen : ar.length = l.length := by rw [unL_inv unXp_ok hl', List.length_map]
          have hg : (decide (ks.length = ps.length ∧ (ar.length : Int) = l.length ∧ 0 ≤ (0 : Int) ∧ (0 : Int) ≤ (ar.length : Int) ∧ (ar.length : Int) ≤ 100000 ∧ ([] : List DV).length = (0 : Int).toNat) && l.all (fitX N)) = true := by
            rw [h5, Bool.and_true]; exact decide_eq_true ⟨hkl, by omega, by omega, by omega, by omega, rfl⟩
          have hr : resX ks ps (N + 1) ⟨o, v, nm, sl, sz, ar⟩ ⟨a, b⟩ =
              (⟨(headR ks ps ⟨o, v, nm, sl, sz, ar⟩ ⟨a, b⟩).1.op, (headR ks ps ⟨o, v, nm, sl, sz, ar⟩ ⟨a, b⟩).1.value, (headR ks ps ⟨o, v, nm, sl, sz, ar⟩ ⟨a, b⟩).1.name, (headR ks ps ⟨o, v, nm, sl, sz, ar⟩ ⟨a, b⟩).1.slot, (headR ks ps ⟨o, v, nm, sl, sz, ar⟩ ⟨a, b⟩).1.size,
                (resL (resX ks ps N) l (headR ks ps ⟨o, v, nm, sl, sz, ar⟩ ⟨a, b⟩).2).1.map encXp⟩, (resL (resX ks ps N) l (headR ks ps ⟨o, v, nm, sl, sz, ar⟩ ⟨a, b⟩).2).2) := by
            simp only [resX, hl']
          rw [hr]
          by_cases a2 : o = 2
          · refine Tr.dec_yes a2 (Tr.opt_to hp (Tr.dec_yes hkl (Tr.opt_to hp (Tr.opt_to hl' ((Tr.run_yes hg).trans ?_)))))
            simp only [headR, a2, true_or, if_true]
            rfl
          · by_cases a3 : o = 3
            · refine Tr.dec_no a2 (Tr.dec_yes a3 (Tr.opt_to hp (Tr.dec_yes hkl (Tr.opt_to hp (Tr.opt_to hl' ((Tr.run_yes hg).trans ?_))))))
              simp only [headR, a3, or_true, if_true]
              rfl
            · refine Tr.dec_no a2 (Tr.dec_no a3 (Tr.opt_to hp (Tr.opt_to hl' ((Tr.run_yes hg).trans ?_))))
              simp only [headR, a2, a3, or_self, if_false]
              rfl
        · simp at h1
      · exact Tr.fail_some h2
    · exact Tr.fail_some h
end Go.AI.RD

/- resolver.all, in sum. -/
namespace Go.AI.RD
open Go Go.Proofs
set_option maxRecDepth 10000
set_option linter.unusedVariables false
set_option linter.unusedSimpArgs false

theorem ok_rexpr9 : FnOK Tryd.prog gl 36 (rexprT 9) := ok_rexpr 9

/-- Slot, size and marks of a statement's own name. -/
def headQ (ks : List DV) (ps : List Plc) (s : St) (m : Mk) : Plc × Mk :=
  if s.kind = 1 ∨ s.kind = 2 then ((fndR ks ps s.name (decide (s.kind = 2)) m.a m.b).1, ⟨(fndR ks ps s.name (decide (s.kind = 2)) m.a m.b).2.1, (fndR ks ps s.name (decide (s.kind = 2)) m.a m.b).2.2⟩)
  else (⟨s.slot, s.size⟩, m)
def res1 (ks : List DV) (ps : List Plc) (f : List DV → Mk → List St × Mk) (s : St) (m : Mk) : St × Mk :=
  let h := headQ ks ps s m
  let p := resX ks ps 9 s.place h.2
  let v := resX ks ps 9 s.value p.2
  let b := f s.body v.2
  let e := f s.els b.2
  (⟨s.kind, s.name, h.1.slot, h.1.size, p.1, v.1, b.1.map encSt, e.1.map encSt⟩, e.2)
def resQ (g : St → Mk → St × Mk) : List St → Mk → List St × Mk
  | [], m => ([], m)
  | s :: r, m => ((g s m).1 :: (resQ g r (g s m).2).1, (resQ g r (g s m).2).2)
/-- Resolved statements. -/
def resS (ks : List DV) (ps : List Plc) : Nat → List DV → Mk → List St × Mk
  | 0, _, m => ([], m)
  | n + 1, ss, m => match unL unSt ss with
    | some l => resQ (res1 ks ps (resS ks ps n)) l m
    | none => ([], m)

def allT (N : Nat) : FT
  | [.hp 1 0, .d (.sl 18 ss)], [[.mpb .str ks vs], [.mp 0, .d (.bool a), .d (.bool b)]] => .opt (unM vs) fun ps => .br (decide (ks.length = ps.length) && fitS N ss) (.leaf (.d (.sl 18 ((resS ks ps N ss ⟨a, b⟩).1.map encSt)), [[.mpb .str ks vs], [.mp 0, .d (.bool (resS ks ps N ss ⟨a, b⟩).2.a), .d (.bool (resS ks ps N ss ⟨a, b⟩).2.b)]])) .fail
  | _, _ => .fail

noncomputable abbrev Xal (N : Nat) : TX := ⟨Tryd.prog, tbl [(35, findT), (36, (rexprT 9)), (23, allT N)], iso, gl, vw⟩

theorem xok_Xal (N : Nat) (h_all : FnOK Tryd.prog gl 23 (allT N)) (f : Nat) : XOK (Xal N) (ann f) gl := XOK.of base (l := [(35, findT), (36, (rexprT 9)), (23, allT N)]) ⟨ok_find, ok_rexpr9, h_all, trivial⟩ f

def L_all_0 (N : Nat) : ST → Tr (Ex × ST)
  | ⟨[(0, .hp 1 0), (5, .osl 18 out), (9, .d (.sl 18 ss)), (10, .d (.int .i64 m)), (11, .d (.int .i64 n))], [[.mpb .str ks vs], [.mp 0, .d (.bool a), .d (.bool b)]]⟩ => .opt (unM vs) fun ps => .opt (unL unSt ss) fun l => .br (decide (ks.length = ps.length ∧ m = l.length ∧ 0 ≤ n ∧ n ≤ m ∧ m ≤ 100000 ∧ out.length = n.toNat) && l.all (fit1 N)) (.leaf ((.ext 0), ⟨[(5, .osl 18 (out ++ (resQ (res1 ks ps (resS ks ps N)) (l.drop n.toNat) ⟨a, b⟩).1.map encSt))], [[.mpb .str ks vs], [.mp 0, .d (.bool (resQ (res1 ks ps (resS ks ps N)) (l.drop n.toNat) ⟨a, b⟩).2.a), .d (.bool (resQ (res1 ks ps (resS ks ps N)) (l.drop n.toNat) ⟨a, b⟩).2.b)]]⟩)) .fail
  | _ => .fail

def l_all_0 : CC := .seq (.region [
    ⟨.yes, (some 12), .binOp .lss 3 (.tmp 11) (.tmp 10) 3, false, false, []⟩] [0, 5, 9, 10, 11, 12]) <|
  .seq (.cond (.tmp 12)
    (.skip)
    (.exit 0)) <|
  .seq (.block 1 <| .seq (.region [
    ⟨.yes, (some 13), .indexAddr 27 (.tmp 9) (.tmp 11), false, false, []⟩,
    ⟨.yes, (some 14), .load 59 (.tmp 13), false, false, [none, none, none, none, none, none, none, none, none, (some 6), none, none, none, none, none, (some 6), (some 18), (some 18)]⟩,
    ⟨.yes, (some 7), .alloc 59, false, false, []⟩,
    ⟨.yes, none, .store 59 (.tmp 7) (.tmp 14), true, false, []⟩] [0, 5, 7, 9, 10, 11]) <|
  .seq (.seq (.region [
    ⟨.yes, (some 15), .fieldAddr 59 (.tmp 7) 0, false, false, []⟩,
    ⟨.yes, (some 16), .load 3 (.tmp 15), false, false, []⟩,
    ⟨.yes, (some 17), .binOp .eql 3 (.tmp 16) (.const (.int .i64 (1))) 3, false, false, []⟩,
    ⟨.yes, (some 18), .move (.tmp 17), true, false, []⟩,
    ⟨(.on 18 false), (some 19), .fieldAddr 59 (.tmp 7) 0, false, false, []⟩,
    ⟨(.on 18 false), (some 20), .load 3 (.tmp 19), false, false, []⟩,
    ⟨(.on 18 false), (some 21), .binOp .eql 3 (.tmp 20) (.const (.int .i64 (2))) 3, false, false, []⟩,
    ⟨.yes, (some 22), .pick (.tmp 18) (.const (.bool true)) (.tmp 21), false, false, []⟩] [0, 5, 7, 9, 10, 11, 22]) <|
  .cond (.tmp 22)
    (.seq (.region [
      ⟨.yes, (some 23), .move (.tmp 0), false, false, []⟩,
      ⟨.yes, (some 24), .fieldAddr 59 (.tmp 7) 1, false, false, []⟩,
      ⟨.yes, (some 25), .load 9 (.tmp 24), false, false, []⟩,
      ⟨.yes, (some 26), .fieldAddr 59 (.tmp 7) 0, false, false, []⟩,
      ⟨.yes, (some 27), .load 3 (.tmp 26), false, false, []⟩,
      ⟨.yes, (some 28), .binOp .eql 3 (.tmp 27) (.const (.int .i64 (2))) 3, false, false, []⟩,
      ⟨.yes, (some 29), .call ⟨.value (.func 35), #[(.tmp 23), (.tmp 25), (.tmp 28)], #[82, 9, 4]⟩, false, false, []⟩,
      ⟨.yes, (some 8), .alloc 66, false, false, []⟩,
      ⟨.yes, none, .store 66 (.tmp 8) (.tmp 29), true, false, []⟩] [0, 5, 7, 8, 9, 10, 11]) <|
    .drawn ⟨[5, 7], [], [0, 5, 7, 9, 10, 11]⟩ [
      ⟨(some 30), .fieldAddr 66 (.tmp 8) 0, 0, "resolve.go:81", #[], none⟩,
      ⟨(some 31), .load 3 (.tmp 30), 3, "resolve.go:81", #[⟨0, .data⟩], none⟩,
      ⟨(some 32), .fieldAddr 66 (.tmp 8) 1, 0, "resolve.go:81", #[⟨5, .gcOnly .lateStores⟩], none⟩,
      ⟨(some 33), .load 3 (.tmp 32), 3, "resolve.go:81", #[⟨2, .data⟩, ⟨5, .gcOnly .lateStores⟩], none⟩,
      ⟨(some 34), .fieldAddr 59 (.tmp 7) 2, 0, "resolve.go:81", #[⟨0, .phase⟩, ⟨1, .phase⟩, ⟨2, .textOnly .lateStores⟩, ⟨3, .textOnly .lateStores⟩], none⟩,
      ⟨none, .store 3 (.tmp 34) (.tmp 31), 0, "resolve.go:81", #[⟨4, .data⟩, ⟨1, .data⟩, ⟨0, .phase⟩, ⟨1, .phase⟩, ⟨2, .textOnly .lateStores⟩, ⟨3, .textOnly .lateStores⟩], none⟩,
      ⟨(some 35), .fieldAddr 59 (.tmp 7) 3, 0, "resolve.go:81", #[⟨0, .phase⟩, ⟨1, .phase⟩, ⟨2, .phase⟩, ⟨3, .phase⟩, ⟨4, .phase⟩, ⟨5, .phase⟩], none⟩,
      ⟨none, .store 3 (.tmp 35) (.tmp 33), 0, "resolve.go:81", #[⟨6, .data⟩, ⟨3, .data⟩, ⟨5, .chain⟩, ⟨0, .phase⟩, ⟨1, .phase⟩, ⟨2, .phase⟩, ⟨3, .phase⟩, ⟨4, .phase⟩, ⟨5, .phase⟩], none⟩])
    (.skip)) <|
  .seq (.drawn ⟨[9, 11], [], [0, 5, 7, 9, 10, 11]⟩ [
    ⟨(some 36), .move (.tmp 0), 82, "resolve.go:83", #[], none⟩,
    ⟨(some 37), .fieldAddr 59 (.tmp 7) 4, 0, "resolve.go:83", #[], none⟩,
    ⟨(some 38), .load 56 (.tmp 37), 56, "resolve.go:83", #[⟨1, .data⟩], none⟩,
    ⟨(some 39), .call ⟨.value (.func 36), #[(.tmp 36), (.tmp 38)], #[82, 56]⟩, 56, "resolve.go:83", #[⟨0, .data⟩, ⟨2, .data⟩], none⟩,
    ⟨(some 40), .move (.tmp 0), 82, "resolve.go:83", #[], none⟩,
    ⟨(some 41), .fieldAddr 59 (.tmp 7) 5, 0, "resolve.go:83", #[], none⟩,
    ⟨(some 42), .load 56 (.tmp 41), 56, "resolve.go:83", #[⟨5, .data⟩], none⟩,
    ⟨(some 43), .call ⟨.value (.func 36), #[(.tmp 40), (.tmp 42)], #[82, 56]⟩, 56, "resolve.go:83", #[⟨4, .data⟩, ⟨6, .data⟩, ⟨3, .chain⟩], none⟩,
    ⟨(some 44), .fieldAddr 59 (.tmp 7) 4, 0, "resolve.go:83", #[⟨0, .phase⟩, ⟨1, .phase⟩, ⟨2, .phase⟩, ⟨3, .phase⟩, ⟨4, .textOnly .lateStores⟩, ⟨5, .phase⟩, ⟨6, .phase⟩, ⟨7, .textOnly .lateStoresUnsure⟩], none⟩,
    ⟨none, .store 56 (.tmp 44) (.tmp 39), 0, "resolve.go:83", #[⟨8, .data⟩, ⟨3, .data⟩, ⟨7, .chain⟩, ⟨0, .phase⟩, ⟨1, .phase⟩, ⟨2, .phase⟩, ⟨3, .phase⟩, ⟨4, .textOnly .lateStores⟩, ⟨5, .phase⟩, ⟨6, .phase⟩, ⟨7, .textOnly .lateStoresUnsure⟩], none⟩,
    ⟨(some 45), .fieldAddr 59 (.tmp 7) 5, 0, "resolve.go:83", #[⟨0, .phase⟩, ⟨1, .phase⟩, ⟨2, .phase⟩, ⟨3, .phase⟩, ⟨4, .phase⟩, ⟨5, .phase⟩, ⟨6, .phase⟩, ⟨7, .phase⟩, ⟨8, .phase⟩, ⟨9, .phase⟩], none⟩,
    ⟨none, .store 56 (.tmp 45) (.tmp 43), 0, "resolve.go:83", #[⟨10, .data⟩, ⟨7, .data⟩, ⟨9, .chain⟩, ⟨0, .phase⟩, ⟨1, .phase⟩, ⟨2, .phase⟩, ⟨3, .phase⟩, ⟨4, .phase⟩, ⟨5, .phase⟩, ⟨6, .phase⟩, ⟨7, .phase⟩, ⟨8, .phase⟩, ⟨9, .phase⟩], none⟩]) <|
  .seq (.drawn ⟨[9, 11], [], [0, 5, 7, 9, 10, 11]⟩ [
    ⟨(some 46), .move (.tmp 0), 82, "resolve.go:84", #[], none⟩,
    ⟨(some 47), .fieldAddr 59 (.tmp 7) 6, 0, "resolve.go:84", #[], none⟩,
    ⟨(some 48), .load 27 (.tmp 47), 27, "resolve.go:84", #[⟨1, .data⟩], none⟩,
    ⟨(some 49), .call ⟨.value (.func 23), #[(.tmp 46), (.tmp 48)], #[82, 27]⟩, 27, "resolve.go:84", #[⟨0, .data⟩, ⟨2, .data⟩], none⟩,
    ⟨(some 50), .move (.tmp 0), 82, "resolve.go:84", #[], none⟩,
    ⟨(some 51), .fieldAddr 59 (.tmp 7) 7, 0, "resolve.go:84", #[], none⟩,
    ⟨(some 52), .load 27 (.tmp 51), 27, "resolve.go:84", #[⟨5, .data⟩], none⟩,
    ⟨(some 53), .call ⟨.value (.func 23), #[(.tmp 50), (.tmp 52)], #[82, 27]⟩, 27, "resolve.go:84", #[⟨4, .data⟩, ⟨6, .data⟩, ⟨3, .chain⟩], none⟩,
    ⟨(some 54), .fieldAddr 59 (.tmp 7) 6, 0, "resolve.go:84", #[⟨0, .phase⟩, ⟨1, .phase⟩, ⟨2, .phase⟩, ⟨3, .phase⟩, ⟨4, .textOnly .lateStores⟩, ⟨5, .phase⟩, ⟨6, .phase⟩, ⟨7, .textOnly .lateStoresUnsure⟩], none⟩,
    ⟨none, .store 27 (.tmp 54) (.tmp 49), 0, "resolve.go:84", #[⟨8, .data⟩, ⟨3, .data⟩, ⟨7, .chain⟩, ⟨0, .phase⟩, ⟨1, .phase⟩, ⟨2, .phase⟩, ⟨3, .phase⟩, ⟨4, .textOnly .lateStores⟩, ⟨5, .phase⟩, ⟨6, .phase⟩, ⟨7, .textOnly .lateStoresUnsure⟩], none⟩,
    ⟨(some 55), .fieldAddr 59 (.tmp 7) 7, 0, "resolve.go:84", #[⟨0, .phase⟩, ⟨1, .phase⟩, ⟨2, .phase⟩, ⟨3, .phase⟩, ⟨4, .phase⟩, ⟨5, .phase⟩, ⟨6, .phase⟩, ⟨7, .phase⟩, ⟨8, .phase⟩, ⟨9, .phase⟩], none⟩,
    ⟨none, .store 27 (.tmp 55) (.tmp 53), 0, "resolve.go:84", #[⟨10, .data⟩, ⟨7, .data⟩, ⟨9, .chain⟩, ⟨0, .phase⟩, ⟨1, .phase⟩, ⟨2, .phase⟩, ⟨3, .phase⟩, ⟨4, .phase⟩, ⟨5, .phase⟩, ⟨6, .phase⟩, ⟨7, .phase⟩, ⟨8, .phase⟩, ⟨9, .phase⟩], none⟩]) <|
  .region [
    ⟨.yes, (some 56), .move (.tmp 5), true, false, [(some 18)]⟩,
    ⟨.yes, (some 57), .load 59 (.tmp 7), false, false, [none, none, none, none, none, none, none, none, none, (some 6), none, none, none, none, none, (some 6), (some 18), (some 18)]⟩,
    ⟨.yes, (some 58), .buildSlice 27 1 #[(0, (.tmp 57))], false, false, [(some 18)]⟩,
    ⟨.yes, (some 59), .call ⟨.builtin .append, #[(.tmp 56), (.tmp 58)], #[27, 27]⟩, true, false, [(some 18)]⟩,
    ⟨.yes, (some 5), .assign (.tmp 59), true, false, [(some 18)]⟩] [0, 5, 9, 10, 11]) <|
  .region [
    ⟨.yes, (some 60), .binOp .add 3 (.tmp 11) (.const (.int .i64 (1))) 3, false, false, []⟩,
    ⟨.yes, (some 11), .move (.tmp 60), true, false, []⟩] [0, 5, 9, 10, 11]

def c_all (N : Nat) : CC := .seq (.region [
    ⟨.yes, (some 4), .assign (.const (.slice none 0 0)), false, false, [(some 18)]⟩] [0, 1]) <|
  .seq (.region [
    ⟨.yes, (some 5), .assign (.const (.slice none 0 0)), false, false, [(some 18)]⟩] [0, 1, 5]) <|
  .seq (.seq (.region [
    ⟨.yes, (some 9), .move (.tmp 1), true, false, [(some 18)]⟩,
    ⟨.yes, (some 10), .call ⟨.builtin .len, #[(.tmp 9)], #[27]⟩, false, false, []⟩,
    ⟨.yes, (some 11), .move (.const (.int .i64 (0))), false, false, []⟩] [0, 5, 9, 10, 11]) <|
  .block 0 <| .keep [0, 5, 9, 10, 11] <| .sum (L_all_0 N) (.loop l_all_0)) <|
  .seq (.region [
    ⟨.yes, (some 61), .move (.tmp 5), true, false, [(some 18)]⟩,
    ⟨.yes, (some 4), .assign (.tmp 61), true, false, [(some 18)]⟩] [4]) <|
  .ret

theorem c_all_eq (N : Nat) : ∃ c, Tryd.f23.body = some c ∧ codeOK Tryd.f23.ntmps c = true ∧ comp Tryd.prog (ann 23) c = erase (c_all N) := ⟨_, rfl, by kernel_rfl, by kernel_rfl⟩

theorem body_all_0 (N : Nat) (ss : List DV) (ks : List DV) (vs : List AV) (a b : Bool) (out : List DV) (m n : Int) : bodyT (Xal N) [0, 5, 9, 10, 11] [4] [(0, [5])] l_all_0 ⟨[(0, .hp 1 0), (5, .osl 18 out), (9, .d (.sl 18 ss)), (10, .d (.int .i64 m)), (11, .d (.int .i64 n))], [[.mpb .str ks vs], [.mp 0, .d (.bool a), .d (.bool b)]]⟩ = (
    .br (decide (n < m))
 (.br (decide ((0 : Int) ≤ n))
 (.opt ((ss[(Int.toNat n)]?).bind unSt) fun y1 => .br (decide (y1.kind = 1))
 (.opt (unM vs) fun ps2 => .br (decide (ks.length = ps2.length))
 (.opt (unM vs) fun ps4 => .br (decide (ks.length = ps4.length) && fitX 9 ⟨y1.place.op, y1.place.value, y1.place.name, y1.place.slot, y1.place.size, y1.place.args⟩)
 (.opt (unM vs) fun ps5 => .br (decide (ks.length = ps5.length) && fitX 9 ⟨y1.value.op, y1.value.value, y1.value.name, y1.value.slot, y1.value.size, y1.value.args⟩)
 (.opt (unM vs) fun ps6 => .br (decide (ks.length = ps6.length) && fitS N y1.body)
 (.opt (unM vs) fun ps7 => .br (decide (ks.length = ps7.length) && fitS N y1.els)
 (.br (decide ((out.length + ([(.agg [.int .i64 y1.kind, .str y1.name, .int .i64 ((fndR ks ps2 y1.name (decide (y1.kind = 2)) a b).1.slot), .int .i64 ((fndR ks ps2 y1.name (decide (y1.kind = 2)) a b).1.size), .int .i64 (((resX ks ps4 9 ⟨y1.place.op, y1.place.value, y1.place.name, y1.place.slot, y1.place.size, y1.place.args⟩ ⟨((fndR ks ps2 y1.name (decide (y1.kind = 2)) a b).2.1), ((fndR ks ps2 y1.name (decide (y1.kind = 2)) a b).2.2)⟩).1).op), .int .i64 (((resX ks ps4 9 ⟨y1.place.op, y1.place.value, y1.place.name, y1.place.slot, y1.place.size, y1.place.args⟩ ⟨((fndR ks ps2 y1.name (decide (y1.kind = 2)) a b).2.1), ((fndR ks ps2 y1.name (decide (y1.kind = 2)) a b).2.2)⟩).1).value), .str (((resX ks ps4 9 ⟨y1.place.op, y1.place.value, y1.place.name, y1.place.slot, y1.place.size, y1.place.args⟩ ⟨((fndR ks ps2 y1.name (decide (y1.kind = 2)) a b).2.1), ((fndR ks ps2 y1.name (decide (y1.kind = 2)) a b).2.2)⟩).1).name), .int .i64 (((resX ks ps4 9 ⟨y1.place.op, y1.place.value, y1.place.name, y1.place.slot, y1.place.size, y1.place.args⟩ ⟨((fndR ks ps2 y1.name (decide (y1.kind = 2)) a b).2.1), ((fndR ks ps2 y1.name (decide (y1.kind = 2)) a b).2.2)⟩).1).slot), .int .i64 (((resX ks ps4 9 ⟨y1.place.op, y1.place.value, y1.place.name, y1.place.slot, y1.place.size, y1.place.args⟩ ⟨((fndR ks ps2 y1.name (decide (y1.kind = 2)) a b).2.1), ((fndR ks ps2 y1.name (decide (y1.kind = 2)) a b).2.2)⟩).1).size), .sl 6 (((resX ks ps4 9 ⟨y1.place.op, y1.place.value, y1.place.name, y1.place.slot, y1.place.size, y1.place.args⟩ ⟨((fndR ks ps2 y1.name (decide (y1.kind = 2)) a b).2.1), ((fndR ks ps2 y1.name (decide (y1.kind = 2)) a b).2.2)⟩).1).args), .int .i64 (((resX ks ps5 9 ⟨y1.value.op, y1.value.value, y1.value.name, y1.value.slot, y1.value.size, y1.value.args⟩ ⟨((resX ks ps4 9 ⟨y1.place.op, y1.place.value, y1.place.name, y1.place.slot, y1.place.size, y1.place.args⟩ ⟨((fndR ks ps2 y1.name (decide (y1.kind = 2)) a b).2.1), ((fndR ks ps2 y1.name (decide (y1.kind = 2)) a b).2.2)⟩).2.a), ((resX ks ps4 9 ⟨y1.place.op, y1.place.value, y1.place.name, y1.place.slot, y1.place.size, y1.place.args⟩ ⟨((fndR ks ps2 y1.name (decide (y1.kind = 2)) a b).2.1), ((fndR ks ps2 y1.name (decide (y1.kind = 2)) a b).2.2)⟩).2.b)⟩).1).op), .int .i64 (((resX ks ps5 9 ⟨y1.value.op, y1.value.value, y1.value.name, y1.value.slot, y1.value.size, y1.value.args⟩ ⟨((resX ks ps4 9 ⟨y1.place.op, y1.place.value, y1.place.name, y1.place.slot, y1.place.size, y1.place.args⟩ ⟨((fndR ks ps2 y1.name (decide (y1.kind = 2)) a b).2.1), ((fndR ks ps2 y1.name (decide (y1.kind = 2)) a b).2.2)⟩).2.a), ((resX ks ps4 9 ⟨y1.place.op, y1.place.value, y1.place.name, y1.place.slot, y1.place.size, y1.place.args⟩ ⟨((fndR ks ps2 y1.name (decide (y1.kind = 2)) a b).2.1), ((fndR ks ps2 y1.name (decide (y1.kind = 2)) a b).2.2)⟩).2.b)⟩).1).value), .str (((resX ks ps5 9 ⟨y1.value.op, y1.value.value, y1.value.name, y1.value.slot, y1.value.size, y1.value.args⟩ ⟨((resX ks ps4 9 ⟨y1.place.op, y1.place.value, y1.place.name, y1.place.slot, y1.place.size, y1.place.args⟩ ⟨((fndR ks ps2 y1.name (decide (y1.kind = 2)) a b).2.1), ((fndR ks ps2 y1.name (decide (y1.kind = 2)) a b).2.2)⟩).2.a), ((resX ks ps4 9 ⟨y1.place.op, y1.place.value, y1.place.name, y1.place.slot, y1.place.size, y1.place.args⟩ ⟨((fndR ks ps2 y1.name (decide (y1.kind = 2)) a b).2.1), ((fndR ks ps2 y1.name (decide (y1.kind = 2)) a b).2.2)⟩).2.b)⟩).1).name), .int .i64 (((resX ks ps5 9 ⟨y1.value.op, y1.value.value, y1.value.name, y1.value.slot, y1.value.size, y1.value.args⟩ ⟨((resX ks ps4 9 ⟨y1.place.op, y1.place.value, y1.place.name, y1.place.slot, y1.place.size, y1.place.args⟩ ⟨((fndR ks ps2 y1.name (decide (y1.kind = 2)) a b).2.1), ((fndR ks ps2 y1.name (decide (y1.kind = 2)) a b).2.2)⟩).2.a), ((resX ks ps4 9 ⟨y1.place.op, y1.place.value, y1.place.name, y1.place.slot, y1.place.size, y1.place.args⟩ ⟨((fndR ks ps2 y1.name (decide (y1.kind = 2)) a b).2.1), ((fndR ks ps2 y1.name (decide (y1.kind = 2)) a b).2.2)⟩).2.b)⟩).1).slot), .int .i64 (((resX ks ps5 9 ⟨y1.value.op, y1.value.value, y1.value.name, y1.value.slot, y1.value.size, y1.value.args⟩ ⟨((resX ks ps4 9 ⟨y1.place.op, y1.place.value, y1.place.name, y1.place.slot, y1.place.size, y1.place.args⟩ ⟨((fndR ks ps2 y1.name (decide (y1.kind = 2)) a b).2.1), ((fndR ks ps2 y1.name (decide (y1.kind = 2)) a b).2.2)⟩).2.a), ((resX ks ps4 9 ⟨y1.place.op, y1.place.value, y1.place.name, y1.place.slot, y1.place.size, y1.place.args⟩ ⟨((fndR ks ps2 y1.name (decide (y1.kind = 2)) a b).2.1), ((fndR ks ps2 y1.name (decide (y1.kind = 2)) a b).2.2)⟩).2.b)⟩).1).size), .sl 6 (((resX ks ps5 9 ⟨y1.value.op, y1.value.value, y1.value.name, y1.value.slot, y1.value.size, y1.value.args⟩ ⟨((resX ks ps4 9 ⟨y1.place.op, y1.place.value, y1.place.name, y1.place.slot, y1.place.size, y1.place.args⟩ ⟨((fndR ks ps2 y1.name (decide (y1.kind = 2)) a b).2.1), ((fndR ks ps2 y1.name (decide (y1.kind = 2)) a b).2.2)⟩).2.a), ((resX ks ps4 9 ⟨y1.place.op, y1.place.value, y1.place.name, y1.place.slot, y1.place.size, y1.place.args⟩ ⟨((fndR ks ps2 y1.name (decide (y1.kind = 2)) a b).2.1), ((fndR ks ps2 y1.name (decide (y1.kind = 2)) a b).2.2)⟩).2.b)⟩).1).args), .sl 18 ((resS ks ps6 N y1.body ⟨((resX ks ps5 9 ⟨y1.value.op, y1.value.value, y1.value.name, y1.value.slot, y1.value.size, y1.value.args⟩ ⟨((resX ks ps4 9 ⟨y1.place.op, y1.place.value, y1.place.name, y1.place.slot, y1.place.size, y1.place.args⟩ ⟨((fndR ks ps2 y1.name (decide (y1.kind = 2)) a b).2.1), ((fndR ks ps2 y1.name (decide (y1.kind = 2)) a b).2.2)⟩).2.a), ((resX ks ps4 9 ⟨y1.place.op, y1.place.value, y1.place.name, y1.place.slot, y1.place.size, y1.place.args⟩ ⟨((fndR ks ps2 y1.name (decide (y1.kind = 2)) a b).2.1), ((fndR ks ps2 y1.name (decide (y1.kind = 2)) a b).2.2)⟩).2.b)⟩).2.a), ((resX ks ps5 9 ⟨y1.value.op, y1.value.value, y1.value.name, y1.value.slot, y1.value.size, y1.value.args⟩ ⟨((resX ks ps4 9 ⟨y1.place.op, y1.place.value, y1.place.name, y1.place.slot, y1.place.size, y1.place.args⟩ ⟨((fndR ks ps2 y1.name (decide (y1.kind = 2)) a b).2.1), ((fndR ks ps2 y1.name (decide (y1.kind = 2)) a b).2.2)⟩).2.a), ((resX ks ps4 9 ⟨y1.place.op, y1.place.value, y1.place.name, y1.place.slot, y1.place.size, y1.place.args⟩ ⟨((fndR ks ps2 y1.name (decide (y1.kind = 2)) a b).2.1), ((fndR ks ps2 y1.name (decide (y1.kind = 2)) a b).2.2)⟩).2.b)⟩).2.b)⟩).1.map encSt), .sl 18 ((resS ks ps7 N y1.els ⟨((resS ks ps6 N y1.body ⟨((resX ks ps5 9 ⟨y1.value.op, y1.value.value, y1.value.name, y1.value.slot, y1.value.size, y1.value.args⟩ ⟨((resX ks ps4 9 ⟨y1.place.op, y1.place.value, y1.place.name, y1.place.slot, y1.place.size, y1.place.args⟩ ⟨((fndR ks ps2 y1.name (decide (y1.kind = 2)) a b).2.1), ((fndR ks ps2 y1.name (decide (y1.kind = 2)) a b).2.2)⟩).2.a), ((resX ks ps4 9 ⟨y1.place.op, y1.place.value, y1.place.name, y1.place.slot, y1.place.size, y1.place.args⟩ ⟨((fndR ks ps2 y1.name (decide (y1.kind = 2)) a b).2.1), ((fndR ks ps2 y1.name (decide (y1.kind = 2)) a b).2.2)⟩).2.b)⟩).2.a), ((resX ks ps5 9 ⟨y1.value.op, y1.value.value, y1.value.name, y1.value.slot, y1.value.size, y1.value.args⟩ ⟨((resX ks ps4 9 ⟨y1.place.op, y1.place.value, y1.place.name, y1.place.slot, y1.place.size, y1.place.args⟩ ⟨((fndR ks ps2 y1.name (decide (y1.kind = 2)) a b).2.1), ((fndR ks ps2 y1.name (decide (y1.kind = 2)) a b).2.2)⟩).2.a), ((resX ks ps4 9 ⟨y1.place.op, y1.place.value, y1.place.name, y1.place.slot, y1.place.size, y1.place.args⟩ ⟨((fndR ks ps2 y1.name (decide (y1.kind = 2)) a b).2.1), ((fndR ks ps2 y1.name (decide (y1.kind = 2)) a b).2.2)⟩).2.b)⟩).2.b)⟩).2.a), ((resS ks ps6 N y1.body ⟨((resX ks ps5 9 ⟨y1.value.op, y1.value.value, y1.value.name, y1.value.slot, y1.value.size, y1.value.args⟩ ⟨((resX ks ps4 9 ⟨y1.place.op, y1.place.value, y1.place.name, y1.place.slot, y1.place.size, y1.place.args⟩ ⟨((fndR ks ps2 y1.name (decide (y1.kind = 2)) a b).2.1), ((fndR ks ps2 y1.name (decide (y1.kind = 2)) a b).2.2)⟩).2.a), ((resX ks ps4 9 ⟨y1.place.op, y1.place.value, y1.place.name, y1.place.slot, y1.place.size, y1.place.args⟩ ⟨((fndR ks ps2 y1.name (decide (y1.kind = 2)) a b).2.1), ((fndR ks ps2 y1.name (decide (y1.kind = 2)) a b).2.2)⟩).2.b)⟩).2.a), ((resX ks ps5 9 ⟨y1.value.op, y1.value.value, y1.value.name, y1.value.slot, y1.value.size, y1.value.args⟩ ⟨((resX ks ps4 9 ⟨y1.place.op, y1.place.value, y1.place.name, y1.place.slot, y1.place.size, y1.place.args⟩ ⟨((fndR ks ps2 y1.name (decide (y1.kind = 2)) a b).2.1), ((fndR ks ps2 y1.name (decide (y1.kind = 2)) a b).2.2)⟩).2.a), ((resX ks ps4 9 ⟨y1.place.op, y1.place.value, y1.place.name, y1.place.slot, y1.place.size, y1.place.args⟩ ⟨((fndR ks ps2 y1.name (decide (y1.kind = 2)) a b).2.1), ((fndR ks ps2 y1.name (decide (y1.kind = 2)) a b).2.2)⟩).2.b)⟩).2.b)⟩).2.b)⟩).1.map encSt)])] : List DV).length) * 232 ≤ 70368744177664))
 (.leaf (.nrm, ⟨[(0, .hp 1 0), (5, .osl 18 (out ++ [(.agg [.int .i64 y1.kind, .str y1.name, .int .i64 ((fndR ks ps2 y1.name (decide (y1.kind = 2)) a b).1.slot), .int .i64 ((fndR ks ps2 y1.name (decide (y1.kind = 2)) a b).1.size), .int .i64 (((resX ks ps4 9 ⟨y1.place.op, y1.place.value, y1.place.name, y1.place.slot, y1.place.size, y1.place.args⟩ ⟨((fndR ks ps2 y1.name (decide (y1.kind = 2)) a b).2.1), ((fndR ks ps2 y1.name (decide (y1.kind = 2)) a b).2.2)⟩).1).op), .int .i64 (((resX ks ps4 9 ⟨y1.place.op, y1.place.value, y1.place.name, y1.place.slot, y1.place.size, y1.place.args⟩ ⟨((fndR ks ps2 y1.name (decide (y1.kind = 2)) a b).2.1), ((fndR ks ps2 y1.name (decide (y1.kind = 2)) a b).2.2)⟩).1).value), .str (((resX ks ps4 9 ⟨y1.place.op, y1.place.value, y1.place.name, y1.place.slot, y1.place.size, y1.place.args⟩ ⟨((fndR ks ps2 y1.name (decide (y1.kind = 2)) a b).2.1), ((fndR ks ps2 y1.name (decide (y1.kind = 2)) a b).2.2)⟩).1).name), .int .i64 (((resX ks ps4 9 ⟨y1.place.op, y1.place.value, y1.place.name, y1.place.slot, y1.place.size, y1.place.args⟩ ⟨((fndR ks ps2 y1.name (decide (y1.kind = 2)) a b).2.1), ((fndR ks ps2 y1.name (decide (y1.kind = 2)) a b).2.2)⟩).1).slot), .int .i64 (((resX ks ps4 9 ⟨y1.place.op, y1.place.value, y1.place.name, y1.place.slot, y1.place.size, y1.place.args⟩ ⟨((fndR ks ps2 y1.name (decide (y1.kind = 2)) a b).2.1), ((fndR ks ps2 y1.name (decide (y1.kind = 2)) a b).2.2)⟩).1).size), .sl 6 (((resX ks ps4 9 ⟨y1.place.op, y1.place.value, y1.place.name, y1.place.slot, y1.place.size, y1.place.args⟩ ⟨((fndR ks ps2 y1.name (decide (y1.kind = 2)) a b).2.1), ((fndR ks ps2 y1.name (decide (y1.kind = 2)) a b).2.2)⟩).1).args), .int .i64 (((resX ks ps5 9 ⟨y1.value.op, y1.value.value, y1.value.name, y1.value.slot, y1.value.size, y1.value.args⟩ ⟨((resX ks ps4 9 ⟨y1.place.op, y1.place.value, y1.place.name, y1.place.slot, y1.place.size, y1.place.args⟩ ⟨((fndR ks ps2 y1.name (decide (y1.kind = 2)) a b).2.1), ((fndR ks ps2 y1.name (decide (y1.kind = 2)) a b).2.2)⟩).2.a), ((resX ks ps4 9 ⟨y1.place.op, y1.place.value, y1.place.name, y1.place.slot, y1.place.size, y1.place.args⟩ ⟨((fndR ks ps2 y1.name (decide (y1.kind = 2)) a b).2.1), ((fndR ks ps2 y1.name (decide (y1.kind = 2)) a b).2.2)⟩).2.b)⟩).1).op), .int .i64 (((resX ks ps5 9 ⟨y1.value.op, y1.value.value, y1.value.name, y1.value.slot, y1.value.size, y1.value.args⟩ ⟨((resX ks ps4 9 ⟨y1.place.op, y1.place.value, y1.place.name, y1.place.slot, y1.place.size, y1.place.args⟩ ⟨((fndR ks ps2 y1.name (decide (y1.kind = 2)) a b).2.1), ((fndR ks ps2 y1.name (decide (y1.kind = 2)) a b).2.2)⟩).2.a), ((resX ks ps4 9 ⟨y1.place.op, y1.place.value, y1.place.name, y1.place.slot, y1.place.size, y1.place.args⟩ ⟨((fndR ks ps2 y1.name (decide (y1.kind = 2)) a b).2.1), ((fndR ks ps2 y1.name (decide (y1.kind = 2)) a b).2.2)⟩).2.b)⟩).1).value), .str (((resX ks ps5 9 ⟨y1.value.op, y1.value.value, y1.value.name, y1.value.slot, y1.value.size, y1.value.args⟩ ⟨((resX ks ps4 9 ⟨y1.place.op, y1.place.value, y1.place.name, y1.place.slot, y1.place.size, y1.place.args⟩ ⟨((fndR ks ps2 y1.name (decide (y1.kind = 2)) a b).2.1), ((fndR ks ps2 y1.name (decide (y1.kind = 2)) a b).2.2)⟩).2.a), ((resX ks ps4 9 ⟨y1.place.op, y1.place.value, y1.place.name, y1.place.slot, y1.place.size, y1.place.args⟩ ⟨((fndR ks ps2 y1.name (decide (y1.kind = 2)) a b).2.1), ((fndR ks ps2 y1.name (decide (y1.kind = 2)) a b).2.2)⟩).2.b)⟩).1).name), .int .i64 (((resX ks ps5 9 ⟨y1.value.op, y1.value.value, y1.value.name, y1.value.slot, y1.value.size, y1.value.args⟩ ⟨((resX ks ps4 9 ⟨y1.place.op, y1.place.value, y1.place.name, y1.place.slot, y1.place.size, y1.place.args⟩ ⟨((fndR ks ps2 y1.name (decide (y1.kind = 2)) a b).2.1), ((fndR ks ps2 y1.name (decide (y1.kind = 2)) a b).2.2)⟩).2.a), ((resX ks ps4 9 ⟨y1.place.op, y1.place.value, y1.place.name, y1.place.slot, y1.place.size, y1.place.args⟩ ⟨((fndR ks ps2 y1.name (decide (y1.kind = 2)) a b).2.1), ((fndR ks ps2 y1.name (decide (y1.kind = 2)) a b).2.2)⟩).2.b)⟩).1).slot), .int .i64 (((resX ks ps5 9 ⟨y1.value.op, y1.value.value, y1.value.name, y1.value.slot, y1.value.size, y1.value.args⟩ ⟨((resX ks ps4 9 ⟨y1.place.op, y1.place.value, y1.place.name, y1.place.slot, y1.place.size, y1.place.args⟩ ⟨((fndR ks ps2 y1.name (decide (y1.kind = 2)) a b).2.1), ((fndR ks ps2 y1.name (decide (y1.kind = 2)) a b).2.2)⟩).2.a), ((resX ks ps4 9 ⟨y1.place.op, y1.place.value, y1.place.name, y1.place.slot, y1.place.size, y1.place.args⟩ ⟨((fndR ks ps2 y1.name (decide (y1.kind = 2)) a b).2.1), ((fndR ks ps2 y1.name (decide (y1.kind = 2)) a b).2.2)⟩).2.b)⟩).1).size), .sl 6 (((resX ks ps5 9 ⟨y1.value.op, y1.value.value, y1.value.name, y1.value.slot, y1.value.size, y1.value.args⟩ ⟨((resX ks ps4 9 ⟨y1.place.op, y1.place.value, y1.place.name, y1.place.slot, y1.place.size, y1.place.args⟩ ⟨((fndR ks ps2 y1.name (decide (y1.kind = 2)) a b).2.1), ((fndR ks ps2 y1.name (decide (y1.kind = 2)) a b).2.2)⟩).2.a), ((resX ks ps4 9 ⟨y1.place.op, y1.place.value, y1.place.name, y1.place.slot, y1.place.size, y1.place.args⟩ ⟨((fndR ks ps2 y1.name (decide (y1.kind = 2)) a b).2.1), ((fndR ks ps2 y1.name (decide (y1.kind = 2)) a b).2.2)⟩).2.b)⟩).1).args), .sl 18 ((resS ks ps6 N y1.body ⟨((resX ks ps5 9 ⟨y1.value.op, y1.value.value, y1.value.name, y1.value.slot, y1.value.size, y1.value.args⟩ ⟨((resX ks ps4 9 ⟨y1.place.op, y1.place.value, y1.place.name, y1.place.slot, y1.place.size, y1.place.args⟩ ⟨((fndR ks ps2 y1.name (decide (y1.kind = 2)) a b).2.1), ((fndR ks ps2 y1.name (decide (y1.kind = 2)) a b).2.2)⟩).2.a), ((resX ks ps4 9 ⟨y1.place.op, y1.place.value, y1.place.name, y1.place.slot, y1.place.size, y1.place.args⟩ ⟨((fndR ks ps2 y1.name (decide (y1.kind = 2)) a b).2.1), ((fndR ks ps2 y1.name (decide (y1.kind = 2)) a b).2.2)⟩).2.b)⟩).2.a), ((resX ks ps5 9 ⟨y1.value.op, y1.value.value, y1.value.name, y1.value.slot, y1.value.size, y1.value.args⟩ ⟨((resX ks ps4 9 ⟨y1.place.op, y1.place.value, y1.place.name, y1.place.slot, y1.place.size, y1.place.args⟩ ⟨((fndR ks ps2 y1.name (decide (y1.kind = 2)) a b).2.1), ((fndR ks ps2 y1.name (decide (y1.kind = 2)) a b).2.2)⟩).2.a), ((resX ks ps4 9 ⟨y1.place.op, y1.place.value, y1.place.name, y1.place.slot, y1.place.size, y1.place.args⟩ ⟨((fndR ks ps2 y1.name (decide (y1.kind = 2)) a b).2.1), ((fndR ks ps2 y1.name (decide (y1.kind = 2)) a b).2.2)⟩).2.b)⟩).2.b)⟩).1.map encSt), .sl 18 ((resS ks ps7 N y1.els ⟨((resS ks ps6 N y1.body ⟨((resX ks ps5 9 ⟨y1.value.op, y1.value.value, y1.value.name, y1.value.slot, y1.value.size, y1.value.args⟩ ⟨((resX ks ps4 9 ⟨y1.place.op, y1.place.value, y1.place.name, y1.place.slot, y1.place.size, y1.place.args⟩ ⟨((fndR ks ps2 y1.name (decide (y1.kind = 2)) a b).2.1), ((fndR ks ps2 y1.name (decide (y1.kind = 2)) a b).2.2)⟩).2.a), ((resX ks ps4 9 ⟨y1.place.op, y1.place.value, y1.place.name, y1.place.slot, y1.place.size, y1.place.args⟩ ⟨((fndR ks ps2 y1.name (decide (y1.kind = 2)) a b).2.1), ((fndR ks ps2 y1.name (decide (y1.kind = 2)) a b).2.2)⟩).2.b)⟩).2.a), ((resX ks ps5 9 ⟨y1.value.op, y1.value.value, y1.value.name, y1.value.slot, y1.value.size, y1.value.args⟩ ⟨((resX ks ps4 9 ⟨y1.place.op, y1.place.value, y1.place.name, y1.place.slot, y1.place.size, y1.place.args⟩ ⟨((fndR ks ps2 y1.name (decide (y1.kind = 2)) a b).2.1), ((fndR ks ps2 y1.name (decide (y1.kind = 2)) a b).2.2)⟩).2.a), ((resX ks ps4 9 ⟨y1.place.op, y1.place.value, y1.place.name, y1.place.slot, y1.place.size, y1.place.args⟩ ⟨((fndR ks ps2 y1.name (decide (y1.kind = 2)) a b).2.1), ((fndR ks ps2 y1.name (decide (y1.kind = 2)) a b).2.2)⟩).2.b)⟩).2.b)⟩).2.a), ((resS ks ps6 N y1.body ⟨((resX ks ps5 9 ⟨y1.value.op, y1.value.value, y1.value.name, y1.value.slot, y1.value.size, y1.value.args⟩ ⟨((resX ks ps4 9 ⟨y1.place.op, y1.place.value, y1.place.name, y1.place.slot, y1.place.size, y1.place.args⟩ ⟨((fndR ks ps2 y1.name (decide (y1.kind = 2)) a b).2.1), ((fndR ks ps2 y1.name (decide (y1.kind = 2)) a b).2.2)⟩).2.a), ((resX ks ps4 9 ⟨y1.place.op, y1.place.value, y1.place.name, y1.place.slot, y1.place.size, y1.place.args⟩ ⟨((fndR ks ps2 y1.name (decide (y1.kind = 2)) a b).2.1), ((fndR ks ps2 y1.name (decide (y1.kind = 2)) a b).2.2)⟩).2.b)⟩).2.a), ((resX ks ps5 9 ⟨y1.value.op, y1.value.value, y1.value.name, y1.value.slot, y1.value.size, y1.value.args⟩ ⟨((resX ks ps4 9 ⟨y1.place.op, y1.place.value, y1.place.name, y1.place.slot, y1.place.size, y1.place.args⟩ ⟨((fndR ks ps2 y1.name (decide (y1.kind = 2)) a b).2.1), ((fndR ks ps2 y1.name (decide (y1.kind = 2)) a b).2.2)⟩).2.a), ((resX ks ps4 9 ⟨y1.place.op, y1.place.value, y1.place.name, y1.place.slot, y1.place.size, y1.place.args⟩ ⟨((fndR ks ps2 y1.name (decide (y1.kind = 2)) a b).2.1), ((fndR ks ps2 y1.name (decide (y1.kind = 2)) a b).2.2)⟩).2.b)⟩).2.b)⟩).2.b)⟩).1.map encSt)])])), (9, .d (.sl 18 ss)), (10, .d (.int .i64 m)), (11, .d (.int .i64 (IntKind.i64.wrap (n + 1))))], [[.mpb .str ks vs], [.mp 0, .d (.bool ((resS ks ps7 N y1.els ⟨((resS ks ps6 N y1.body ⟨((resX ks ps5 9 ⟨y1.value.op, y1.value.value, y1.value.name, y1.value.slot, y1.value.size, y1.value.args⟩ ⟨((resX ks ps4 9 ⟨y1.place.op, y1.place.value, y1.place.name, y1.place.slot, y1.place.size, y1.place.args⟩ ⟨((fndR ks ps2 y1.name (decide (y1.kind = 2)) a b).2.1), ((fndR ks ps2 y1.name (decide (y1.kind = 2)) a b).2.2)⟩).2.a), ((resX ks ps4 9 ⟨y1.place.op, y1.place.value, y1.place.name, y1.place.slot, y1.place.size, y1.place.args⟩ ⟨((fndR ks ps2 y1.name (decide (y1.kind = 2)) a b).2.1), ((fndR ks ps2 y1.name (decide (y1.kind = 2)) a b).2.2)⟩).2.b)⟩).2.a), ((resX ks ps5 9 ⟨y1.value.op, y1.value.value, y1.value.name, y1.value.slot, y1.value.size, y1.value.args⟩ ⟨((resX ks ps4 9 ⟨y1.place.op, y1.place.value, y1.place.name, y1.place.slot, y1.place.size, y1.place.args⟩ ⟨((fndR ks ps2 y1.name (decide (y1.kind = 2)) a b).2.1), ((fndR ks ps2 y1.name (decide (y1.kind = 2)) a b).2.2)⟩).2.a), ((resX ks ps4 9 ⟨y1.place.op, y1.place.value, y1.place.name, y1.place.slot, y1.place.size, y1.place.args⟩ ⟨((fndR ks ps2 y1.name (decide (y1.kind = 2)) a b).2.1), ((fndR ks ps2 y1.name (decide (y1.kind = 2)) a b).2.2)⟩).2.b)⟩).2.b)⟩).2.a), ((resS ks ps6 N y1.body ⟨((resX ks ps5 9 ⟨y1.value.op, y1.value.value, y1.value.name, y1.value.slot, y1.value.size, y1.value.args⟩ ⟨((resX ks ps4 9 ⟨y1.place.op, y1.place.value, y1.place.name, y1.place.slot, y1.place.size, y1.place.args⟩ ⟨((fndR ks ps2 y1.name (decide (y1.kind = 2)) a b).2.1), ((fndR ks ps2 y1.name (decide (y1.kind = 2)) a b).2.2)⟩).2.a), ((resX ks ps4 9 ⟨y1.place.op, y1.place.value, y1.place.name, y1.place.slot, y1.place.size, y1.place.args⟩ ⟨((fndR ks ps2 y1.name (decide (y1.kind = 2)) a b).2.1), ((fndR ks ps2 y1.name (decide (y1.kind = 2)) a b).2.2)⟩).2.b)⟩).2.a), ((resX ks ps5 9 ⟨y1.value.op, y1.value.value, y1.value.name, y1.value.slot, y1.value.size, y1.value.args⟩ ⟨((resX ks ps4 9 ⟨y1.place.op, y1.place.value, y1.place.name, y1.place.slot, y1.place.size, y1.place.args⟩ ⟨((fndR ks ps2 y1.name (decide (y1.kind = 2)) a b).2.1), ((fndR ks ps2 y1.name (decide (y1.kind = 2)) a b).2.2)⟩).2.a), ((resX ks ps4 9 ⟨y1.place.op, y1.place.value, y1.place.name, y1.place.slot, y1.place.size, y1.place.args⟩ ⟨((fndR ks ps2 y1.name (decide (y1.kind = 2)) a b).2.1), ((fndR ks ps2 y1.name (decide (y1.kind = 2)) a b).2.2)⟩).2.b)⟩).2.b)⟩).2.b)⟩).2.a)), .d (.bool ((resS ks ps7 N y1.els ⟨((resS ks ps6 N y1.body ⟨((resX ks ps5 9 ⟨y1.value.op, y1.value.value, y1.value.name, y1.value.slot, y1.value.size, y1.value.args⟩ ⟨((resX ks ps4 9 ⟨y1.place.op, y1.place.value, y1.place.name, y1.place.slot, y1.place.size, y1.place.args⟩ ⟨((fndR ks ps2 y1.name (decide (y1.kind = 2)) a b).2.1), ((fndR ks ps2 y1.name (decide (y1.kind = 2)) a b).2.2)⟩).2.a), ((resX ks ps4 9 ⟨y1.place.op, y1.place.value, y1.place.name, y1.place.slot, y1.place.size, y1.place.args⟩ ⟨((fndR ks ps2 y1.name (decide (y1.kind = 2)) a b).2.1), ((fndR ks ps2 y1.name (decide (y1.kind = 2)) a b).2.2)⟩).2.b)⟩).2.a), ((resX ks ps5 9 ⟨y1.value.op, y1.value.value, y1.value.name, y1.value.slot, y1.value.size, y1.value.args⟩ ⟨((resX ks ps4 9 ⟨y1.place.op, y1.place.value, y1.place.name, y1.place.slot, y1.place.size, y1.place.args⟩ ⟨((fndR ks ps2 y1.name (decide (y1.kind = 2)) a b).2.1), ((fndR ks ps2 y1.name (decide (y1.kind = 2)) a b).2.2)⟩).2.a), ((resX ks ps4 9 ⟨y1.place.op, y1.place.value, y1.place.name, y1.place.slot, y1.place.size, y1.place.args⟩ ⟨((fndR ks ps2 y1.name (decide (y1.kind = 2)) a b).2.1), ((fndR ks ps2 y1.name (decide (y1.kind = 2)) a b).2.2)⟩).2.b)⟩).2.b)⟩).2.a), ((resS ks ps6 N y1.body ⟨((resX ks ps5 9 ⟨y1.value.op, y1.value.value, y1.value.name, y1.value.slot, y1.value.size, y1.value.args⟩ ⟨((resX ks ps4 9 ⟨y1.place.op, y1.place.value, y1.place.name, y1.place.slot, y1.place.size, y1.place.args⟩ ⟨((fndR ks ps2 y1.name (decide (y1.kind = 2)) a b).2.1), ((fndR ks ps2 y1.name (decide (y1.kind = 2)) a b).2.2)⟩).2.a), ((resX ks ps4 9 ⟨y1.place.op, y1.place.value, y1.place.name, y1.place.slot, y1.place.size, y1.place.args⟩ ⟨((fndR ks ps2 y1.name (decide (y1.kind = 2)) a b).2.1), ((fndR ks ps2 y1.name (decide (y1.kind = 2)) a b).2.2)⟩).2.b)⟩).2.a), ((resX ks ps5 9 ⟨y1.value.op, y1.value.value, y1.value.name, y1.value.slot, y1.value.size, y1.value.args⟩ ⟨((resX ks ps4 9 ⟨y1.place.op, y1.place.value, y1.place.name, y1.place.slot, y1.place.size, y1.place.args⟩ ⟨((fndR ks ps2 y1.name (decide (y1.kind = 2)) a b).2.1), ((fndR ks ps2 y1.name (decide (y1.kind = 2)) a b).2.2)⟩).2.a), ((resX ks ps4 9 ⟨y1.place.op, y1.place.value, y1.place.name, y1.place.slot, y1.place.size, y1.place.args⟩ ⟨((fndR ks ps2 y1.name (decide (y1.kind = 2)) a b).2.1), ((fndR ks ps2 y1.name (decide (y1.kind = 2)) a b).2.2)⟩).2.b)⟩).2.b)⟩).2.b)⟩).2.b))]]⟩))
 (.fail))
 (.fail))
 (.fail))
 (.fail))
 (.fail))
 (.fail))
 (.br (decide (y1.kind = 2))
 (.opt (unM vs) fun ps3 => .br (decide (ks.length = ps3.length))
 (.opt (unM vs) fun ps8 => .br (decide (ks.length = ps8.length) && fitX 9 ⟨y1.place.op, y1.place.value, y1.place.name, y1.place.slot, y1.place.size, y1.place.args⟩)
 (.opt (unM vs) fun ps9 => .br (decide (ks.length = ps9.length) && fitX 9 ⟨y1.value.op, y1.value.value, y1.value.name, y1.value.slot, y1.value.size, y1.value.args⟩)
 (.opt (unM vs) fun ps10 => .br (decide (ks.length = ps10.length) && fitS N y1.body)
 (.opt (unM vs) fun ps11 => .br (decide (ks.length = ps11.length) && fitS N y1.els)
 (.br (decide ((out.length + ([(.agg [.int .i64 y1.kind, .str y1.name, .int .i64 ((fndR ks ps3 y1.name (decide (y1.kind = 2)) a b).1.slot), .int .i64 ((fndR ks ps3 y1.name (decide (y1.kind = 2)) a b).1.size), .int .i64 (((resX ks ps8 9 ⟨y1.place.op, y1.place.value, y1.place.name, y1.place.slot, y1.place.size, y1.place.args⟩ ⟨((fndR ks ps3 y1.name (decide (y1.kind = 2)) a b).2.1), ((fndR ks ps3 y1.name (decide (y1.kind = 2)) a b).2.2)⟩).1).op), .int .i64 (((resX ks ps8 9 ⟨y1.place.op, y1.place.value, y1.place.name, y1.place.slot, y1.place.size, y1.place.args⟩ ⟨((fndR ks ps3 y1.name (decide (y1.kind = 2)) a b).2.1), ((fndR ks ps3 y1.name (decide (y1.kind = 2)) a b).2.2)⟩).1).value), .str (((resX ks ps8 9 ⟨y1.place.op, y1.place.value, y1.place.name, y1.place.slot, y1.place.size, y1.place.args⟩ ⟨((fndR ks ps3 y1.name (decide (y1.kind = 2)) a b).2.1), ((fndR ks ps3 y1.name (decide (y1.kind = 2)) a b).2.2)⟩).1).name), .int .i64 (((resX ks ps8 9 ⟨y1.place.op, y1.place.value, y1.place.name, y1.place.slot, y1.place.size, y1.place.args⟩ ⟨((fndR ks ps3 y1.name (decide (y1.kind = 2)) a b).2.1), ((fndR ks ps3 y1.name (decide (y1.kind = 2)) a b).2.2)⟩).1).slot), .int .i64 (((resX ks ps8 9 ⟨y1.place.op, y1.place.value, y1.place.name, y1.place.slot, y1.place.size, y1.place.args⟩ ⟨((fndR ks ps3 y1.name (decide (y1.kind = 2)) a b).2.1), ((fndR ks ps3 y1.name (decide (y1.kind = 2)) a b).2.2)⟩).1).size), .sl 6 (((resX ks ps8 9 ⟨y1.place.op, y1.place.value, y1.place.name, y1.place.slot, y1.place.size, y1.place.args⟩ ⟨((fndR ks ps3 y1.name (decide (y1.kind = 2)) a b).2.1), ((fndR ks ps3 y1.name (decide (y1.kind = 2)) a b).2.2)⟩).1).args), .int .i64 (((resX ks ps9 9 ⟨y1.value.op, y1.value.value, y1.value.name, y1.value.slot, y1.value.size, y1.value.args⟩ ⟨((resX ks ps8 9 ⟨y1.place.op, y1.place.value, y1.place.name, y1.place.slot, y1.place.size, y1.place.args⟩ ⟨((fndR ks ps3 y1.name (decide (y1.kind = 2)) a b).2.1), ((fndR ks ps3 y1.name (decide (y1.kind = 2)) a b).2.2)⟩).2.a), ((resX ks ps8 9 ⟨y1.place.op, y1.place.value, y1.place.name, y1.place.slot, y1.place.size, y1.place.args⟩ ⟨((fndR ks ps3 y1.name (decide (y1.kind = 2)) a b).2.1), ((fndR ks ps3 y1.name (decide (y1.kind = 2)) a b).2.2)⟩).2.b)⟩).1).op), .int .i64 (((resX ks ps9 9 ⟨y1.value.op, y1.value.value, y1.value.name, y1.value.slot, y1.value.size, y1.value.args⟩ ⟨((resX ks ps8 9 ⟨y1.place.op, y1.place.value, y1.place.name, y1.place.slot, y1.place.size, y1.place.args⟩ ⟨((fndR ks ps3 y1.name (decide (y1.kind = 2)) a b).2.1), ((fndR ks ps3 y1.name (decide (y1.kind = 2)) a b).2.2)⟩).2.a), ((resX ks ps8 9 ⟨y1.place.op, y1.place.value, y1.place.name, y1.place.slot, y1.place.size, y1.place.args⟩ ⟨((fndR ks ps3 y1.name (decide (y1.kind = 2)) a b).2.1), ((fndR ks ps3 y1.name (decide (y1.kind = 2)) a b).2.2)⟩).2.b)⟩).1).value), .str (((resX ks ps9 9 ⟨y1.value.op, y1.value.value, y1.value.name, y1.value.slot, y1.value.size, y1.value.args⟩ ⟨((resX ks ps8 9 ⟨y1.place.op, y1.place.value, y1.place.name, y1.place.slot, y1.place.size, y1.place.args⟩ ⟨((fndR ks ps3 y1.name (decide (y1.kind = 2)) a b).2.1), ((fndR ks ps3 y1.name (decide (y1.kind = 2)) a b).2.2)⟩).2.a), ((resX ks ps8 9 ⟨y1.place.op, y1.place.value, y1.place.name, y1.place.slot, y1.place.size, y1.place.args⟩ ⟨((fndR ks ps3 y1.name (decide (y1.kind = 2)) a b).2.1), ((fndR ks ps3 y1.name (decide (y1.kind = 2)) a b).2.2)⟩).2.b)⟩).1).name), .int .i64 (((resX ks ps9 9 ⟨y1.value.op, y1.value.value, y1.value.name, y1.value.slot, y1.value.size, y1.value.args⟩ ⟨((resX ks ps8 9 ⟨y1.place.op, y1.place.value, y1.place.name, y1.place.slot, y1.place.size, y1.place.args⟩ ⟨((fndR ks ps3 y1.name (decide (y1.kind = 2)) a b).2.1), ((fndR ks ps3 y1.name (decide (y1.kind = 2)) a b).2.2)⟩).2.a), ((resX ks ps8 9 ⟨y1.place.op, y1.place.value, y1.place.name, y1.place.slot, y1.place.size, y1.place.args⟩ ⟨((fndR ks ps3 y1.name (decide (y1.kind = 2)) a b).2.1), ((fndR ks ps3 y1.name (decide (y1.kind = 2)) a b).2.2)⟩).2.b)⟩).1).slot), .int .i64 (((resX ks ps9 9 ⟨y1.value.op, y1.value.value, y1.value.name, y1.value.slot, y1.value.size, y1.value.args⟩ ⟨((resX ks ps8 9 ⟨y1.place.op, y1.place.value, y1.place.name, y1.place.slot, y1.place.size, y1.place.args⟩ ⟨((fndR ks ps3 y1.name (decide (y1.kind = 2)) a b).2.1), ((fndR ks ps3 y1.name (decide (y1.kind = 2)) a b).2.2)⟩).2.a), ((resX ks ps8 9 ⟨y1.place.op, y1.place.value, y1.place.name, y1.place.slot, y1.place.size, y1.place.args⟩ ⟨((fndR ks ps3 y1.name (decide (y1.kind = 2)) a b).2.1), ((fndR ks ps3 y1.name (decide (y1.kind = 2)) a b).2.2)⟩).2.b)⟩).1).size), .sl 6 (((resX ks ps9 9 ⟨y1.value.op, y1.value.value, y1.value.name, y1.value.slot, y1.value.size, y1.value.args⟩ ⟨((resX ks ps8 9 ⟨y1.place.op, y1.place.value, y1.place.name, y1.place.slot, y1.place.size, y1.place.args⟩ ⟨((fndR ks ps3 y1.name (decide (y1.kind = 2)) a b).2.1), ((fndR ks ps3 y1.name (decide (y1.kind = 2)) a b).2.2)⟩).2.a), ((resX ks ps8 9 ⟨y1.place.op, y1.place.value, y1.place.name, y1.place.slot, y1.place.size, y1.place.args⟩ ⟨((fndR ks ps3 y1.name (decide (y1.kind = 2)) a b).2.1), ((fndR ks ps3 y1.name (decide (y1.kind = 2)) a b).2.2)⟩).2.b)⟩).1).args), .sl 18 ((resS ks ps10 N y1.body ⟨((resX ks ps9 9 ⟨y1.value.op, y1.value.value, y1.value.name, y1.value.slot, y1.value.size, y1.value.args⟩ ⟨((resX ks ps8 9 ⟨y1.place.op, y1.place.value, y1.place.name, y1.place.slot, y1.place.size, y1.place.args⟩ ⟨((fndR ks ps3 y1.name (decide (y1.kind = 2)) a b).2.1), ((fndR ks ps3 y1.name (decide (y1.kind = 2)) a b).2.2)⟩).2.a), ((resX ks ps8 9 ⟨y1.place.op, y1.place.value, y1.place.name, y1.place.slot, y1.place.size, y1.place.args⟩ ⟨((fndR ks ps3 y1.name (decide (y1.kind = 2)) a b).2.1), ((fndR ks ps3 y1.name (decide (y1.kind = 2)) a b).2.2)⟩).2.b)⟩).2.a), ((resX ks ps9 9 ⟨y1.value.op, y1.value.value, y1.value.name, y1.value.slot, y1.value.size, y1.value.args⟩ ⟨((resX ks ps8 9 ⟨y1.place.op, y1.place.value, y1.place.name, y1.place.slot, y1.place.size, y1.place.args⟩ ⟨((fndR ks ps3 y1.name (decide (y1.kind = 2)) a b).2.1), ((fndR ks ps3 y1.name (decide (y1.kind = 2)) a b).2.2)⟩).2.a), ((resX ks ps8 9 ⟨y1.place.op, y1.place.value, y1.place.name, y1.place.slot, y1.place.size, y1.place.args⟩ ⟨((fndR ks ps3 y1.name (decide (y1.kind = 2)) a b).2.1), ((fndR ks ps3 y1.name (decide (y1.kind = 2)) a b).2.2)⟩).2.b)⟩).2.b)⟩).1.map encSt), .sl 18 ((resS ks ps11 N y1.els ⟨((resS ks ps10 N y1.body ⟨((resX ks ps9 9 ⟨y1.value.op, y1.value.value, y1.value.name, y1.value.slot, y1.value.size, y1.value.args⟩ ⟨((resX ks ps8 9 ⟨y1.place.op, y1.place.value, y1.place.name, y1.place.slot, y1.place.size, y1.place.args⟩ ⟨((fndR ks ps3 y1.name (decide (y1.kind = 2)) a b).2.1), ((fndR ks ps3 y1.name (decide (y1.kind = 2)) a b).2.2)⟩).2.a), ((resX ks ps8 9 ⟨y1.place.op, y1.place.value, y1.place.name, y1.place.slot, y1.place.size, y1.place.args⟩ ⟨((fndR ks ps3 y1.name (decide (y1.kind = 2)) a b).2.1), ((fndR ks ps3 y1.name (decide (y1.kind = 2)) a b).2.2)⟩).2.b)⟩).2.a), ((resX ks ps9 9 ⟨y1.value.op, y1.value.value, y1.value.name, y1.value.slot, y1.value.size, y1.value.args⟩ ⟨((resX ks ps8 9 ⟨y1.place.op, y1.place.value, y1.place.name, y1.place.slot, y1.place.size, y1.place.args⟩ ⟨((fndR ks ps3 y1.name (decide (y1.kind = 2)) a b).2.1), ((fndR ks ps3 y1.name (decide (y1.kind = 2)) a b).2.2)⟩).2.a), ((resX ks ps8 9 ⟨y1.place.op, y1.place.value, y1.place.name, y1.place.slot, y1.place.size, y1.place.args⟩ ⟨((fndR ks ps3 y1.name (decide (y1.kind = 2)) a b).2.1), ((fndR ks ps3 y1.name (decide (y1.kind = 2)) a b).2.2)⟩).2.b)⟩).2.b)⟩).2.a), ((resS ks ps10 N y1.body ⟨((resX ks ps9 9 ⟨y1.value.op, y1.value.value, y1.value.name, y1.value.slot, y1.value.size, y1.value.args⟩ ⟨((resX ks ps8 9 ⟨y1.place.op, y1.place.value, y1.place.name, y1.place.slot, y1.place.size, y1.place.args⟩ ⟨((fndR ks ps3 y1.name (decide (y1.kind = 2)) a b).2.1), ((fndR ks ps3 y1.name (decide (y1.kind = 2)) a b).2.2)⟩).2.a), ((resX ks ps8 9 ⟨y1.place.op, y1.place.value, y1.place.name, y1.place.slot, y1.place.size, y1.place.args⟩ ⟨((fndR ks ps3 y1.name (decide (y1.kind = 2)) a b).2.1), ((fndR ks ps3 y1.name (decide (y1.kind = 2)) a b).2.2)⟩).2.b)⟩).2.a), ((resX ks ps9 9 ⟨y1.value.op, y1.value.value, y1.value.name, y1.value.slot, y1.value.size, y1.value.args⟩ ⟨((resX ks ps8 9 ⟨y1.place.op, y1.place.value, y1.place.name, y1.place.slot, y1.place.size, y1.place.args⟩ ⟨((fndR ks ps3 y1.name (decide (y1.kind = 2)) a b).2.1), ((fndR ks ps3 y1.name (decide (y1.kind = 2)) a b).2.2)⟩).2.a), ((resX ks ps8 9 ⟨y1.place.op, y1.place.value, y1.place.name, y1.place.slot, y1.place.size, y1.place.args⟩ ⟨((fndR ks ps3 y1.name (decide (y1.kind = 2)) a b).2.1), ((fndR ks ps3 y1.name (decide (y1.kind = 2)) a b).2.2)⟩).2.b)⟩).2.b)⟩).2.b)⟩).1.map encSt)])] : List DV).length) * 232 ≤ 70368744177664))
 (.leaf (.nrm, ⟨[(0, .hp 1 0), (5, .osl 18 (out ++ [(.agg [.int .i64 y1.kind, .str y1.name, .int .i64 ((fndR ks ps3 y1.name (decide (y1.kind = 2)) a b).1.slot), .int .i64 ((fndR ks ps3 y1.name (decide (y1.kind = 2)) a b).1.size), .int .i64 (((resX ks ps8 9 ⟨y1.place.op, y1.place.value, y1.place.name, y1.place.slot, y1.place.size, y1.place.args⟩ ⟨((fndR ks ps3 y1.name (decide (y1.kind = 2)) a b).2.1), ((fndR ks ps3 y1.name (decide (y1.kind = 2)) a b).2.2)⟩).1).op), .int .i64 (((resX ks ps8 9 ⟨y1.place.op, y1.place.value, y1.place.name, y1.place.slot, y1.place.size, y1.place.args⟩ ⟨((fndR ks ps3 y1.name (decide (y1.kind = 2)) a b).2.1), ((fndR ks ps3 y1.name (decide (y1.kind = 2)) a b).2.2)⟩).1).value), .str (((resX ks ps8 9 ⟨y1.place.op, y1.place.value, y1.place.name, y1.place.slot, y1.place.size, y1.place.args⟩ ⟨((fndR ks ps3 y1.name (decide (y1.kind = 2)) a b).2.1), ((fndR ks ps3 y1.name (decide (y1.kind = 2)) a b).2.2)⟩).1).name), .int .i64 (((resX ks ps8 9 ⟨y1.place.op, y1.place.value, y1.place.name, y1.place.slot, y1.place.size, y1.place.args⟩ ⟨((fndR ks ps3 y1.name (decide (y1.kind = 2)) a b).2.1), ((fndR ks ps3 y1.name (decide (y1.kind = 2)) a b).2.2)⟩).1).slot), .int .i64 (((resX ks ps8 9 ⟨y1.place.op, y1.place.value, y1.place.name, y1.place.slot, y1.place.size, y1.place.args⟩ ⟨((fndR ks ps3 y1.name (decide (y1.kind = 2)) a b).2.1), ((fndR ks ps3 y1.name (decide (y1.kind = 2)) a b).2.2)⟩).1).size), .sl 6 (((resX ks ps8 9 ⟨y1.place.op, y1.place.value, y1.place.name, y1.place.slot, y1.place.size, y1.place.args⟩ ⟨((fndR ks ps3 y1.name (decide (y1.kind = 2)) a b).2.1), ((fndR ks ps3 y1.name (decide (y1.kind = 2)) a b).2.2)⟩).1).args), .int .i64 (((resX ks ps9 9 ⟨y1.value.op, y1.value.value, y1.value.name, y1.value.slot, y1.value.size, y1.value.args⟩ ⟨((resX ks ps8 9 ⟨y1.place.op, y1.place.value, y1.place.name, y1.place.slot, y1.place.size, y1.place.args⟩ ⟨((fndR ks ps3 y1.name (decide (y1.kind = 2)) a b).2.1), ((fndR ks ps3 y1.name (decide (y1.kind = 2)) a b).2.2)⟩).2.a), ((resX ks ps8 9 ⟨y1.place.op, y1.place.value, y1.place.name, y1.place.slot, y1.place.size, y1.place.args⟩ ⟨((fndR ks ps3 y1.name (decide (y1.kind = 2)) a b).2.1), ((fndR ks ps3 y1.name (decide (y1.kind = 2)) a b).2.2)⟩).2.b)⟩).1).op), .int .i64 (((resX ks ps9 9 ⟨y1.value.op, y1.value.value, y1.value.name, y1.value.slot, y1.value.size, y1.value.args⟩ ⟨((resX ks ps8 9 ⟨y1.place.op, y1.place.value, y1.place.name, y1.place.slot, y1.place.size, y1.place.args⟩ ⟨((fndR ks ps3 y1.name (decide (y1.kind = 2)) a b).2.1), ((fndR ks ps3 y1.name (decide (y1.kind = 2)) a b).2.2)⟩).2.a), ((resX ks ps8 9 ⟨y1.place.op, y1.place.value, y1.place.name, y1.place.slot, y1.place.size, y1.place.args⟩ ⟨((fndR ks ps3 y1.name (decide (y1.kind = 2)) a b).2.1), ((fndR ks ps3 y1.name (decide (y1.kind = 2)) a b).2.2)⟩).2.b)⟩).1).value), .str (((resX ks ps9 9 ⟨y1.value.op, y1.value.value, y1.value.name, y1.value.slot, y1.value.size, y1.value.args⟩ ⟨((resX ks ps8 9 ⟨y1.place.op, y1.place.value, y1.place.name, y1.place.slot, y1.place.size, y1.place.args⟩ ⟨((fndR ks ps3 y1.name (decide (y1.kind = 2)) a b).2.1), ((fndR ks ps3 y1.name (decide (y1.kind = 2)) a b).2.2)⟩).2.a), ((resX ks ps8 9 ⟨y1.place.op, y1.place.value, y1.place.name, y1.place.slot, y1.place.size, y1.place.args⟩ ⟨((fndR ks ps3 y1.name (decide (y1.kind = 2)) a b).2.1), ((fndR ks ps3 y1.name (decide (y1.kind = 2)) a b).2.2)⟩).2.b)⟩).1).name), .int .i64 (((resX ks ps9 9 ⟨y1.value.op, y1.value.value, y1.value.name, y1.value.slot, y1.value.size, y1.value.args⟩ ⟨((resX ks ps8 9 ⟨y1.place.op, y1.place.value, y1.place.name, y1.place.slot, y1.place.size, y1.place.args⟩ ⟨((fndR ks ps3 y1.name (decide (y1.kind = 2)) a b).2.1), ((fndR ks ps3 y1.name (decide (y1.kind = 2)) a b).2.2)⟩).2.a), ((resX ks ps8 9 ⟨y1.place.op, y1.place.value, y1.place.name, y1.place.slot, y1.place.size, y1.place.args⟩ ⟨((fndR ks ps3 y1.name (decide (y1.kind = 2)) a b).2.1), ((fndR ks ps3 y1.name (decide (y1.kind = 2)) a b).2.2)⟩).2.b)⟩).1).slot), .int .i64 (((resX ks ps9 9 ⟨y1.value.op, y1.value.value, y1.value.name, y1.value.slot, y1.value.size, y1.value.args⟩ ⟨((resX ks ps8 9 ⟨y1.place.op, y1.place.value, y1.place.name, y1.place.slot, y1.place.size, y1.place.args⟩ ⟨((fndR ks ps3 y1.name (decide (y1.kind = 2)) a b).2.1), ((fndR ks ps3 y1.name (decide (y1.kind = 2)) a b).2.2)⟩).2.a), ((resX ks ps8 9 ⟨y1.place.op, y1.place.value, y1.place.name, y1.place.slot, y1.place.size, y1.place.args⟩ ⟨((fndR ks ps3 y1.name (decide (y1.kind = 2)) a b).2.1), ((fndR ks ps3 y1.name (decide (y1.kind = 2)) a b).2.2)⟩).2.b)⟩).1).size), .sl 6 (((resX ks ps9 9 ⟨y1.value.op, y1.value.value, y1.value.name, y1.value.slot, y1.value.size, y1.value.args⟩ ⟨((resX ks ps8 9 ⟨y1.place.op, y1.place.value, y1.place.name, y1.place.slot, y1.place.size, y1.place.args⟩ ⟨((fndR ks ps3 y1.name (decide (y1.kind = 2)) a b).2.1), ((fndR ks ps3 y1.name (decide (y1.kind = 2)) a b).2.2)⟩).2.a), ((resX ks ps8 9 ⟨y1.place.op, y1.place.value, y1.place.name, y1.place.slot, y1.place.size, y1.place.args⟩ ⟨((fndR ks ps3 y1.name (decide (y1.kind = 2)) a b).2.1), ((fndR ks ps3 y1.name (decide (y1.kind = 2)) a b).2.2)⟩).2.b)⟩).1).args), .sl 18 ((resS ks ps10 N y1.body ⟨((resX ks ps9 9 ⟨y1.value.op, y1.value.value, y1.value.name, y1.value.slot, y1.value.size, y1.value.args⟩ ⟨((resX ks ps8 9 ⟨y1.place.op, y1.place.value, y1.place.name, y1.place.slot, y1.place.size, y1.place.args⟩ ⟨((fndR ks ps3 y1.name (decide (y1.kind = 2)) a b).2.1), ((fndR ks ps3 y1.name (decide (y1.kind = 2)) a b).2.2)⟩).2.a), ((resX ks ps8 9 ⟨y1.place.op, y1.place.value, y1.place.name, y1.place.slot, y1.place.size, y1.place.args⟩ ⟨((fndR ks ps3 y1.name (decide (y1.kind = 2)) a b).2.1), ((fndR ks ps3 y1.name (decide (y1.kind = 2)) a b).2.2)⟩).2.b)⟩).2.a), ((resX ks ps9 9 ⟨y1.value.op, y1.value.value, y1.value.name, y1.value.slot, y1.value.size, y1.value.args⟩ ⟨((resX ks ps8 9 ⟨y1.place.op, y1.place.value, y1.place.name, y1.place.slot, y1.place.size, y1.place.args⟩ ⟨((fndR ks ps3 y1.name (decide (y1.kind = 2)) a b).2.1), ((fndR ks ps3 y1.name (decide (y1.kind = 2)) a b).2.2)⟩).2.a), ((resX ks ps8 9 ⟨y1.place.op, y1.place.value, y1.place.name, y1.place.slot, y1.place.size, y1.place.args⟩ ⟨((fndR ks ps3 y1.name (decide (y1.kind = 2)) a b).2.1), ((fndR ks ps3 y1.name (decide (y1.kind = 2)) a b).2.2)⟩).2.b)⟩).2.b)⟩).1.map encSt), .sl 18 ((resS ks ps11 N y1.els ⟨((resS ks ps10 N y1.body ⟨((resX ks ps9 9 ⟨y1.value.op, y1.value.value, y1.value.name, y1.value.slot, y1.value.size, y1.value.args⟩ ⟨((resX ks ps8 9 ⟨y1.place.op, y1.place.value, y1.place.name, y1.place.slot, y1.place.size, y1.place.args⟩ ⟨((fndR ks ps3 y1.name (decide (y1.kind = 2)) a b).2.1), ((fndR ks ps3 y1.name (decide (y1.kind = 2)) a b).2.2)⟩).2.a), ((resX ks ps8 9 ⟨y1.place.op, y1.place.value, y1.place.name, y1.place.slot, y1.place.size, y1.place.args⟩ ⟨((fndR ks ps3 y1.name (decide (y1.kind = 2)) a b).2.1), ((fndR ks ps3 y1.name (decide (y1.kind = 2)) a b).2.2)⟩).2.b)⟩).2.a), ((resX ks ps9 9 ⟨y1.value.op, y1.value.value, y1.value.name, y1.value.slot, y1.value.size, y1.value.args⟩ ⟨((resX ks ps8 9 ⟨y1.place.op, y1.place.value, y1.place.name, y1.place.slot, y1.place.size, y1.place.args⟩ ⟨((fndR ks ps3 y1.name (decide (y1.kind = 2)) a b).2.1), ((fndR ks ps3 y1.name (decide (y1.kind = 2)) a b).2.2)⟩).2.a), ((resX ks ps8 9 ⟨y1.place.op, y1.place.value, y1.place.name, y1.place.slot, y1.place.size, y1.place.args⟩ ⟨((fndR ks ps3 y1.name (decide (y1.kind = 2)) a b).2.1), ((fndR ks ps3 y1.name (decide (y1.kind = 2)) a b).2.2)⟩).2.b)⟩).2.b)⟩).2.a), ((resS ks ps10 N y1.body ⟨((resX ks ps9 9 ⟨y1.value.op, y1.value.value, y1.value.name, y1.value.slot, y1.value.size, y1.value.args⟩ ⟨((resX ks ps8 9 ⟨y1.place.op, y1.place.value, y1.place.name, y1.place.slot, y1.place.size, y1.place.args⟩ ⟨((fndR ks ps3 y1.name (decide (y1.kind = 2)) a b).2.1), ((fndR ks ps3 y1.name (decide (y1.kind = 2)) a b).2.2)⟩).2.a), ((resX ks ps8 9 ⟨y1.place.op, y1.place.value, y1.place.name, y1.place.slot, y1.place.size, y1.place.args⟩ ⟨((fndR ks ps3 y1.name (decide (y1.kind = 2)) a b).2.1), ((fndR ks ps3 y1.name (decide (y1.kind = 2)) a b).2.2)⟩).2.b)⟩).2.a), ((resX ks ps9 9 ⟨y1.value.op, y1.value.value, y1.value.name, y1.value.slot, y1.value.size, y1.value.args⟩ ⟨((resX ks ps8 9 ⟨y1.place.op, y1.place.value, y1.place.name, y1.place.slot, y1.place.size, y1.place.args⟩ ⟨((fndR ks ps3 y1.name (decide (y1.kind = 2)) a b).2.1), ((fndR ks ps3 y1.name (decide (y1.kind = 2)) a b).2.2)⟩).2.a), ((resX ks ps8 9 ⟨y1.place.op, y1.place.value, y1.place.name, y1.place.slot, y1.place.size, y1.place.args⟩ ⟨((fndR ks ps3 y1.name (decide (y1.kind = 2)) a b).2.1), ((fndR ks ps3 y1.name (decide (y1.kind = 2)) a b).2.2)⟩).2.b)⟩).2.b)⟩).2.b)⟩).1.map encSt)])])), (9, .d (.sl 18 ss)), (10, .d (.int .i64 m)), (11, .d (.int .i64 (IntKind.i64.wrap (n + 1))))], [[.mpb .str ks vs], [.mp 0, .d (.bool ((resS ks ps11 N y1.els ⟨((resS ks ps10 N y1.body ⟨((resX ks ps9 9 ⟨y1.value.op, y1.value.value, y1.value.name, y1.value.slot, y1.value.size, y1.value.args⟩ ⟨((resX ks ps8 9 ⟨y1.place.op, y1.place.value, y1.place.name, y1.place.slot, y1.place.size, y1.place.args⟩ ⟨((fndR ks ps3 y1.name (decide (y1.kind = 2)) a b).2.1), ((fndR ks ps3 y1.name (decide (y1.kind = 2)) a b).2.2)⟩).2.a), ((resX ks ps8 9 ⟨y1.place.op, y1.place.value, y1.place.name, y1.place.slot, y1.place.size, y1.place.args⟩ ⟨((fndR ks ps3 y1.name (decide (y1.kind = 2)) a b).2.1), ((fndR ks ps3 y1.name (decide (y1.kind = 2)) a b).2.2)⟩).2.b)⟩).2.a), ((resX ks ps9 9 ⟨y1.value.op, y1.value.value, y1.value.name, y1.value.slot, y1.value.size, y1.value.args⟩ ⟨((resX ks ps8 9 ⟨y1.place.op, y1.place.value, y1.place.name, y1.place.slot, y1.place.size, y1.place.args⟩ ⟨((fndR ks ps3 y1.name (decide (y1.kind = 2)) a b).2.1), ((fndR ks ps3 y1.name (decide (y1.kind = 2)) a b).2.2)⟩).2.a), ((resX ks ps8 9 ⟨y1.place.op, y1.place.value, y1.place.name, y1.place.slot, y1.place.size, y1.place.args⟩ ⟨((fndR ks ps3 y1.name (decide (y1.kind = 2)) a b).2.1), ((fndR ks ps3 y1.name (decide (y1.kind = 2)) a b).2.2)⟩).2.b)⟩).2.b)⟩).2.a), ((resS ks ps10 N y1.body ⟨((resX ks ps9 9 ⟨y1.value.op, y1.value.value, y1.value.name, y1.value.slot, y1.value.size, y1.value.args⟩ ⟨((resX ks ps8 9 ⟨y1.place.op, y1.place.value, y1.place.name, y1.place.slot, y1.place.size, y1.place.args⟩ ⟨((fndR ks ps3 y1.name (decide (y1.kind = 2)) a b).2.1), ((fndR ks ps3 y1.name (decide (y1.kind = 2)) a b).2.2)⟩).2.a), ((resX ks ps8 9 ⟨y1.place.op, y1.place.value, y1.place.name, y1.place.slot, y1.place.size, y1.place.args⟩ ⟨((fndR ks ps3 y1.name (decide (y1.kind = 2)) a b).2.1), ((fndR ks ps3 y1.name (decide (y1.kind = 2)) a b).2.2)⟩).2.b)⟩).2.a), ((resX ks ps9 9 ⟨y1.value.op, y1.value.value, y1.value.name, y1.value.slot, y1.value.size, y1.value.args⟩ ⟨((resX ks ps8 9 ⟨y1.place.op, y1.place.value, y1.place.name, y1.place.slot, y1.place.size, y1.place.args⟩ ⟨((fndR ks ps3 y1.name (decide (y1.kind = 2)) a b).2.1), ((fndR ks ps3 y1.name (decide (y1.kind = 2)) a b).2.2)⟩).2.a), ((resX ks ps8 9 ⟨y1.place.op, y1.place.value, y1.place.name, y1.place.slot, y1.place.size, y1.place.args⟩ ⟨((fndR ks ps3 y1.name (decide (y1.kind = 2)) a b).2.1), ((fndR ks ps3 y1.name (decide (y1.kind = 2)) a b).2.2)⟩).2.b)⟩).2.b)⟩).2.b)⟩).2.a)), .d (.bool ((resS ks ps11 N y1.els ⟨((resS ks ps10 N y1.body ⟨((resX ks ps9 9 ⟨y1.value.op, y1.value.value, y1.value.name, y1.value.slot, y1.value.size, y1.value.args⟩ ⟨((resX ks ps8 9 ⟨y1.place.op, y1.place.value, y1.place.name, y1.place.slot, y1.place.size, y1.place.args⟩ ⟨((fndR ks ps3 y1.name (decide (y1.kind = 2)) a b).2.1), ((fndR ks ps3 y1.name (decide (y1.kind = 2)) a b).2.2)⟩).2.a), ((resX ks ps8 9 ⟨y1.place.op, y1.place.value, y1.place.name, y1.place.slot, y1.place.size, y1.place.args⟩ ⟨((fndR ks ps3 y1.name (decide (y1.kind = 2)) a b).2.1), ((fndR ks ps3 y1.name (decide (y1.kind = 2)) a b).2.2)⟩).2.b)⟩).2.a), ((resX ks ps9 9 ⟨y1.value.op, y1.value.value, y1.value.name, y1.value.slot, y1.value.size, y1.value.args⟩ ⟨((resX ks ps8 9 ⟨y1.place.op, y1.place.value, y1.place.name, y1.place.slot, y1.place.size, y1.place.args⟩ ⟨((fndR ks ps3 y1.name (decide (y1.kind = 2)) a b).2.1), ((fndR ks ps3 y1.name (decide (y1.kind = 2)) a b).2.2)⟩).2.a), ((resX ks ps8 9 ⟨y1.place.op, y1.place.value, y1.place.name, y1.place.slot, y1.place.size, y1.place.args⟩ ⟨((fndR ks ps3 y1.name (decide (y1.kind = 2)) a b).2.1), ((fndR ks ps3 y1.name (decide (y1.kind = 2)) a b).2.2)⟩).2.b)⟩).2.b)⟩).2.a), ((resS ks ps10 N y1.body ⟨((resX ks ps9 9 ⟨y1.value.op, y1.value.value, y1.value.name, y1.value.slot, y1.value.size, y1.value.args⟩ ⟨((resX ks ps8 9 ⟨y1.place.op, y1.place.value, y1.place.name, y1.place.slot, y1.place.size, y1.place.args⟩ ⟨((fndR ks ps3 y1.name (decide (y1.kind = 2)) a b).2.1), ((fndR ks ps3 y1.name (decide (y1.kind = 2)) a b).2.2)⟩).2.a), ((resX ks ps8 9 ⟨y1.place.op, y1.place.value, y1.place.name, y1.place.slot, y1.place.size, y1.place.args⟩ ⟨((fndR ks ps3 y1.name (decide (y1.kind = 2)) a b).2.1), ((fndR ks ps3 y1.name (decide (y1.kind = 2)) a b).2.2)⟩).2.b)⟩).2.a), ((resX ks ps9 9 ⟨y1.value.op, y1.value.value, y1.value.name, y1.value.slot, y1.value.size, y1.value.args⟩ ⟨((resX ks ps8 9 ⟨y1.place.op, y1.place.value, y1.place.name, y1.place.slot, y1.place.size, y1.place.args⟩ ⟨((fndR ks ps3 y1.name (decide (y1.kind = 2)) a b).2.1), ((fndR ks ps3 y1.name (decide (y1.kind = 2)) a b).2.2)⟩).2.a), ((resX ks ps8 9 ⟨y1.place.op, y1.place.value, y1.place.name, y1.place.slot, y1.place.size, y1.place.args⟩ ⟨((fndR ks ps3 y1.name (decide (y1.kind = 2)) a b).2.1), ((fndR ks ps3 y1.name (decide (y1.kind = 2)) a b).2.2)⟩).2.b)⟩).2.b)⟩).2.b)⟩).2.b))]]⟩))
 (.fail))
 (.fail))
 (.fail))
 (.fail))
 (.fail))
 (.fail))
 (.opt (unM vs) fun ps12 => .br (decide (ks.length = ps12.length) && fitX 9 ⟨y1.place.op, y1.place.value, y1.place.name, y1.place.slot, y1.place.size, y1.place.args⟩)
 (.opt (unM vs) fun ps13 => .br (decide (ks.length = ps13.length) && fitX 9 ⟨y1.value.op, y1.value.value, y1.value.name, y1.value.slot, y1.value.size, y1.value.args⟩)
 (.opt (unM vs) fun ps14 => .br (decide (ks.length = ps14.length) && fitS N y1.body)
 (.opt (unM vs) fun ps15 => .br (decide (ks.length = ps15.length) && fitS N y1.els)
 (.br (decide ((out.length + ([(.agg [.int .i64 y1.kind, .str y1.name, .int .i64 y1.slot, .int .i64 y1.size, .int .i64 (((resX ks ps12 9 ⟨y1.place.op, y1.place.value, y1.place.name, y1.place.slot, y1.place.size, y1.place.args⟩ ⟨a, b⟩).1).op), .int .i64 (((resX ks ps12 9 ⟨y1.place.op, y1.place.value, y1.place.name, y1.place.slot, y1.place.size, y1.place.args⟩ ⟨a, b⟩).1).value), .str (((resX ks ps12 9 ⟨y1.place.op, y1.place.value, y1.place.name, y1.place.slot, y1.place.size, y1.place.args⟩ ⟨a, b⟩).1).name), .int .i64 (((resX ks ps12 9 ⟨y1.place.op, y1.place.value, y1.place.name, y1.place.slot, y1.place.size, y1.place.args⟩ ⟨a, b⟩).1).slot), .int .i64 (((resX ks ps12 9 ⟨y1.place.op, y1.place.value, y1.place.name, y1.place.slot, y1.place.size, y1.place.args⟩ ⟨a, b⟩).1).size), .sl 6 (((resX ks ps12 9 ⟨y1.place.op, y1.place.value, y1.place.name, y1.place.slot, y1.place.size, y1.place.args⟩ ⟨a, b⟩).1).args), .int .i64 (((resX ks ps13 9 ⟨y1.value.op, y1.value.value, y1.value.name, y1.value.slot, y1.value.size, y1.value.args⟩ ⟨((resX ks ps12 9 ⟨y1.place.op, y1.place.value, y1.place.name, y1.place.slot, y1.place.size, y1.place.args⟩ ⟨a, b⟩).2.a), ((resX ks ps12 9 ⟨y1.place.op, y1.place.value, y1.place.name, y1.place.slot, y1.place.size, y1.place.args⟩ ⟨a, b⟩).2.b)⟩).1).op), .int .i64 (((resX ks ps13 9 ⟨y1.value.op, y1.value.value, y1.value.name, y1.value.slot, y1.value.size, y1.value.args⟩ ⟨((resX ks ps12 9 ⟨y1.place.op, y1.place.value, y1.place.name, y1.place.slot, y1.place.size, y1.place.args⟩ ⟨a, b⟩).2.a), ((resX ks ps12 9 ⟨y1.place.op, y1.place.value, y1.place.name, y1.place.slot, y1.place.size, y1.place.args⟩ ⟨a, b⟩).2.b)⟩).1).value), .str (((resX ks ps13 9 ⟨y1.value.op, y1.value.value, y1.value.name, y1.value.slot, y1.value.size, y1.value.args⟩ ⟨((resX ks ps12 9 ⟨y1.place.op, y1.place.value, y1.place.name, y1.place.slot, y1.place.size, y1.place.args⟩ ⟨a, b⟩).2.a), ((resX ks ps12 9 ⟨y1.place.op, y1.place.value, y1.place.name, y1.place.slot, y1.place.size, y1.place.args⟩ ⟨a, b⟩).2.b)⟩).1).name), .int .i64 (((resX ks ps13 9 ⟨y1.value.op, y1.value.value, y1.value.name, y1.value.slot, y1.value.size, y1.value.args⟩ ⟨((resX ks ps12 9 ⟨y1.place.op, y1.place.value, y1.place.name, y1.place.slot, y1.place.size, y1.place.args⟩ ⟨a, b⟩).2.a), ((resX ks ps12 9 ⟨y1.place.op, y1.place.value, y1.place.name, y1.place.slot, y1.place.size, y1.place.args⟩ ⟨a, b⟩).2.b)⟩).1).slot), .int .i64 (((resX ks ps13 9 ⟨y1.value.op, y1.value.value, y1.value.name, y1.value.slot, y1.value.size, y1.value.args⟩ ⟨((resX ks ps12 9 ⟨y1.place.op, y1.place.value, y1.place.name, y1.place.slot, y1.place.size, y1.place.args⟩ ⟨a, b⟩).2.a), ((resX ks ps12 9 ⟨y1.place.op, y1.place.value, y1.place.name, y1.place.slot, y1.place.size, y1.place.args⟩ ⟨a, b⟩).2.b)⟩).1).size), .sl 6 (((resX ks ps13 9 ⟨y1.value.op, y1.value.value, y1.value.name, y1.value.slot, y1.value.size, y1.value.args⟩ ⟨((resX ks ps12 9 ⟨y1.place.op, y1.place.value, y1.place.name, y1.place.slot, y1.place.size, y1.place.args⟩ ⟨a, b⟩).2.a), ((resX ks ps12 9 ⟨y1.place.op, y1.place.value, y1.place.name, y1.place.slot, y1.place.size, y1.place.args⟩ ⟨a, b⟩).2.b)⟩).1).args), .sl 18 ((resS ks ps14 N y1.body ⟨((resX ks ps13 9 ⟨y1.value.op, y1.value.value, y1.value.name, y1.value.slot, y1.value.size, y1.value.args⟩ ⟨((resX ks ps12 9 ⟨y1.place.op, y1.place.value, y1.place.name, y1.place.slot, y1.place.size, y1.place.args⟩ ⟨a, b⟩).2.a), ((resX ks ps12 9 ⟨y1.place.op, y1.place.value, y1.place.name, y1.place.slot, y1.place.size, y1.place.args⟩ ⟨a, b⟩).2.b)⟩).2.a), ((resX ks ps13 9 ⟨y1.value.op, y1.value.value, y1.value.name, y1.value.slot, y1.value.size, y1.value.args⟩ ⟨((resX ks ps12 9 ⟨y1.place.op, y1.place.value, y1.place.name, y1.place.slot, y1.place.size, y1.place.args⟩ ⟨a, b⟩).2.a), ((resX ks ps12 9 ⟨y1.place.op, y1.place.value, y1.place.name, y1.place.slot, y1.place.size, y1.place.args⟩ ⟨a, b⟩).2.b)⟩).2.b)⟩).1.map encSt), .sl 18 ((resS ks ps15 N y1.els ⟨((resS ks ps14 N y1.body ⟨((resX ks ps13 9 ⟨y1.value.op, y1.value.value, y1.value.name, y1.value.slot, y1.value.size, y1.value.args⟩ ⟨((resX ks ps12 9 ⟨y1.place.op, y1.place.value, y1.place.name, y1.place.slot, y1.place.size, y1.place.args⟩ ⟨a, b⟩).2.a), ((resX ks ps12 9 ⟨y1.place.op, y1.place.value, y1.place.name, y1.place.slot, y1.place.size, y1.place.args⟩ ⟨a, b⟩).2.b)⟩).2.a), ((resX ks ps13 9 ⟨y1.value.op, y1.value.value, y1.value.name, y1.value.slot, y1.value.size, y1.value.args⟩ ⟨((resX ks ps12 9 ⟨y1.place.op, y1.place.value, y1.place.name, y1.place.slot, y1.place.size, y1.place.args⟩ ⟨a, b⟩).2.a), ((resX ks ps12 9 ⟨y1.place.op, y1.place.value, y1.place.name, y1.place.slot, y1.place.size, y1.place.args⟩ ⟨a, b⟩).2.b)⟩).2.b)⟩).2.a), ((resS ks ps14 N y1.body ⟨((resX ks ps13 9 ⟨y1.value.op, y1.value.value, y1.value.name, y1.value.slot, y1.value.size, y1.value.args⟩ ⟨((resX ks ps12 9 ⟨y1.place.op, y1.place.value, y1.place.name, y1.place.slot, y1.place.size, y1.place.args⟩ ⟨a, b⟩).2.a), ((resX ks ps12 9 ⟨y1.place.op, y1.place.value, y1.place.name, y1.place.slot, y1.place.size, y1.place.args⟩ ⟨a, b⟩).2.b)⟩).2.a), ((resX ks ps13 9 ⟨y1.value.op, y1.value.value, y1.value.name, y1.value.slot, y1.value.size, y1.value.args⟩ ⟨((resX ks ps12 9 ⟨y1.place.op, y1.place.value, y1.place.name, y1.place.slot, y1.place.size, y1.place.args⟩ ⟨a, b⟩).2.a), ((resX ks ps12 9 ⟨y1.place.op, y1.place.value, y1.place.name, y1.place.slot, y1.place.size, y1.place.args⟩ ⟨a, b⟩).2.b)⟩).2.b)⟩).2.b)⟩).1.map encSt)])] : List DV).length) * 232 ≤ 70368744177664))
 (.leaf (.nrm, ⟨[(0, .hp 1 0), (5, .osl 18 (out ++ [(.agg [.int .i64 y1.kind, .str y1.name, .int .i64 y1.slot, .int .i64 y1.size, .int .i64 (((resX ks ps12 9 ⟨y1.place.op, y1.place.value, y1.place.name, y1.place.slot, y1.place.size, y1.place.args⟩ ⟨a, b⟩).1).op), .int .i64 (((resX ks ps12 9 ⟨y1.place.op, y1.place.value, y1.place.name, y1.place.slot, y1.place.size, y1.place.args⟩ ⟨a, b⟩).1).value), .str (((resX ks ps12 9 ⟨y1.place.op, y1.place.value, y1.place.name, y1.place.slot, y1.place.size, y1.place.args⟩ ⟨a, b⟩).1).name), .int .i64 (((resX ks ps12 9 ⟨y1.place.op, y1.place.value, y1.place.name, y1.place.slot, y1.place.size, y1.place.args⟩ ⟨a, b⟩).1).slot), .int .i64 (((resX ks ps12 9 ⟨y1.place.op, y1.place.value, y1.place.name, y1.place.slot, y1.place.size, y1.place.args⟩ ⟨a, b⟩).1).size), .sl 6 (((resX ks ps12 9 ⟨y1.place.op, y1.place.value, y1.place.name, y1.place.slot, y1.place.size, y1.place.args⟩ ⟨a, b⟩).1).args), .int .i64 (((resX ks ps13 9 ⟨y1.value.op, y1.value.value, y1.value.name, y1.value.slot, y1.value.size, y1.value.args⟩ ⟨((resX ks ps12 9 ⟨y1.place.op, y1.place.value, y1.place.name, y1.place.slot, y1.place.size, y1.place.args⟩ ⟨a, b⟩).2.a), ((resX ks ps12 9 ⟨y1.place.op, y1.place.value, y1.place.name, y1.place.slot, y1.place.size, y1.place.args⟩ ⟨a, b⟩).2.b)⟩).1).op), .int .i64 (((resX ks ps13 9 ⟨y1.value.op, y1.value.value, y1.value.name, y1.value.slot, y1.value.size, y1.value.args⟩ ⟨((resX ks ps12 9 ⟨y1.place.op, y1.place.value, y1.place.name, y1.place.slot, y1.place.size, y1.place.args⟩ ⟨a, b⟩).2.a), ((resX ks ps12 9 ⟨y1.place.op, y1.place.value, y1.place.name, y1.place.slot, y1.place.size, y1.place.args⟩ ⟨a, b⟩).2.b)⟩).1).value), .str (((resX ks ps13 9 ⟨y1.value.op, y1.value.value, y1.value.name, y1.value.slot, y1.value.size, y1.value.args⟩ ⟨((resX ks ps12 9 ⟨y1.place.op, y1.place.value, y1.place.name, y1.place.slot, y1.place.size, y1.place.args⟩ ⟨a, b⟩).2.a), ((resX ks ps12 9 ⟨y1.place.op, y1.place.value, y1.place.name, y1.place.slot, y1.place.size, y1.place.args⟩ ⟨a, b⟩).2.b)⟩).1).name), .int .i64 (((resX ks ps13 9 ⟨y1.value.op, y1.value.value, y1.value.name, y1.value.slot, y1.value.size, y1.value.args⟩ ⟨((resX ks ps12 9 ⟨y1.place.op, y1.place.value, y1.place.name, y1.place.slot, y1.place.size, y1.place.args⟩ ⟨a, b⟩).2.a), ((resX ks ps12 9 ⟨y1.place.op, y1.place.value, y1.place.name, y1.place.slot, y1.place.size, y1.place.args⟩ ⟨a, b⟩).2.b)⟩).1).slot), .int .i64 (((resX ks ps13 9 ⟨y1.value.op, y1.value.value, y1.value.name, y1.value.slot, y1.value.size, y1.value.args⟩ ⟨((resX ks ps12 9 ⟨y1.place.op, y1.place.value, y1.place.name, y1.place.slot, y1.place.size, y1.place.args⟩ ⟨a, b⟩).2.a), ((resX ks ps12 9 ⟨y1.place.op, y1.place.value, y1.place.name, y1.place.slot, y1.place.size, y1.place.args⟩ ⟨a, b⟩).2.b)⟩).1).size), .sl 6 (((resX ks ps13 9 ⟨y1.value.op, y1.value.value, y1.value.name, y1.value.slot, y1.value.size, y1.value.args⟩ ⟨((resX ks ps12 9 ⟨y1.place.op, y1.place.value, y1.place.name, y1.place.slot, y1.place.size, y1.place.args⟩ ⟨a, b⟩).2.a), ((resX ks ps12 9 ⟨y1.place.op, y1.place.value, y1.place.name, y1.place.slot, y1.place.size, y1.place.args⟩ ⟨a, b⟩).2.b)⟩).1).args), .sl 18 ((resS ks ps14 N y1.body ⟨((resX ks ps13 9 ⟨y1.value.op, y1.value.value, y1.value.name, y1.value.slot, y1.value.size, y1.value.args⟩ ⟨((resX ks ps12 9 ⟨y1.place.op, y1.place.value, y1.place.name, y1.place.slot, y1.place.size, y1.place.args⟩ ⟨a, b⟩).2.a), ((resX ks ps12 9 ⟨y1.place.op, y1.place.value, y1.place.name, y1.place.slot, y1.place.size, y1.place.args⟩ ⟨a, b⟩).2.b)⟩).2.a), ((resX ks ps13 9 ⟨y1.value.op, y1.value.value, y1.value.name, y1.value.slot, y1.value.size, y1.value.args⟩ ⟨((resX ks ps12 9 ⟨y1.place.op, y1.place.value, y1.place.name, y1.place.slot, y1.place.size, y1.place.args⟩ ⟨a, b⟩).2.a), ((resX ks ps12 9 ⟨y1.place.op, y1.place.value, y1.place.name, y1.place.slot, y1.place.size, y1.place.args⟩ ⟨a, b⟩).2.b)⟩).2.b)⟩).1.map encSt), .sl 18 ((resS ks ps15 N y1.els ⟨((resS ks ps14 N y1.body ⟨((resX ks ps13 9 ⟨y1.value.op, y1.value.value, y1.value.name, y1.value.slot, y1.value.size, y1.value.args⟩ ⟨((resX ks ps12 9 ⟨y1.place.op, y1.place.value, y1.place.name, y1.place.slot, y1.place.size, y1.place.args⟩ ⟨a, b⟩).2.a), ((resX ks ps12 9 ⟨y1.place.op, y1.place.value, y1.place.name, y1.place.slot, y1.place.size, y1.place.args⟩ ⟨a, b⟩).2.b)⟩).2.a), ((resX ks ps13 9 ⟨y1.value.op, y1.value.value, y1.value.name, y1.value.slot, y1.value.size, y1.value.args⟩ ⟨((resX ks ps12 9 ⟨y1.place.op, y1.place.value, y1.place.name, y1.place.slot, y1.place.size, y1.place.args⟩ ⟨a, b⟩).2.a), ((resX ks ps12 9 ⟨y1.place.op, y1.place.value, y1.place.name, y1.place.slot, y1.place.size, y1.place.args⟩ ⟨a, b⟩).2.b)⟩).2.b)⟩).2.a), ((resS ks ps14 N y1.body ⟨((resX ks ps13 9 ⟨y1.value.op, y1.value.value, y1.value.name, y1.value.slot, y1.value.size, y1.value.args⟩ ⟨((resX ks ps12 9 ⟨y1.place.op, y1.place.value, y1.place.name, y1.place.slot, y1.place.size, y1.place.args⟩ ⟨a, b⟩).2.a), ((resX ks ps12 9 ⟨y1.place.op, y1.place.value, y1.place.name, y1.place.slot, y1.place.size, y1.place.args⟩ ⟨a, b⟩).2.b)⟩).2.a), ((resX ks ps13 9 ⟨y1.value.op, y1.value.value, y1.value.name, y1.value.slot, y1.value.size, y1.value.args⟩ ⟨((resX ks ps12 9 ⟨y1.place.op, y1.place.value, y1.place.name, y1.place.slot, y1.place.size, y1.place.args⟩ ⟨a, b⟩).2.a), ((resX ks ps12 9 ⟨y1.place.op, y1.place.value, y1.place.name, y1.place.slot, y1.place.size, y1.place.args⟩ ⟨a, b⟩).2.b)⟩).2.b)⟩).2.b)⟩).1.map encSt)])])), (9, .d (.sl 18 ss)), (10, .d (.int .i64 m)), (11, .d (.int .i64 (IntKind.i64.wrap (n + 1))))], [[.mpb .str ks vs], [.mp 0, .d (.bool ((resS ks ps15 N y1.els ⟨((resS ks ps14 N y1.body ⟨((resX ks ps13 9 ⟨y1.value.op, y1.value.value, y1.value.name, y1.value.slot, y1.value.size, y1.value.args⟩ ⟨((resX ks ps12 9 ⟨y1.place.op, y1.place.value, y1.place.name, y1.place.slot, y1.place.size, y1.place.args⟩ ⟨a, b⟩).2.a), ((resX ks ps12 9 ⟨y1.place.op, y1.place.value, y1.place.name, y1.place.slot, y1.place.size, y1.place.args⟩ ⟨a, b⟩).2.b)⟩).2.a), ((resX ks ps13 9 ⟨y1.value.op, y1.value.value, y1.value.name, y1.value.slot, y1.value.size, y1.value.args⟩ ⟨((resX ks ps12 9 ⟨y1.place.op, y1.place.value, y1.place.name, y1.place.slot, y1.place.size, y1.place.args⟩ ⟨a, b⟩).2.a), ((resX ks ps12 9 ⟨y1.place.op, y1.place.value, y1.place.name, y1.place.slot, y1.place.size, y1.place.args⟩ ⟨a, b⟩).2.b)⟩).2.b)⟩).2.a), ((resS ks ps14 N y1.body ⟨((resX ks ps13 9 ⟨y1.value.op, y1.value.value, y1.value.name, y1.value.slot, y1.value.size, y1.value.args⟩ ⟨((resX ks ps12 9 ⟨y1.place.op, y1.place.value, y1.place.name, y1.place.slot, y1.place.size, y1.place.args⟩ ⟨a, b⟩).2.a), ((resX ks ps12 9 ⟨y1.place.op, y1.place.value, y1.place.name, y1.place.slot, y1.place.size, y1.place.args⟩ ⟨a, b⟩).2.b)⟩).2.a), ((resX ks ps13 9 ⟨y1.value.op, y1.value.value, y1.value.name, y1.value.slot, y1.value.size, y1.value.args⟩ ⟨((resX ks ps12 9 ⟨y1.place.op, y1.place.value, y1.place.name, y1.place.slot, y1.place.size, y1.place.args⟩ ⟨a, b⟩).2.a), ((resX ks ps12 9 ⟨y1.place.op, y1.place.value, y1.place.name, y1.place.slot, y1.place.size, y1.place.args⟩ ⟨a, b⟩).2.b)⟩).2.b)⟩).2.b)⟩).2.a)), .d (.bool ((resS ks ps15 N y1.els ⟨((resS ks ps14 N y1.body ⟨((resX ks ps13 9 ⟨y1.value.op, y1.value.value, y1.value.name, y1.value.slot, y1.value.size, y1.value.args⟩ ⟨((resX ks ps12 9 ⟨y1.place.op, y1.place.value, y1.place.name, y1.place.slot, y1.place.size, y1.place.args⟩ ⟨a, b⟩).2.a), ((resX ks ps12 9 ⟨y1.place.op, y1.place.value, y1.place.name, y1.place.slot, y1.place.size, y1.place.args⟩ ⟨a, b⟩).2.b)⟩).2.a), ((resX ks ps13 9 ⟨y1.value.op, y1.value.value, y1.value.name, y1.value.slot, y1.value.size, y1.value.args⟩ ⟨((resX ks ps12 9 ⟨y1.place.op, y1.place.value, y1.place.name, y1.place.slot, y1.place.size, y1.place.args⟩ ⟨a, b⟩).2.a), ((resX ks ps12 9 ⟨y1.place.op, y1.place.value, y1.place.name, y1.place.slot, y1.place.size, y1.place.args⟩ ⟨a, b⟩).2.b)⟩).2.b)⟩).2.a), ((resS ks ps14 N y1.body ⟨((resX ks ps13 9 ⟨y1.value.op, y1.value.value, y1.value.name, y1.value.slot, y1.value.size, y1.value.args⟩ ⟨((resX ks ps12 9 ⟨y1.place.op, y1.place.value, y1.place.name, y1.place.slot, y1.place.size, y1.place.args⟩ ⟨a, b⟩).2.a), ((resX ks ps12 9 ⟨y1.place.op, y1.place.value, y1.place.name, y1.place.slot, y1.place.size, y1.place.args⟩ ⟨a, b⟩).2.b)⟩).2.a), ((resX ks ps13 9 ⟨y1.value.op, y1.value.value, y1.value.name, y1.value.slot, y1.value.size, y1.value.args⟩ ⟨((resX ks ps12 9 ⟨y1.place.op, y1.place.value, y1.place.name, y1.place.slot, y1.place.size, y1.place.args⟩ ⟨a, b⟩).2.a), ((resX ks ps12 9 ⟨y1.place.op, y1.place.value, y1.place.name, y1.place.slot, y1.place.size, y1.place.args⟩ ⟨a, b⟩).2.b)⟩).2.b)⟩).2.b)⟩).2.b))]]⟩))
 (.fail))
 (.fail))
 (.fail))
 (.fail))
 (.fail))))
 (.fail))
 (.leaf ((.ext 0), ⟨[(5, .osl 18 out)], [[.mpb .str ks vs], [.mp 0, .d (.bool a), .d (.bool b)]]⟩)) : Tr (Ex × ST)) := by kernel_rfl

theorem tree_all (N : Nat) (ss : List DV) (ks : List DV) (vs : List AV) (a b : Bool) : fnT (Xal N) (c_all N) Tryd.f23.results.toList [.hp 1 0, .d (.sl 18 ss)] [[.mpb .str ks vs], [.mp 0, .d (.bool a), .d (.bool b)]] = (
    .opt (unM vs) fun ps1 => .opt (unL unSt ss) fun l2 => .br (decide (ks.length = ps1.length ∧ (ss.length : Int) = l2.length ∧ 0 ≤ (0 : Int) ∧ (0 : Int) ≤ (ss.length : Int) ∧ (ss.length : Int) ≤ 100000 ∧ ([] : List DV).length = (0 : Int).toNat) && l2.all (fit1 N))
 (.leaf (.d (.sl 18 (([] : List DV) ++ (resQ (res1 ks ps1 (resS ks ps1 N)) (l2.drop (0 : Int).toNat) ⟨a, b⟩).1.map encSt)), [[.mpb .str ks vs], [.mp 0, .d (.bool ((resQ (res1 ks ps1 (resS ks ps1 N)) (l2.drop (0 : Int).toNat) ⟨a, b⟩).2.a)), .d (.bool ((resQ (res1 ks ps1 (resS ks ps1 N)) (l2.drop (0 : Int).toNat) ⟨a, b⟩).2.b))]]))
 (.fail) : Tr (AV × Hp)) := by kernel_rfl


theorem sum_all_0 (N : Nat) (h : FnOK Tryd.prog gl 23 (allT N)) : SumOK Tryd.prog gl (ann 23) (L_all_0 N) (.loop l_all_0) := by
  refine SumOK.of_inv (X := Xal N) (xok_Xal N h 23) (by simp only [Sums, l_all_0, and_true]) (by kernel_rfl) (lv := [0, 5, 9, 10, 11]) (rt := [4]) (xs := [(0, [5])]) (by decide)
    (fun k st r => ∃ (out : List DV) (l : List St) (n : Nat) (ks : List DV) (vs : List AV) (ps : List Plc) (mk : Mk), unM vs = some ps ∧ ks.length = ps.length ∧ n ≤ l.length ∧ (l.length : Int) ≤ 100000 ∧ l.all (fit1 N) = true ∧ out.length = n ∧
      st = ⟨[(0, .hp 1 0), (5, .osl 18 out), (9, .d (.sl 18 (l.map encSt))), (10, .d (.int .i64 (l.length : Int))), (11, .d (.int .i64 (n : Int)))], hpM ks vs mk⟩ ∧
      r = (.ext 0, ⟨[(5, .osl 18 (out ++ (resQ (res1 ks ps (resS ks ps N)) (l.drop n) mk).1.map encSt))], hpM ks vs (resQ (res1 ks ps (resS ks ps N)) (l.drop n) mk).2⟩) ∧ k = l.length - n) ?_ ?_
  · intro st r h
    unfold L_all_0 at h
    split at h
    · rename_i out ss m n ks vs a b
      obtain ⟨ps, hp, h0⟩ := Tr.opt_some h
      obtain ⟨l, hl, h00⟩ := Tr.opt_some h0
      obtain rfl := unL_inv unSt_ok hl
      rcases Tr.br_some h00 with ⟨h1, h2⟩ | ⟨_, h2⟩
      · simp only [Bool.and_eq_true, decide_eq_true_eq] at h1
        obtain ⟨⟨h3, rfl, h4, h5, h6, h7⟩, h8⟩ := h1
        obtain ⟨k, rfl⟩ := Int.eq_ofNat_of_zero_le h4
        exact ⟨_, out, l, k, ks, vs, ps, ⟨a, b⟩, hp, h3, by omega, h6, h8, h7, rfl, (Tr.leaf_some h2).symm, rfl⟩
      · exact Tr.fail_some h2
    · exact Tr.fail_some h
  · rintro k st r ⟨out, l, n, ks, vs, ps, mk, hp, hkl, h1, h2, h3, h4, rfl, rfl, rfl⟩
    unfold hpM
    rw [body_all_0]
    cases hb : l[n]? with
    | none =>
      have hl : l.length ≤ n := by simpa using hb
      have he : l.drop n = [] := List.drop_eq_nil_of_le hl
      refine ⟨.ext 0, _, Tr.dec_no (by omega) rfl, .inl ⟨by simp, by rw [he]; simp [resQ]⟩⟩
    | some y =>
      have hl := (List.getElem?_eq_some_iff.1 hb).1
      have hfit : fit1 N y = true := (List.all_eq_true.1 h3) y (List.mem_of_getElem? hb)
      simp only [fit1, Bool.and_eq_true] at hfit
      obtain ⟨f1, f2, f3, f4, _⟩ := hfit
      have k1 : decide (ks.length = ps.length) = true := decide_eq_true hkl
      have hdr : l.drop n = y :: l.drop (n + 1) := by
        rw [List.drop_eq_getElem_cons hl]; congr 1; exact (List.getElem?_eq_some_iff.1 hb).2
      have hw : IntKind.i64.wrap ((n : Int) + 1) = ((n + 1 : Nat) : Int) := by rw [wrap_in] <;> omega
      have hat : ((l.map encSt)[(Int.toNat (n : Int))]?).bind unSt = some y := by simp [hb, unSt_enc]
      refine ⟨.nrm, ⟨[(0, .hp 1 0), (5, .osl 18 (out ++ [encSt (res1 ks ps (resS ks ps N) y mk).1])), (9, .d (.sl 18 (l.map encSt))), (10, .d (.int .i64 (l.length : Int))), (11, .d (.int .i64 ((n + 1 : Nat) : Int)))], hpM ks vs (res1 ks ps (resS ks ps N) y mk).2⟩,
        Tr.dec_yes (by omega) (Tr.dec_yes (by omega) (Tr.opt_to hat ?_)),
        .inr ⟨rfl, _, ?_, out ++ [encSt (res1 ks ps (resS ks ps N) y mk).1], l, n + 1, ks, vs, ps, (res1 ks ps (resS ks ps N) y mk).2, hp, hkl, by omega, h2, h3, by simp [h4], rfl, ?_, rfl⟩⟩
      · rw [hw]
        have ha : (out.length + 1) * 232 ≤ 70368744177664 := by omega
        by_cases a1 : y.kind = 1
        · refine Tr.dec_yes a1 (Tr.opt_to hp ((Tr.run_yes k1).trans (Tr.opt_to hp ((Tr.run_yes (by rw [k1, Bool.true_and]; exact f1)).trans (Tr.opt_to hp ((Tr.run_yes (by rw [k1, Bool.true_and]; exact f2)).trans (Tr.opt_to hp ((Tr.run_yes (by rw [k1, Bool.true_and]; exact f3)).trans (Tr.opt_to hp ((Tr.run_yes (by rw [k1, Bool.true_and]; exact f4)).trans ((Tr.run_yes (decide_eq_true ha)).trans ?_)))))))))))
          simp only [res1, headQ, a1, true_or, if_true]
          rfl
        · by_cases a2 : y.kind = 2
          · refine Tr.dec_no a1 (Tr.dec_yes a2 (Tr.opt_to hp ((Tr.run_yes k1).trans (Tr.opt_to hp ((Tr.run_yes (by rw [k1, Bool.true_and]; exact f1)).trans (Tr.opt_to hp ((Tr.run_yes (by rw [k1, Bool.true_and]; exact f2)).trans (Tr.opt_to hp ((Tr.run_yes (by rw [k1, Bool.true_and]; exact f3)).trans (Tr.opt_to hp ((Tr.run_yes (by rw [k1, Bool.true_and]; exact f4)).trans ((Tr.run_yes (decide_eq_true ha)).trans ?_))))))))))))
            simp only [res1, headQ, a2, or_true, if_true]
            rfl
          · refine Tr.dec_no a1 (Tr.dec_no a2 (Tr.opt_to hp ((Tr.run_yes (by rw [k1, Bool.true_and]; exact f1)).trans (Tr.opt_to hp ((Tr.run_yes (by rw [k1, Bool.true_and]; exact f2)).trans (Tr.opt_to hp ((Tr.run_yes (by rw [k1, Bool.true_and]; exact f3)).trans (Tr.opt_to hp ((Tr.run_yes (by rw [k1, Bool.true_and]; exact f4)).trans ((Tr.run_yes (decide_eq_true ha)).trans ?_))))))))))
            simp only [res1, headQ, a1, a2, or_self, if_false]
            rfl
      · omega
      · rw [hdr]
        simp only [resQ, List.map_cons, List.append_assoc, List.singleton_append]

theorem ok_all : ∀ N : Nat, FnOK Tryd.prog gl 23 (allT N)
  | 0 => by
    refine ⟨⟨_, Tryd.func23, rfl⟩, fun ar H v H' h => ?_⟩
    unfold allT at h
    split at h
    · obtain ⟨ps, hp, h⟩ := Tr.opt_some h
      rcases Tr.br_some h with ⟨h1, h2⟩ | ⟨_, h2⟩
      · simp [fitS] at h1
      · exact Tr.fail_some h2
    · exact Tr.fail_some h
  | N + 1 => by
    have ih := ok_all N
    refine fn_of (X := Xal N) (xok_Xal N ih 23) Tryd.func23 (c_all_eq N) (by kernel_rfl) (by simp only [Sums, c_all, and_true, true_and]; exact sum_all_0 N ih) ?_
    intro ar H r h
    unfold allT at h
    split at h
    · rename_i ss ks vs a b
      rw [tree_all]
      obtain ⟨ps, hp, h⟩ := Tr.opt_some h
      rcases Tr.br_some h with ⟨h1, h2⟩ | ⟨_, h2⟩
      · obtain rfl := Tr.leaf_some h2
        simp only [Bool.and_eq_true, decide_eq_true_eq] at h1
        obtain ⟨hkl, h1⟩ := h1
        unfold fitS at h1
        split at h1
        · rename_i l hl
          simp only [Bool.and_eq_true, decide_eq_true_eq] at h1
          obtain ⟨h3, h4⟩ := h1
          have h5 : l.all (fit1 N) = true := h4
          have hlen : ss.length = l.length := by rw [unL_inv unSt_ok hl, List.length_map]
          refine Tr.opt_to hp (Tr.opt_to hl ((Tr.run_yes (by rw [h5, Bool.and_true]; exact decide_eq_true ⟨hkl, by omega, by omega, by omega, by omega, rfl⟩)).trans ?_))
          have hr : resS ks ps (N + 1) ss ⟨a, b⟩ = resQ (res1 ks ps (resS ks ps N)) l ⟨a, b⟩ := by simp only [resS, hl]
          rw [hr]
          rfl
        · simp at h1
      · exact Tr.fail_some h2
    · exact Tr.fail_some h
end Go.AI.RD
