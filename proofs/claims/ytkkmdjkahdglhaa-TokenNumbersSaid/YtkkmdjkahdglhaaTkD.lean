/- token.sign, token.one, in sum. -/
import Derived.Test.YtkkmdjkahdglhaaTkC
namespace Go.AI.TK
open Go Go.Proofs
set_option maxRecDepth 10000
set_option linter.unusedVariables false
set_option linter.unusedSimpArgs false

/-- How long the sign is that begins with these two bytes. -/
def signI (c d : Int) : Int :=
  if c = 38 ∨ c = 124 then (if d = c then 2 else 0)
  else if c = 61 ∨ c = 33 ∨ c = 60 ∨ c = 62 then (if d = 61 then 2 else 1)
  else if c = 40 ∨ c = 41 ∨ c = 123 ∨ c = 125 ∨ c = 91 ∨ c = 93 ∨ c = 44 ∨ c = 59 ∨ c = 43 ∨ c = 45 ∨ c = 42 ∨ c = 47 ∨ c = 37 then 1 else 0
def second (r : List UInt8) : Int := match r with | [] => 0 | d :: _ => (d.toNat : Int)
def signLen (s : List UInt8) : Int := match s with | [] => 0 | c :: r => signI (c.toNat : Int) (second r)

def oneRes (s : List UInt8) : TR :=
  match s with
  | [] => ⟨0, [], 0, 0, 1⟩
  | c :: r =>
    if isLet c = true then (if 16 < pre isWord s then ⟨0, [], 0, 0, 5⟩ else ⟨1, s.take (pre isWord s), 0, pre isWord s, 0⟩)
    else if isDig c = true then numRes s
    else if signLen s = 0 then ⟨0, [], 0, 0, 1⟩ else ⟨3, s.take (signLen s).toNat, 0, signLen s, 0⟩

def onePre (s : List UInt8) : Bool := decide ((s.length : Int) ≤ big) && !s.isEmpty

def signT : FT
  | [.d (.str s)], [] => .br (!s.isEmpty) (.leaf (.d (.int .i64 (signLen s)), [])) .fail
  | _, _ => .fail

def oneT : FT
  | [.d (.str s)], [] => .br (onePre s) (.leaf ((.tup [.agg [.d (.int .i64 (oneRes s).kd), .d (.str (oneRes s).tx), .d (.int .i64 (oneRes s).vl), .d (.int .i64 0)], .d (.int .i64 (oneRes s).ln), .d (.int .i64 (oneRes s).er)]), [])) .fail
  | _, _ => .fail

noncomputable abbrev Xsign : TX := ⟨Try.prog, tbl [], iso, gl, vw⟩

theorem xok_Xsign (f : Nat) : XOK Xsign (ann f) gl := XOK.of base (l := []) trivial f

/-- rollbacknet/token.sign -/
def c_sign : CC := .seq (.region [
    ⟨.yes, (some 2), .assign (.const (.int .i64 (0))), false, false, []⟩] [0]) <|
  .seq (.region [
    ⟨.yes, (some 3), .assign (.const (.int .u8 (0))), false, false, []⟩] [0, 3]) <|
  .seq (.seq (.region [
    ⟨.yes, (some 4), .move (.tmp 0), false, false, []⟩,
    ⟨.yes, (some 5), .call ⟨.builtin .len, #[(.tmp 4)], #[9]⟩, false, false, []⟩,
    ⟨.yes, (some 6), .binOp .gtr 3 (.tmp 5) (.const (.int .i64 (1))) 3, false, false, []⟩] [0, 3, 6]) <|
  .cond (.tmp 6)
    (.region [
      ⟨.yes, (some 7), .move (.tmp 0), false, false, []⟩,
      ⟨.yes, (some 8), .index 9 (.tmp 7) (.const (.int .i64 (1))), false, false, []⟩,
      ⟨.yes, (some 3), .assign (.tmp 8), true, false, []⟩] [0, 3])
    (.skip)) <|
  .seq (.seq (.region [
    ⟨.yes, (some 9), .move (.tmp 0), false, false, []⟩,
    ⟨.yes, (some 10), .index 9 (.tmp 9) (.const (.int .i64 (0))), false, false, []⟩] [0, 3, 10]) <|
  .block 0 <| .seq (.block 3 <| .seq (.block 2 <| .seq (.block 1 <| .seq (.seq (.seq (.seq (.region [
    ⟨.yes, (some 12), .binOp .eql 5 (.tmp 10) (.const (.int .u8 (38))) 5, false, false, []⟩,
    ⟨.yes, (some 11), .assign (.tmp 12), true, false, []⟩] [0, 3, 10, 11]) <|
  .cond (.tmp 11)
    (.skip)
    (.region [
      ⟨.yes, (some 13), .binOp .eql 5 (.tmp 10) (.const (.int .u8 (124))) 5, false, false, []⟩,
      ⟨.yes, (some 11), .assign (.tmp 13), true, false, []⟩] [0, 3, 10, 11])) <|
  .cond (.tmp 11)
    (.exit 1)
    (.skip)) <|
  .seq (.seq (.seq (.region [
    ⟨.yes, (some 15), .binOp .eql 5 (.tmp 10) (.const (.int .u8 (61))) 5, false, false, []⟩,
    ⟨.yes, (some 14), .assign (.tmp 15), true, false, []⟩] [3, 10, 14]) <|
  .cond (.tmp 14)
    (.skip)
    (.seq (.region [
      ⟨.yes, (some 16), .binOp .eql 5 (.tmp 10) (.const (.int .u8 (33))) 5, false, false, []⟩,
      ⟨.yes, (some 14), .assign (.tmp 16), true, false, []⟩] [3, 10, 14]) <|
    .cond (.tmp 14)
      (.skip)
      (.seq (.region [
        ⟨.yes, (some 17), .binOp .eql 5 (.tmp 10) (.const (.int .u8 (60))) 5, false, false, []⟩,
        ⟨.yes, (some 14), .assign (.tmp 17), true, false, []⟩] [3, 10, 14]) <|
      .cond (.tmp 14)
        (.skip)
        (.region [
          ⟨.yes, (some 18), .binOp .eql 5 (.tmp 10) (.const (.int .u8 (62))) 5, false, false, []⟩,
          ⟨.yes, (some 14), .assign (.tmp 18), true, false, []⟩] [3, 10, 14])))) <|
  .cond (.tmp 14)
    (.exit 2)
    (.skip)) <|
  .seq (.seq (.region [
    ⟨.yes, (some 20), .binOp .eql 5 (.tmp 10) (.const (.int .u8 (40))) 5, false, false, []⟩,
    ⟨.yes, (some 19), .assign (.tmp 20), true, false, []⟩] [10, 19]) <|
  .cond (.tmp 19)
    (.skip)
    (.seq (.region [
      ⟨.yes, (some 21), .binOp .eql 5 (.tmp 10) (.const (.int .u8 (41))) 5, false, false, []⟩,
      ⟨.yes, (some 19), .assign (.tmp 21), true, false, []⟩] [10, 19]) <|
    .cond (.tmp 19)
      (.skip)
      (.seq (.region [
        ⟨.yes, (some 22), .binOp .eql 5 (.tmp 10) (.const (.int .u8 (123))) 5, false, false, []⟩,
        ⟨.yes, (some 19), .assign (.tmp 22), true, false, []⟩] [10, 19]) <|
      .cond (.tmp 19)
        (.skip)
        (.seq (.region [
          ⟨.yes, (some 23), .binOp .eql 5 (.tmp 10) (.const (.int .u8 (125))) 5, false, false, []⟩,
          ⟨.yes, (some 19), .assign (.tmp 23), true, false, []⟩] [10, 19]) <|
        .cond (.tmp 19)
          (.skip)
          (.seq (.region [
            ⟨.yes, (some 24), .binOp .eql 5 (.tmp 10) (.const (.int .u8 (91))) 5, false, false, []⟩,
            ⟨.yes, (some 19), .assign (.tmp 24), true, false, []⟩] [10, 19]) <|
          .cond (.tmp 19)
            (.skip)
            (.seq (.region [
              ⟨.yes, (some 25), .binOp .eql 5 (.tmp 10) (.const (.int .u8 (93))) 5, false, false, []⟩,
              ⟨.yes, (some 19), .assign (.tmp 25), true, false, []⟩] [10, 19]) <|
            .cond (.tmp 19)
              (.skip)
              (.seq (.region [
                ⟨.yes, (some 26), .binOp .eql 5 (.tmp 10) (.const (.int .u8 (44))) 5, false, false, []⟩,
                ⟨.yes, (some 19), .assign (.tmp 26), true, false, []⟩] [10, 19]) <|
              .cond (.tmp 19)
                (.skip)
                (.seq (.region [
                  ⟨.yes, (some 27), .binOp .eql 5 (.tmp 10) (.const (.int .u8 (59))) 5, false, false, []⟩,
                  ⟨.yes, (some 19), .assign (.tmp 27), true, false, []⟩] [10, 19]) <|
                .cond (.tmp 19)
                  (.skip)
                  (.seq (.region [
                    ⟨.yes, (some 28), .binOp .eql 5 (.tmp 10) (.const (.int .u8 (43))) 5, false, false, []⟩,
                    ⟨.yes, (some 19), .assign (.tmp 28), true, false, []⟩] [10, 19]) <|
                  .cond (.tmp 19)
                    (.skip)
                    (.seq (.region [
                      ⟨.yes, (some 29), .binOp .eql 5 (.tmp 10) (.const (.int .u8 (45))) 5, false, false, []⟩,
                      ⟨.yes, (some 19), .assign (.tmp 29), true, false, []⟩] [10, 19]) <|
                    .cond (.tmp 19)
                      (.skip)
                      (.seq (.region [
                        ⟨.yes, (some 30), .binOp .eql 5 (.tmp 10) (.const (.int .u8 (42))) 5, false, false, []⟩,
                        ⟨.yes, (some 19), .assign (.tmp 30), true, false, []⟩] [10, 19]) <|
                      .cond (.tmp 19)
                        (.skip)
                        (.seq (.region [
                          ⟨.yes, (some 31), .binOp .eql 5 (.tmp 10) (.const (.int .u8 (47))) 5, false, false, []⟩,
                          ⟨.yes, (some 19), .assign (.tmp 31), true, false, []⟩] [10, 19]) <|
                        .cond (.tmp 19)
                          (.skip)
                          (.region [
                            ⟨.yes, (some 32), .binOp .eql 5 (.tmp 10) (.const (.int .u8 (37))) 5, false, false, []⟩,
                            ⟨.yes, (some 19), .assign (.tmp 32), true, false, []⟩] [19]))))))))))))) <|
  .cond (.tmp 19)
    (.exit 3)
    (.skip)) <|
  .exit 0) <|
  .seq (.seq (.seq (.region [
    ⟨.yes, (some 33), .move (.tmp 3), true, false, []⟩,
    ⟨.yes, (some 34), .move (.tmp 0), true, false, []⟩,
    ⟨.yes, (some 35), .index 9 (.tmp 34) (.const (.int .i64 (0))), false, false, []⟩,
    ⟨.yes, (some 36), .binOp .eql 5 (.tmp 33) (.tmp 35) 5, false, false, []⟩] [36]) <|
  .cond (.tmp 36)
    (.seq (.region [
      ⟨.yes, (some 2), .assign (.const (.int .i64 (2))), false, false, []⟩] [2]) <|
    .ret)
    (.skip)) <|
  .seq (.region [
    ⟨.yes, (some 2), .assign (.const (.int .i64 (0))), false, false, []⟩] [2]) <|
  .ret) <|
  .exit 0) <|
  .seq (.region [
    ⟨.yes, (some 37), .move (.tmp 3), true, false, []⟩,
    ⟨.yes, (some 38), .binOp .eql 5 (.tmp 37) (.const (.int .u8 (61))) 5, false, false, []⟩] [38]) <|
  .cond (.tmp 38)
    (.seq (.region [
      ⟨.yes, (some 2), .assign (.const (.int .i64 (2))), false, false, []⟩] [2]) <|
    .ret)
    (.skip)) <|
  .seq (.seq (.region [
    ⟨.yes, (some 2), .assign (.const (.int .i64 (1))), false, false, []⟩] [2]) <|
  .ret) <|
  .exit 0) <|
  .seq (.region [
    ⟨.yes, (some 2), .assign (.const (.int .i64 (0))), false, false, []⟩] [2]) <|
  .ret

theorem c_sign_eq : ∃ c, Try.f25.body = some c ∧ codeOK Try.f25.ntmps c = true ∧ comp Try.prog (ann 25) c = erase c_sign := ⟨_, rfl, by kernel_rfl, by kernel_rfl⟩

theorem tree_sign (s : List UInt8) : fnT Xsign c_sign Try.f25.results.toList [.d (.str s)] [] = (
    .br (decide ((1 : Int) < (s.length : Int)))
    (.br (decide ((0 : Int) ≤ 1))
      (.opt (s[1]?) fun b1 => .br (decide ((0 : Int) ≤ 0))
        (.opt (s[0]?) fun b2 => .br (decide ((b2.toNat : Int) = 38))
          (.br (decide ((0 : Int) ≤ 0))
            (.opt (s[0]?) fun b3 => .br (decide ((b1.toNat : Int) = (b3.toNat : Int)))
              (.leaf ((.d (.int .i64 2)), []))
              (.leaf ((.d (.int .i64 0)), [])))
            (.fail))
          (.br (decide ((b2.toNat : Int) = 124))
            (.br (decide ((0 : Int) ≤ 0))
              (.opt (s[0]?) fun b4 => .br (decide ((b1.toNat : Int) = (b4.toNat : Int)))
                (.leaf ((.d (.int .i64 2)), []))
                (.leaf ((.d (.int .i64 0)), [])))
              (.fail))
            (.br (decide ((b2.toNat : Int) = 61))
              (.br (decide ((b1.toNat : Int) = 61))
                (.leaf ((.d (.int .i64 2)), []))
                (.leaf ((.d (.int .i64 1)), [])))
              (.br (decide ((b2.toNat : Int) = 33))
                (.br (decide ((b1.toNat : Int) = 61))
                  (.leaf ((.d (.int .i64 2)), []))
                  (.leaf ((.d (.int .i64 1)), [])))
                (.br (decide ((b2.toNat : Int) = 60))
                  (.br (decide ((b1.toNat : Int) = 61))
                    (.leaf ((.d (.int .i64 2)), []))
                    (.leaf ((.d (.int .i64 1)), [])))
                  (.br (decide ((b2.toNat : Int) = 62))
                    (.br (decide ((b1.toNat : Int) = 61))
                      (.leaf ((.d (.int .i64 2)), []))
                      (.leaf ((.d (.int .i64 1)), [])))
                    (.br (decide ((b2.toNat : Int) = 40))
                      (.leaf ((.d (.int .i64 1)), []))
                      (.br (decide ((b2.toNat : Int) = 41))
                        (.leaf ((.d (.int .i64 1)), []))
                        (.br (decide ((b2.toNat : Int) = 123))
                          (.leaf ((.d (.int .i64 1)), []))
                          (.br (decide ((b2.toNat : Int) = 125))
                            (.leaf ((.d (.int .i64 1)), []))
                            (.br (decide ((b2.toNat : Int) = 91))
                              (.leaf ((.d (.int .i64 1)), []))
                              (.br (decide ((b2.toNat : Int) = 93))
                                (.leaf ((.d (.int .i64 1)), []))
                                (.br (decide ((b2.toNat : Int) = 44))
                                  (.leaf ((.d (.int .i64 1)), []))
                                  (.br (decide ((b2.toNat : Int) = 59))
                                    (.leaf ((.d (.int .i64 1)), []))
                                    (.br (decide ((b2.toNat : Int) = 43))
                                      (.leaf ((.d (.int .i64 1)), []))
                                      (.br (decide ((b2.toNat : Int) = 45))
                                        (.leaf ((.d (.int .i64 1)), []))
                                        (.br (decide ((b2.toNat : Int) = 42))
                                          (.leaf ((.d (.int .i64 1)), []))
                                          (.br (decide ((b2.toNat : Int) = 47))
                                            (.leaf ((.d (.int .i64 1)), []))
                                            (.br (decide ((b2.toNat : Int) = 37))
                                              (.leaf ((.d (.int .i64 1)), []))
                                              (.leaf ((.d (.int .i64 0)), [])))))))))))))))))))))
        (.fail))
      (.fail))
    (.br (decide ((0 : Int) ≤ 0))
      (.opt (s[0]?) fun b5 => .br (decide ((b5.toNat : Int) = 38))
        (.br (decide ((0 : Int) ≤ 0))
          (.opt (s[0]?) fun b6 => .br (decide ((0 : Int) = (b6.toNat : Int)))
            (.leaf ((.d (.int .i64 2)), []))
            (.leaf ((.d (.int .i64 0)), [])))
          (.fail))
        (.br (decide ((b5.toNat : Int) = 124))
          (.br (decide ((0 : Int) ≤ 0))
            (.opt (s[0]?) fun b7 => .br (decide ((0 : Int) = (b7.toNat : Int)))
              (.leaf ((.d (.int .i64 2)), []))
              (.leaf ((.d (.int .i64 0)), [])))
            (.fail))
          (.br (decide ((b5.toNat : Int) = 61))
            (.br (decide ((0 : Int) = 61))
              (.leaf ((.d (.int .i64 2)), []))
              (.leaf ((.d (.int .i64 1)), [])))
            (.br (decide ((b5.toNat : Int) = 33))
              (.br (decide ((0 : Int) = 61))
                (.leaf ((.d (.int .i64 2)), []))
                (.leaf ((.d (.int .i64 1)), [])))
              (.br (decide ((b5.toNat : Int) = 60))
                (.br (decide ((0 : Int) = 61))
                  (.leaf ((.d (.int .i64 2)), []))
                  (.leaf ((.d (.int .i64 1)), [])))
                (.br (decide ((b5.toNat : Int) = 62))
                  (.br (decide ((0 : Int) = 61))
                    (.leaf ((.d (.int .i64 2)), []))
                    (.leaf ((.d (.int .i64 1)), [])))
                  (.br (decide ((b5.toNat : Int) = 40))
                    (.leaf ((.d (.int .i64 1)), []))
                    (.br (decide ((b5.toNat : Int) = 41))
                      (.leaf ((.d (.int .i64 1)), []))
                      (.br (decide ((b5.toNat : Int) = 123))
                        (.leaf ((.d (.int .i64 1)), []))
                        (.br (decide ((b5.toNat : Int) = 125))
                          (.leaf ((.d (.int .i64 1)), []))
                          (.br (decide ((b5.toNat : Int) = 91))
                            (.leaf ((.d (.int .i64 1)), []))
                            (.br (decide ((b5.toNat : Int) = 93))
                              (.leaf ((.d (.int .i64 1)), []))
                              (.br (decide ((b5.toNat : Int) = 44))
                                (.leaf ((.d (.int .i64 1)), []))
                                (.br (decide ((b5.toNat : Int) = 59))
                                  (.leaf ((.d (.int .i64 1)), []))
                                  (.br (decide ((b5.toNat : Int) = 43))
                                    (.leaf ((.d (.int .i64 1)), []))
                                    (.br (decide ((b5.toNat : Int) = 45))
                                      (.leaf ((.d (.int .i64 1)), []))
                                      (.br (decide ((b5.toNat : Int) = 42))
                                        (.leaf ((.d (.int .i64 1)), []))
                                        (.br (decide ((b5.toNat : Int) = 47))
                                          (.leaf ((.d (.int .i64 1)), []))
                                          (.br (decide ((b5.toNat : Int) = 37))
                                            (.leaf ((.d (.int .i64 1)), []))
                                            (.leaf ((.d (.int .i64 0)), [])))))))))))))))))))))
      (.fail)) : Tr (AV × Hp)) := by kernel_rfl

theorem ok_sign : FnOK Try.prog gl 25 signT := by
  refine fn_of (X := Xsign) (xok_Xsign 25) Try.func25 c_sign_eq (by kernel_rfl) (by simp only [Sums, c_sign, and_true]) ?_
  intro xs H o h
  unfold signT at h
  split at h
  · rw [tree_sign]
    rcases Tr.br_some h with ⟨h1, h2⟩ | ⟨_, h2⟩
    · obtain rfl := Tr.leaf_some h2
      rename_i s
      cases s with
      | nil => cases h1
      | cons c r =>
        cases r with
        | nil =>
          simp only [Tr.run_br, Tr.run_leaf, Tr.run_opt_, decide_eq_true_eq, List.length_cons, List.length_nil, List.getElem?_cons_zero, signLen, second]
          rw [if_neg (by simp), if_pos (by decide)]
          generalize (c.toNat : Int) = x
          repeat' (refine ite_to (fun _ => ?_) (fun _ => ?_))
          all_goals first
            | omega
            | (congr 4; symm; unfold signI; repeat' (refine ite_to (fun _ => ?_) (fun _ => ?_))) <;> omega
        | cons d r =>
          simp only [Tr.run_br, Tr.run_leaf, Tr.run_opt_, decide_eq_true_eq, List.length_cons, List.getElem?_cons_zero, List.getElem?_cons_succ, signLen, second]
          rw [if_pos (by omega), if_pos (by decide), if_pos (by decide)]
          generalize (c.toNat : Int) = x
          generalize (d.toNat : Int) = y
          repeat' (refine ite_to (fun _ => ?_) (fun _ => ?_))
          all_goals first
            | omega
            | (congr 4; symm; unfold signI; repeat' (refine ite_to (fun _ => ?_) (fun _ => ?_))) <;> omega
    · exact Tr.fail_some h2
  · exact Tr.fail_some h

noncomputable abbrev Xone : TX := ⟨Try.prog, tbl [(19, letterT), (23, digitT), (20, runT), (24, numberT), (25, signT)], iso, gl, vw⟩

theorem xok_Xone (f : Nat) : XOK Xone (ann f) gl := XOK.of base (l := [(19, letterT), (23, digitT), (20, runT), (24, numberT), (25, signT)]) ⟨ok_letter, ok_digit, ok_run, ok_number, ok_sign, trivial⟩ f

/-- rollbacknet/token.one -/
def c_one : CC := .seq (.region [
    ⟨.yes, (some 2), .alloc 31, false, false, []⟩,
    ⟨.yes, (some 3), .assign (.const (.int .i64 (0))), false, false, []⟩,
    ⟨.yes, (some 4), .assign (.const (.int .i64 (0))), false, false, []⟩] [0, 2]) <|
  .seq (.block 0 <| .seq (.region [
    ⟨.yes, (some 8), .move (.tmp 0), false, false, []⟩,
    ⟨.yes, (some 9), .index 9 (.tmp 8) (.const (.int .i64 (0))), false, false, []⟩,
    ⟨.yes, (some 10), .call ⟨.value (.func 19), #[(.tmp 9)], #[5]⟩, false, false, []⟩,
    ⟨.yes, (some 7), .assign (.tmp 10), true, false, []⟩] [0, 2, 7]) <|
  .cond (.tmp 7)
    (.seq (.region [
      ⟨.yes, (some 11), .move (.tmp 0), false, false, []⟩,
      ⟨.yes, (some 12), .call ⟨.value (.func 20), #[(.tmp 11)], #[9]⟩, false, false, []⟩,
      ⟨.yes, (some 5), .assign (.tmp 12), true, false, []⟩] [0, 2, 5]) <|
    .seq (.seq (.region [
      ⟨.yes, (some 13), .move (.tmp 5), false, false, []⟩,
      ⟨.yes, (some 14), .binOp .gtr 3 (.tmp 13) (.const (.int .i64 (16))) 3, false, false, []⟩] [0, 2, 5, 14]) <|
    .cond (.tmp 14)
      (.seq (.region [
        ⟨.yes, (some 15), .build 31 #[], false, false, []⟩,
        ⟨.yes, none, .store 31 (.tmp 2) (.tmp 15), true, false, []⟩,
        ⟨.yes, (some 3), .assign (.const (.int .i64 (0))), false, false, []⟩,
        ⟨.yes, (some 4), .assign (.const (.int .i64 (5))), false, false, []⟩] [2, 3, 4]) <|
      .ret)
      (.skip)) <|
    .seq (.region [
      ⟨.yes, (some 16), .move (.tmp 0), true, false, []⟩,
      ⟨.yes, (some 17), .move (.tmp 5), false, false, []⟩,
      ⟨.yes, (some 18), .slice 9 (.tmp 16) none (some (.tmp 17)) none, false, false, []⟩,
      ⟨.yes, (some 19), .build 31 #[(0, (.const (.int .i64 (1)))), (1, (.tmp 18))], true, false, []⟩,
      ⟨.yes, (some 20), .move (.tmp 5), true, false, []⟩,
      ⟨.yes, none, .store 31 (.tmp 2) (.tmp 19), true, false, []⟩,
      ⟨.yes, (some 3), .assign (.tmp 20), true, false, []⟩,
      ⟨.yes, (some 4), .assign (.const (.int .i64 (0))), false, false, []⟩] [2, 3, 4]) <|
    .ret)
    (.seq (.region [
      ⟨.yes, (some 22), .move (.tmp 0), false, false, []⟩,
      ⟨.yes, (some 23), .index 9 (.tmp 22) (.const (.int .i64 (0))), false, false, []⟩,
      ⟨.yes, (some 24), .call ⟨.value (.func 23), #[(.tmp 23)], #[5]⟩, false, false, []⟩,
      ⟨.yes, (some 21), .assign (.tmp 24), true, false, []⟩] [0, 2, 21]) <|
    .cond (.tmp 21)
      (.seq (.region [
        ⟨.yes, (some 25), .move (.tmp 0), true, false, []⟩,
        ⟨.yes, (some 26), .call ⟨.value (.func 24), #[(.tmp 25)], #[9]⟩, false, false, []⟩,
        ⟨.yes, (some 27), .extract (.tmp 26) 0, false, false, []⟩,
        ⟨.yes, (some 28), .extract (.tmp 26) 1, false, false, []⟩,
        ⟨.yes, (some 29), .extract (.tmp 26) 2, false, false, []⟩,
        ⟨.yes, none, .store 31 (.tmp 2) (.tmp 27), true, false, []⟩,
        ⟨.yes, (some 3), .assign (.tmp 28), true, false, []⟩,
        ⟨.yes, (some 4), .assign (.tmp 29), true, false, []⟩] [2, 3, 4]) <|
      .ret)
      (.skip))) <|
  .seq (.region [
    ⟨.yes, (some 30), .move (.tmp 0), false, false, []⟩,
    ⟨.yes, (some 31), .call ⟨.value (.func 25), #[(.tmp 30)], #[9]⟩, false, false, []⟩,
    ⟨.yes, (some 6), .assign (.tmp 31), true, false, []⟩] [0, 2, 6]) <|
  .seq (.seq (.region [
    ⟨.yes, (some 32), .move (.tmp 6), false, false, []⟩,
    ⟨.yes, (some 33), .binOp .eql 3 (.tmp 32) (.const (.int .i64 (0))) 3, false, false, []⟩] [0, 2, 6, 33]) <|
  .cond (.tmp 33)
    (.seq (.region [
      ⟨.yes, (some 34), .build 31 #[], false, false, []⟩,
      ⟨.yes, none, .store 31 (.tmp 2) (.tmp 34), true, false, []⟩,
      ⟨.yes, (some 3), .assign (.const (.int .i64 (0))), false, false, []⟩,
      ⟨.yes, (some 4), .assign (.const (.int .i64 (1))), false, false, []⟩] [2, 3, 4]) <|
    .ret)
    (.skip)) <|
  .seq (.region [
    ⟨.yes, (some 35), .move (.tmp 0), true, false, []⟩,
    ⟨.yes, (some 36), .move (.tmp 6), false, false, []⟩,
    ⟨.yes, (some 37), .slice 9 (.tmp 35) none (some (.tmp 36)) none, false, false, []⟩,
    ⟨.yes, (some 38), .build 31 #[(0, (.const (.int .i64 (3)))), (1, (.tmp 37))], true, false, []⟩,
    ⟨.yes, (some 39), .move (.tmp 6), true, false, []⟩,
    ⟨.yes, none, .store 31 (.tmp 2) (.tmp 38), true, false, []⟩,
    ⟨.yes, (some 3), .assign (.tmp 39), true, false, []⟩,
    ⟨.yes, (some 4), .assign (.const (.int .i64 (0))), false, false, []⟩] [2, 3, 4]) <|
  .ret

theorem c_one_eq : ∃ c, Try.f15.body = some c ∧ codeOK Try.f15.ntmps c = true ∧ comp Try.prog (ann 15) c = erase c_one := ⟨_, rfl, by kernel_rfl, by kernel_rfl⟩

theorem tree_one (s : List UInt8) : fnT Xone c_one Try.f15.results.toList [.d (.str s)] [] = (
    .br (decide ((0 : Int) ≤ 0))
    (.opt (s[0]?) fun b1 => .br (isLetter (b1.toNat : Int))
      (.br (decide ((s.length : Int) ≤ big))
        (.br (decide ((16 : Int) < (pre isWord s : Int)))
          (.leaf ((.tup [(.agg [(.d (.int .i64 0)), (.d (.str [])), (.d (.int .i64 0)), (.d (.int .i64 0))]), (.d (.int .i64 0)), (.d (.int .i64 5))]), []))
          (.br (decide ((0 : Int) ≤ 0 ∧ (0 : Int) ≤ (pre isWord s : Int) ∧ (pre isWord s : Int) ≤ (s.length : Int)))
            (.leaf ((.tup [(.agg [(.d (.int .i64 1)), (.d (.str (List.drop 0 (List.take (Int.toNat (pre isWord s : Int)) s)))), (.d (.int .i64 0)), (.d (.int .i64 0))]), (.d (.int .i64 (pre isWord s : Int))), (.d (.int .i64 0))]), []))
            (.fail)))
        (.fail))
      (.br (decide ((0 : Int) ≤ 0))
        (.opt (s[0]?) fun b2 => .br (isDigit (b2.toNat : Int))
          (.br (numPre s)
            (.leaf ((.tup [(.agg [(.d (.int .i64 ((numRes s).kd))), (.d (.str ((numRes s).tx))), (.d (.int .i64 ((numRes s).vl))), (.d (.int .i64 0))]), (.d (.int .i64 ((numRes s).ln))), (.d (.int .i64 ((numRes s).er)))]), []))
            (.fail))
          (.br (!s.isEmpty)
            (.br (decide ((signLen s) = 0))
              (.leaf ((.tup [(.agg [(.d (.int .i64 0)), (.d (.str [])), (.d (.int .i64 0)), (.d (.int .i64 0))]), (.d (.int .i64 0)), (.d (.int .i64 1))]), []))
              (.br (decide ((0 : Int) ≤ 0 ∧ (0 : Int) ≤ (signLen s) ∧ (signLen s) ≤ (s.length : Int)))
                (.leaf ((.tup [(.agg [(.d (.int .i64 3)), (.d (.str (List.drop 0 (List.take (Int.toNat (signLen s)) s)))), (.d (.int .i64 0)), (.d (.int .i64 0))]), (.d (.int .i64 (signLen s))), (.d (.int .i64 0))]), []))
                (.fail)))
            (.fail)))
        (.fail)))
    (.fail) : Tr (AV × Hp)) := by kernel_rfl


theorem signLen_le (c : UInt8) (r : List UInt8) : 0 ≤ signLen (c :: r) ∧ signLen (c :: r) ≤ ((c :: r).length : Int) := by
  have hc := c.toNat_lt
  cases r with
  | nil =>
    simp only [signLen, second, signI, List.length_cons, List.length_nil]
    constructor <;> repeat' split <;> omega
  | cons d r =>
    simp only [signLen, second, signI, List.length_cons]
    constructor <;> repeat' split <;> omega
theorem ok_one : FnOK Try.prog gl 15 oneT := by
  refine fn_of (X := Xone) (xok_Xone 15) Try.func15 c_one_eq (by kernel_rfl) (by simp only [Sums, c_one, and_true]) ?_
  intro xs H o h
  unfold oneT at h
  split at h
  · rw [tree_one]
    rcases Tr.br_some h with ⟨h1, h2⟩ | ⟨_, h2⟩
    · obtain rfl := Tr.leaf_some h2
      rename_i s
      simp only [onePre, Bool.and_eq_true, decide_eq_true_eq] at h1
      obtain ⟨h3, h4⟩ := h1
      cases s with
      | nil => cases h4
      | cons c r =>
        have hle := pre_le isWord (c :: r)
        refine Tr.dec_yes (by omega) (Tr.opt_to rfl ?_)
        cases hl : isLetter (c.toNat : Int) with
        | true =>
          rw [Tr.run_yes rfl]
          refine Tr.dec_yes h3 ?_
          by_cases hn : 16 < pre isWord (c :: r)
          · refine Tr.dec_yes (by omega) ?_
            simp [Tr.run_leaf, oneRes, isLet, hl, hn]
          · refine Tr.dec_no (by omega) (Tr.dec_yes (by omega) ?_)
            simp [Tr.run_leaf, oneRes, isLet, hl, hn]
        | false =>
          rw [Tr.run_no rfl]
          refine Tr.dec_yes (by omega) (Tr.opt_to rfl ?_)
          cases hd : isDigit (c.toNat : Int) with
          | true =>
            rw [Tr.run_yes rfl, Tr.run_yes (by simp [numPre, isDig, hd]; exact h3)]
            simp [Tr.run_leaf, oneRes, isLet, isDig, hl, hd]
          | false =>
            rw [Tr.run_no rfl, Tr.run_yes h4]
            have hs := signLen_le c r
            by_cases h0 : signLen (c :: r) = 0
            · refine Tr.dec_yes h0 ?_
              simp [Tr.run_leaf, oneRes, isLet, isDig, hl, hd, h0]
            · refine Tr.dec_no h0 (Tr.dec_yes (by omega) ?_)
              simp [Tr.run_leaf, oneRes, isLet, isDig, hl, hd, h0]
    · exact Tr.fail_some h2
  · exact Tr.fail_some h

end Go.AI.TK
