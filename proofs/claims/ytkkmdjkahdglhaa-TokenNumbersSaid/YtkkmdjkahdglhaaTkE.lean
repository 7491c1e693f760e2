/- token.Scan, in sum. -/
import Derived.Test.YtkkmdjkahdglhaaTkD
namespace Go.AI.TK
open Go Go.Proofs
set_option maxRecDepth 10000
set_option linter.unusedVariables false
set_option linter.unusedSimpArgs false

def notNl (b : UInt8) : Bool := !decide ((b.toNat : Int) = 10)
def isBlank (b : UInt8) : Bool := decide ((b.toNat : Int) = 32) || decide ((b.toNat : Int) = 9) || decide ((b.toNat : Int) = 10) || decide ((b.toNat : Int) = 13)

/-- The tokens of a text from an offset on; or the first error's place, and the error. -/
def scanF : Nat → List UInt8 → Int → List Tok × Int × Int
  | 0, _, _ => ([], 0, 0)
  | k + 1, [], i => ([], 0, 0)
  | k + 1, c :: r, i =>
    if isBlank c = true then scanF k r (i + 1)
    else if (c.toNat : Int) = 35 then scanF k ((c :: r).drop (pre notNl (c :: r))) (i + pre notNl (c :: r))
    else if (oneRes (c :: r)).er = 0 then
      (⟨(oneRes (c :: r)).kd, (oneRes (c :: r)).tx, (oneRes (c :: r)).vl, i⟩ :: (scanF k ((c :: r).drop (oneRes (c :: r)).ln.toNat) (i + (oneRes (c :: r)).ln)).1, (scanF k ((c :: r).drop (oneRes (c :: r)).ln.toNat) (i + (oneRes (c :: r)).ln)).2)
    else ([], i, (oneRes (c :: r)).er)

def scan (s : List UInt8) : List Tok × Int × Int :=
  if 4096 < (s.length : Int) then ([], 0, 5)
  else if (scanF (s.length + 1) s 0).2.2 = 0 then ((scanF (s.length + 1) s 0).1, 0, 0) else ([], (scanF (s.length + 1) s 0).2)

def scanPre (s : List UInt8) (i : Int) (n : Nat) : Prop := 0 ≤ i ∧ i ≤ s.length ∧ (s.length : Int) ≤ 4096 ∧ (n : Int) ≤ i
instance (s : List UInt8) (i : Int) (n : Nat) : Decidable (scanPre s i n) := by unfold scanPre; infer_instance

def L_scan_0 : ST → Tr (Ex × ST)
  | ⟨[(0, .d (.str s)), (5, .osl 4 xs), (6, .d (.int .i64 n))], []⟩ => .br (decide (0 ≤ n ∧ n ≤ s.length ∧ (s.length : Int) ≤ big)) (.leaf ((.ext 3), ⟨[(0, .d (.str s)), (5, .osl 4 xs), (6, .d (.int .i64 (n + (pre notNl (s.drop n.toNat) : Int))))], []⟩)) .fail
  | _ => .fail

def L_scan_1 : ST → Tr (Ex × ST)
  | ⟨[(0, .d (.str s)), (5, .osl 4 xs), (6, .d (.int .i64 n))], []⟩ => .br (decide (scanPre s n xs.length)) (.br (decide ((scanF (s.length + 1) (s.drop n.toNat) n).2.2 = 0)) (.leaf ((.ext 0), ⟨[(5, .osl 4 (xs ++ (scanF (s.length + 1) (s.drop n.toNat) n).1.map encTok))], []⟩)) (.leaf (.ret, ⟨[(2, .osl 4 []), (3, .d (.int .i64 (scanF (s.length + 1) (s.drop n.toNat) n).2.1)), (4, .d (.int .i64 (scanF (s.length + 1) (s.drop n.toNat) n).2.2))], []⟩))) .fail
  | _ => .fail

def scanT : FT
  | [.d (.str s)], [] => .leaf ((.tup [.d (.sl 4 ((scan s).1.map encTok)), .d (.int .i64 (scan s).2.1), .d (.int .i64 (scan s).2.2)]), [])
  | _, _ => .fail

noncomputable abbrev Xscan : TX := ⟨Try.prog, tbl [(15, oneT)], iso, gl, vw⟩

theorem xok_Xscan (f : Nat) : XOK Xscan (ann f) gl := XOK.of base (l := [(15, oneT)]) ⟨ok_one, trivial⟩ f

def l_scan_0 : CC := .seq (.seq (.region [
    ⟨.yes, (some 41), .move (.tmp 6), false, false, []⟩,
    ⟨.yes, (some 42), .move (.tmp 0), false, false, []⟩,
    ⟨.yes, (some 43), .call ⟨.builtin .len, #[(.tmp 42)], #[9]⟩, false, false, []⟩,
    ⟨.yes, (some 44), .binOp .lss 3 (.tmp 41) (.tmp 43) 3, false, false, []⟩,
    ⟨.yes, (some 45), .move (.tmp 44), true, false, []⟩,
    ⟨(.on 45 true), (some 46), .move (.tmp 0), false, false, []⟩,
    ⟨(.on 45 true), (some 47), .move (.tmp 6), false, false, []⟩,
    ⟨(.on 45 true), (some 48), .index 9 (.tmp 46) (.tmp 47), false, false, []⟩,
    ⟨(.on 45 true), (some 49), .binOp .neq 5 (.tmp 48) (.const (.int .u8 (10))) 5, false, false, []⟩,
    ⟨.yes, (some 50), .pick (.tmp 45) (.tmp 49) (.const (.bool false)), false, false, []⟩] [0, 5, 6, 50]) <|
  .cond (.tmp 50)
    (.skip)
    (.exit 3)) <|
  .block 4 <| .region [
    ⟨.yes, (some 51), .move (.tmp 6), true, false, []⟩,
    ⟨.yes, (some 52), .binOp .add 3 (.tmp 51) (.const (.int .i64 (1))) 3, false, false, []⟩,
    ⟨.yes, (some 6), .assign (.tmp 52), true, false, []⟩] [0, 5, 6]

def l_scan_1 : CC := .seq (.seq (.region [
    ⟨.yes, (some 14), .move (.tmp 6), false, false, []⟩,
    ⟨.yes, (some 15), .move (.tmp 0), false, false, []⟩,
    ⟨.yes, (some 16), .call ⟨.builtin .len, #[(.tmp 15)], #[9]⟩, false, false, []⟩,
    ⟨.yes, (some 17), .binOp .lss 3 (.tmp 14) (.tmp 16) 3, false, false, []⟩] [0, 5, 6, 17]) <|
  .cond (.tmp 17)
    (.skip)
    (.exit 0)) <|
  .block 1 <| .seq (.seq (.region [
    ⟨.yes, (some 18), .move (.tmp 0), false, false, []⟩,
    ⟨.yes, (some 19), .move (.tmp 6), false, false, []⟩,
    ⟨.yes, (some 20), .index 9 (.tmp 18) (.tmp 19), false, false, []⟩,
    ⟨.yes, (some 7), .assign (.tmp 20), true, false, []⟩] [0, 5, 6, 7]) <|
  .block 2 <| .seq (.region [
    ⟨.yes, (some 22), .move (.tmp 7), false, false, []⟩,
    ⟨.yes, (some 23), .binOp .eql 5 (.tmp 22) (.const (.int .u8 (32))) 5, false, false, []⟩,
    ⟨.yes, (some 24), .move (.tmp 23), true, false, []⟩,
    ⟨(.on 24 false), (some 25), .move (.tmp 7), false, false, []⟩,
    ⟨(.on 24 false), (some 26), .binOp .eql 5 (.tmp 25) (.const (.int .u8 (9))) 5, false, false, []⟩,
    ⟨.yes, (some 27), .pick (.tmp 24) (.const (.bool true)) (.tmp 26), false, false, []⟩,
    ⟨.yes, (some 28), .move (.tmp 27), true, false, []⟩,
    ⟨(.on 28 false), (some 29), .move (.tmp 7), false, false, []⟩,
    ⟨(.on 28 false), (some 30), .binOp .eql 5 (.tmp 29) (.const (.int .u8 (10))) 5, false, false, []⟩,
    ⟨.yes, (some 31), .pick (.tmp 28) (.const (.bool true)) (.tmp 30), false, false, []⟩,
    ⟨.yes, (some 32), .move (.tmp 31), true, false, []⟩,
    ⟨(.on 32 false), (some 33), .move (.tmp 7), false, false, []⟩,
    ⟨(.on 32 false), (some 34), .binOp .eql 5 (.tmp 33) (.const (.int .u8 (13))) 5, false, false, []⟩,
    ⟨.yes, (some 35), .pick (.tmp 32) (.const (.bool true)) (.tmp 34), false, false, []⟩,
    ⟨.yes, (some 21), .assign (.tmp 35), true, false, []⟩] [0, 5, 6, 7, 21]) <|
  .cond (.tmp 21)
    (.seq (.region [
      ⟨.yes, (some 36), .move (.tmp 6), true, false, []⟩,
      ⟨.yes, (some 37), .binOp .add 3 (.tmp 36) (.const (.int .i64 (1))) 3, false, false, []⟩,
      ⟨.yes, (some 6), .assign (.tmp 37), true, false, []⟩] [0, 5, 6]) <|
    .exit 1)
    (.seq (.region [
      ⟨.yes, (some 39), .move (.tmp 7), true, false, []⟩,
      ⟨.yes, (some 40), .binOp .eql 5 (.tmp 39) (.const (.int .u8 (35))) 5, false, false, []⟩,
      ⟨.yes, (some 38), .assign (.tmp 40), true, false, []⟩] [0, 5, 6, 38]) <|
    .cond (.tmp 38)
      (.seq (.block 3 <| .keep [0, 5, 6] <| .sum L_scan_0 (.loop l_scan_0)) <|
      .exit 1)
      (.skip))) <|
  .seq (.region [
    ⟨.yes, (some 54), .move (.tmp 0), false, false, []⟩,
    ⟨.yes, (some 55), .move (.tmp 6), false, false, []⟩,
    ⟨.yes, (some 56), .slice 9 (.tmp 54) (some (.tmp 55)) none none, false, false, []⟩,
    ⟨.yes, (some 57), .call ⟨.value (.func 15), #[(.tmp 56)], #[9]⟩, false, false, []⟩,
    ⟨.yes, (some 53), .move (.tmp 57), true, false, []⟩,
    ⟨.yes, (some 58), .extract (.tmp 53) 0, false, false, []⟩,
    ⟨.yes, (some 59), .extract (.tmp 53) 1, false, false, []⟩,
    ⟨.yes, (some 60), .extract (.tmp 53) 2, false, false, []⟩,
    ⟨.yes, (some 8), .alloc 31, false, false, []⟩,
    ⟨.yes, none, .store 31 (.tmp 8) (.tmp 58), true, false, []⟩,
    ⟨.yes, (some 9), .assign (.tmp 59), true, false, []⟩,
    ⟨.yes, (some 10), .assign (.tmp 60), true, false, []⟩] [0, 5, 6, 8, 9, 10]) <|
  .seq (.seq (.region [
    ⟨.yes, (some 61), .move (.tmp 10), false, false, []⟩,
    ⟨.yes, (some 62), .binOp .neq 24 (.tmp 61) (.const (.int .i64 (0))) 24, false, false, []⟩] [0, 5, 6, 8, 9, 10, 62]) <|
  .cond (.tmp 62)
    (.seq (.region [
      ⟨.yes, (some 63), .move (.tmp 6), true, false, []⟩,
      ⟨.yes, (some 64), .move (.tmp 10), true, false, []⟩,
      ⟨.yes, (some 2), .assign (.const (.slice none 0 0)), false, false, [(some 4)]⟩,
      ⟨.yes, (some 3), .assign (.tmp 63), true, false, []⟩,
      ⟨.yes, (some 4), .assign (.tmp 64), true, false, []⟩] [2, 3, 4]) <|
    .ret)
    (.skip)) <|
  .seq (.region [
    ⟨.yes, (some 65), .move (.tmp 6), false, false, []⟩,
    ⟨.yes, (some 66), .fieldAddr 31 (.tmp 8) 3, false, false, []⟩,
    ⟨.yes, none, .store 3 (.tmp 66) (.tmp 65), true, false, []⟩] [0, 5, 6, 8, 9]) <|
  .seq (.region [
    ⟨.yes, (some 67), .move (.tmp 5), true, false, [(some 4)]⟩,
    ⟨.yes, (some 68), .load 31 (.tmp 8), false, false, []⟩,
    ⟨.yes, (some 69), .buildSlice 23 1 #[(0, (.tmp 68))], false, false, [(some 4)]⟩,
    ⟨.yes, (some 70), .call ⟨.builtin .append, #[(.tmp 67), (.tmp 69)], #[23, 23]⟩, true, false, [(some 4)]⟩,
    ⟨.yes, (some 5), .assign (.tmp 70), true, false, [(some 4)]⟩] [0, 5, 6, 9]) <|
  .region [
    ⟨.yes, (some 71), .move (.tmp 6), true, false, []⟩,
    ⟨.yes, (some 72), .move (.tmp 9), true, false, []⟩,
    ⟨.yes, (some 73), .binOp .add 3 (.tmp 71) (.tmp 72) 3, false, false, []⟩,
    ⟨.yes, (some 6), .assign (.tmp 73), true, false, []⟩] [0, 5, 6]

/-- rollbacknet/token.Scan -/
def c_scan : CC := .seq (.region [
    ⟨.yes, (some 2), .assign (.const (.slice none 0 0)), false, false, [(some 4)]⟩,
    ⟨.yes, (some 3), .assign (.const (.int .i64 (0))), false, false, []⟩,
    ⟨.yes, (some 4), .assign (.const (.int .i64 (0))), false, false, []⟩] [0]) <|
  .seq (.seq (.region [
    ⟨.yes, (some 11), .move (.tmp 0), false, false, []⟩,
    ⟨.yes, (some 12), .call ⟨.builtin .len, #[(.tmp 11)], #[9]⟩, false, false, []⟩,
    ⟨.yes, (some 13), .binOp .gtr 3 (.tmp 12) (.const (.int .i64 (4096))) 3, false, false, []⟩] [0, 13]) <|
  .cond (.tmp 13)
    (.seq (.region [
      ⟨.yes, (some 2), .assign (.const (.slice none 0 0)), false, false, [(some 4)]⟩,
      ⟨.yes, (some 3), .assign (.const (.int .i64 (0))), false, false, []⟩,
      ⟨.yes, (some 4), .assign (.const (.int .i64 (5))), false, false, []⟩] [2, 3, 4]) <|
    .ret)
    (.skip)) <|
  .seq (.region [
    ⟨.yes, (some 5), .assign (.const (.slice none 0 0)), false, false, [(some 4)]⟩] [0, 5]) <|
  .seq (.region [
    ⟨.yes, (some 6), .assign (.const (.int .i64 (0))), false, false, []⟩] [0, 5, 6]) <|
  .seq (.skip) <|
  .seq (.block 0 <| .keep [0, 5, 6] <| .sum L_scan_1 (.loop l_scan_1)) <|
  .seq (.region [
    ⟨.yes, (some 74), .move (.tmp 5), true, false, [(some 4)]⟩,
    ⟨.yes, (some 2), .assign (.tmp 74), true, false, [(some 4)]⟩,
    ⟨.yes, (some 3), .assign (.const (.int .i64 (0))), false, false, []⟩,
    ⟨.yes, (some 4), .assign (.const (.int .i64 (0))), false, false, []⟩] [2, 3, 4]) <|
  .ret

theorem c_scan_eq : ∃ c, Try.f7.body = some c ∧ codeOK Try.f7.ntmps c = true ∧ comp Try.prog (ann 7) c = erase c_scan := ⟨_, rfl, by kernel_rfl, by kernel_rfl⟩

theorem body_scan_0 (s : List UInt8) (xs : List DV) (n : Int) : bodyT Xscan [0, 5, 6] [2, 3, 4] [(0, [5]), (1, [0, 5, 6]), (2, [0, 5, 6]), (3, [0, 5, 6])] l_scan_0 ⟨[(0, .d (.str s)), (5, .osl 4 xs), (6, .d (.int .i64 n))], []⟩ = (
    .br (decide (n < (s.length : Int)))
    (.br (decide ((0 : Int) ≤ n))
      (.opt (s[(Int.toNat n)]?) fun b1 => .br (!decide ((b1.toNat : Int) = 10))
        (.leaf (.nrm, ⟨[(0, (.d (.str s))), (5, (.osl 4 xs)), (6, (.d (.int .i64 (IntKind.i64.wrap (n + 1)))))], []⟩))
        (.leaf ((.ext 3), ⟨[(0, (.d (.str s))), (5, (.osl 4 xs)), (6, (.d (.int .i64 n)))], []⟩)))
      (.fail))
    (.leaf ((.ext 3), ⟨[(0, (.d (.str s))), (5, (.osl 4 xs)), (6, (.d (.int .i64 n)))], []⟩)) : Tr (Ex × ST)) := by kernel_rfl

theorem body_scan_1 (s : List UInt8) (xs : List DV) (n : Int) : bodyT Xscan [0, 5, 6] [2, 3, 4] [(0, [5])] l_scan_1 ⟨[(0, .d (.str s)), (5, .osl 4 xs), (6, .d (.int .i64 n))], []⟩ = (
    .br (decide (n < (s.length : Int)))
    (.br (decide ((0 : Int) ≤ n))
      (.opt (s[(Int.toNat n)]?) fun b1 => .br (decide ((b1.toNat : Int) = 32))
        (.leaf (.nrm, ⟨[(0, (.d (.str s))), (5, (.osl 4 xs)), (6, (.d (.int .i64 (IntKind.i64.wrap (n + 1)))))], []⟩))
        (.br (decide ((b1.toNat : Int) = 9))
          (.leaf (.nrm, ⟨[(0, (.d (.str s))), (5, (.osl 4 xs)), (6, (.d (.int .i64 (IntKind.i64.wrap (n + 1)))))], []⟩))
          (.br (decide ((b1.toNat : Int) = 10))
            (.leaf (.nrm, ⟨[(0, (.d (.str s))), (5, (.osl 4 xs)), (6, (.d (.int .i64 (IntKind.i64.wrap (n + 1)))))], []⟩))
            (.br (decide ((b1.toNat : Int) = 13))
              (.leaf (.nrm, ⟨[(0, (.d (.str s))), (5, (.osl 4 xs)), (6, (.d (.int .i64 (IntKind.i64.wrap (n + 1)))))], []⟩))
              (.br (decide ((b1.toNat : Int) = 35))
                (.br (decide (0 ≤ n ∧ n ≤ s.length ∧ (s.length : Int) ≤ big))
                  (.leaf (.nrm, ⟨[(0, (.d (.str s))), (5, (.osl 4 xs)), (6, (.d (.int .i64 (n + (pre notNl (s.drop n.toNat) : Int)))))], []⟩))
                  (.fail))
                (.br (decide ((0 : Int) ≤ n ∧ n ≤ (s.length : Int) ∧ (s.length : Int) ≤ (s.length : Int)))
                  (.br (onePre (List.drop (Int.toNat n) (List.take s.length s)))
                    (.br (!decide (((oneRes (List.drop (Int.toNat n) (List.take s.length s))).er) = 0))
                      (.leaf (.ret, ⟨[(2, (.osl 4 [])), (3, (.d (.int .i64 n))), (4, (.d (.int .i64 ((oneRes (List.drop (Int.toNat n) (List.take s.length s))).er))))], []⟩))
                      (.br (decide ((xs.length + ([(.agg [(.int .i64 ((oneRes (List.drop (Int.toNat n) (List.take s.length s))).kd)), (.str ((oneRes (List.drop (Int.toNat n) (List.take s.length s))).tx)), (.int .i64 ((oneRes (List.drop (Int.toNat n) (List.take s.length s))).vl)), (.int .i64 n)])] : List DV).length) * 40 ≤ 70368744177664))
                        (.leaf (.nrm, ⟨[(0, (.d (.str s))), (5, (.osl 4 (xs ++ [(.agg [(.int .i64 ((oneRes (List.drop (Int.toNat n) (List.take s.length s))).kd)), (.str ((oneRes (List.drop (Int.toNat n) (List.take s.length s))).tx)), (.int .i64 ((oneRes (List.drop (Int.toNat n) (List.take s.length s))).vl)), (.int .i64 n)])]))), (6, (.d (.int .i64 (IntKind.i64.wrap (n + ((oneRes (List.drop (Int.toNat n) (List.take s.length s))).ln))))))], []⟩))
                        (.fail)))
                    (.fail))
                  (.fail)))))))
      (.fail))
    (.leaf ((.ext 0), ⟨[(5, (.osl 4 xs))], []⟩)) : Tr (Ex × ST)) := by kernel_rfl

theorem tree_scan (s : List UInt8) : fnT Xscan c_scan Try.f7.results.toList [.d (.str s)] [] = (
    .br (decide ((4096 : Int) < (s.length : Int)))
    (.leaf ((.tup [(.d (.sl 4 [])), (.d (.int .i64 0)), (.d (.int .i64 5))]), []))
    (.br (decide (scanPre s (0 : Int) ([] : List DV).length))
      (.br (decide ((scanF (s.length + 1) (s.drop (0 : Int).toNat) (0 : Int)).2.2 = 0))
        (.leaf ((.tup [(.d (.sl 4 (([] : List DV) ++ (scanF (s.length + 1) (s.drop (0 : Int).toNat) (0 : Int)).1.map encTok))), (.d (.int .i64 0)), (.d (.int .i64 0))]), []))
        (.leaf ((.tup [(.d (.sl 4 [])), (.d (.int .i64 ((scanF (s.length + 1) (s.drop (0 : Int).toNat) (0 : Int)).2.1))), (.d (.int .i64 ((scanF (s.length + 1) (s.drop (0 : Int).toNat) (0 : Int)).2.2)))]), [])))
      (.fail)) : Tr (AV × Hp)) := by kernel_rfl


theorem sum_scan_0 : SumOK Try.prog gl (ann 7) L_scan_0 (.loop l_scan_0) := by
  refine SumOK.of_inv (X := Xscan) (xok_Xscan 7) (by simp only [Sums, l_scan_0, and_true]) (by kernel_rfl) (lv := [0, 5, 6]) (rt := [2, 3, 4]) (xs := [(0, [5]), (1, [0, 5, 6]), (2, [0, 5, 6]), (3, [0, 5, 6])]) (by decide)
    (fun m st r => ∃ (s : List UInt8) (xs : List DV) (n : Nat), n ≤ s.length ∧ (s.length : Int) ≤ big ∧ st = ⟨[(0, .d (.str s)), (5, .osl 4 xs), (6, .d (.int .i64 (n : Int)))], []⟩ ∧ r = (.ext 3, ⟨[(0, .d (.str s)), (5, .osl 4 xs), (6, .d (.int .i64 ((n : Int) + (pre notNl (s.drop n) : Int))))], []⟩) ∧ m = s.length - n) ?_ ?_
  · intro st r h
    unfold L_scan_0 at h
    split at h
    · rename_i s xs n
      rcases Tr.br_some h with ⟨h1, h2⟩ | ⟨_, h2⟩
      · obtain ⟨h3, h4, h5⟩ := of_decide_eq_true h1
        obtain rfl := Tr.leaf_some h2
        obtain ⟨k, rfl⟩ := Int.eq_ofNat_of_zero_le h3
        exact ⟨_, s, xs, k, by omega, h5, rfl, by simp, rfl⟩
      · exact Tr.fail_some h2
    · exact Tr.fail_some h
  · rintro m st r ⟨s, xs, n, h1, h2, rfl, rfl, rfl⟩
    rw [body_scan_0]
    have hw : n < s.length → IntKind.i64.wrap ((n : Int) + 1) = ((n + 1 : Nat) : Int) := fun h => by unfold big at h2; rw [wrap_in] <;> omega
    cases hb : s[n]? with
    | none =>
      have hl : s.length ≤ n := by simpa using hb
      rw [List.drop_eq_nil_of_le hl]
      refine ⟨.ext 3, _, ?_, .inl ⟨by simp, rfl⟩⟩
      have h3 : ¬ ((n : Int) < s.length) := by omega
      simp [Tr.run_br, Tr.run_leaf, h3, pre_nil]
    | some b =>
      have hl := at_len hb
      have h3 : ((n : Int) < s.length) := by omega
      by_cases hp : (b.toNat : Int) = 10
      · refine ⟨.ext 3, _, ?_, .inl ⟨by simp, rfl⟩⟩
        rw [pre_at_no hb (by simp [notNl, hp])]
        simp [Tr.run_br, Tr.run_leaf, Tr.run_opt_, h3, hb, hp]
      · refine ⟨.nrm, ⟨[(0, .d (.str s)), (5, .osl 4 xs), (6, .d (.int .i64 ((n + 1 : Nat) : Int)))], []⟩, ?_, .inr ⟨rfl, _, ?_, s, xs, n + 1, by omega, h2, rfl, ?_, rfl⟩⟩
        · simp [Tr.run_br, Tr.run_leaf, Tr.run_opt_, h3, hb, hp, hw hl]
        · omega
        · rw [pre_at_yes hb (by simp [notNl, hp])]; simp; omega

theorem isWord_of_let {c : UInt8} (h : isLet c = true) : isWord c = true := by simp [isWord, h]

theorem one_len (c : UInt8) (r : List UInt8) (he : (oneRes (c :: r)).er = 0) : 1 ≤ (oneRes (c :: r)).ln ∧ (oneRes (c :: r)).ln ≤ ((c :: r).length : Int) := by
  simp only [oneRes] at he ⊢
  cases hl : isLet c with
  | true =>
    simp only [hl, if_true] at he ⊢
    by_cases hn : 16 < pre isWord (c :: r)
    · rw [if_pos hn] at he; simp at he
    · rw [if_neg hn]
      have := pre_le isWord (c :: r)
      have h1 := pre_yes (s := r) (isWord_of_let hl)
      simp only; omega
  | false =>
    simp only [hl, Bool.false_eq_true, if_false] at he ⊢
    cases hd : isDig c with
    | true =>
      simp only [hd, if_true] at he ⊢
      have hn := lead_le (s := c :: r) (by simp)
      have h1 : 1 ≤ numLen (c :: r) := by unfold numLen; omega
      unfold numRes at he ⊢
      by_cases hw : wordAt (c :: r) (numLen (c :: r)) = true
      · rw [if_pos hw] at he; simp at he
      · rw [if_neg hw] at he ⊢
        cases ha : accum 0 ((c :: r).take (numLen (c :: r))) with
        | none => rw [ha] at he; simp at he
        | some v => simp only; omega
    | false =>
      simp only [hd, Bool.false_eq_true, if_false] at he ⊢
      have := signLen_le c r
      by_cases h0 : signLen (c :: r) = 0
      · rw [if_pos h0] at he; simp at he
      · rw [if_neg h0]; simp only; omega

theorem scanF_blank {k : Nat} {c : UInt8} {r : List UInt8} {i : Int} (h : isBlank c = true) : scanF (k + 1) (c :: r) i = scanF k r (i + 1) := by rw [scanF, if_pos h]
theorem scanF_note {k : Nat} {c : UInt8} {r : List UInt8} {i : Int} (h : isBlank c = false) (h1 : (c.toNat : Int) = 35) : scanF (k + 1) (c :: r) i = scanF k ((c :: r).drop (pre notNl (c :: r))) (i + pre notNl (c :: r)) := by
  rw [scanF, if_neg (by rw [h]; decide), if_pos h1]
theorem scanF_tok {k : Nat} {c : UInt8} {r : List UInt8} {i : Int} (h : isBlank c = false) (h1 : ¬ (c.toNat : Int) = 35) (h2 : (oneRes (c :: r)).er = 0) : scanF (k + 1) (c :: r) i =
    (⟨(oneRes (c :: r)).kd, (oneRes (c :: r)).tx, (oneRes (c :: r)).vl, i⟩ :: (scanF k ((c :: r).drop (oneRes (c :: r)).ln.toNat) (i + (oneRes (c :: r)).ln)).1, (scanF k ((c :: r).drop (oneRes (c :: r)).ln.toNat) (i + (oneRes (c :: r)).ln)).2) := by
  rw [scanF, if_neg (by rw [h]; decide), if_neg h1, if_pos h2]
theorem scanF_err {k : Nat} {c : UInt8} {r : List UInt8} {i : Int} (h : isBlank c = false) (h1 : ¬ (c.toNat : Int) = 35) (h2 : ¬ (oneRes (c :: r)).er = 0) : scanF (k + 1) (c :: r) i = ([], i, (oneRes (c :: r)).er) := by
  rw [scanF, if_neg (by rw [h]; decide), if_neg h1, if_neg h2]
theorem scanF_nil {k : Nat} {i : Int} : scanF (k + 1) [] i = ([], 0, 0) := rfl

/-- What the main loop comes to. -/
def scanEnd (xs : List DV) (q : List Tok × Int × Int) : Ex × ST :=
  if q.2.2 = 0 then (.ext 0, ⟨[(5, .osl 4 (xs ++ q.1.map encTok))], []⟩) else (.ret, ⟨[(2, .osl 4 []), (3, .d (.int .i64 q.2.1)), (4, .d (.int .i64 q.2.2))], []⟩)

theorem scanEnd_cons (xs : List DV) (t : Tok) (q : List Tok × Int × Int) : scanEnd xs (t :: q.1, q.2) = scanEnd (xs ++ [encTok t]) q := by
  unfold scanEnd
  by_cases h : q.2.2 = 0 <;> simp [h]

theorem sum_scan_1 : SumOK Try.prog gl (ann 7) L_scan_1 (.loop l_scan_1) := by
  refine SumOK.of_inv (X := Xscan) (xok_Xscan 7) (by simp only [Sums, l_scan_1, and_true, true_and]; exact sum_scan_0) (by kernel_rfl) (lv := [0, 5, 6]) (rt := [2, 3, 4]) (xs := [(0, [5])]) (by decide)
    (fun m st r => ∃ (s : List UInt8) (xs : List DV) (n k : Nat), n ≤ s.length ∧ (s.length : Int) ≤ 4096 ∧ xs.length ≤ n ∧ s.length - n < k ∧ st = ⟨[(0, .d (.str s)), (5, .osl 4 xs), (6, .d (.int .i64 (n : Int)))], []⟩ ∧
      r = scanEnd xs (scanF k (s.drop n) n) ∧ m = s.length - n) ?_ ?_
  · intro st r h
    unfold L_scan_1 at h
    split at h
    · rename_i s xs n
      rcases Tr.br_some h with ⟨h1, h2⟩ | ⟨_, h2⟩
      · obtain ⟨h3, h4, h5, h6⟩ := of_decide_eq_true h1
        obtain ⟨k, rfl⟩ := Int.eq_ofNat_of_zero_le h3
        refine ⟨_, s, xs, k, s.length + 1, by omega, h5, by omega, by omega, rfl, ?_, rfl⟩
        unfold scanEnd
        rcases Tr.br_some h2 with ⟨h7, h8⟩ | ⟨h7, h8⟩
        · have := of_decide_eq_true h7
          simp only [Int.ofNat_eq_natCast, Int.toNat_natCast] at this h8
          rw [if_pos this]; exact (Tr.leaf_some h8).symm
        · have := of_decide_eq_false h7
          simp only [Int.ofNat_eq_natCast, Int.toNat_natCast] at this h8
          rw [if_neg this]; exact (Tr.leaf_some h8).symm
      · exact Tr.fail_some h2
    · exact Tr.fail_some h
  · rintro m st r ⟨s, xs, n, k, h1, h2, hx, hk, rfl, rfl, rfl⟩
    rw [body_scan_1]
    obtain ⟨k, rfl⟩ : ∃ j, k = j + 1 := ⟨k - 1, by omega⟩
    cases hb : s[n]? with
    | none =>
      have hl : s.length ≤ n := by simpa using hb
      rw [List.drop_eq_nil_of_le hl, scanF_nil]
      refine ⟨.ext 0, _, Tr.dec_no (by omega) rfl, .inl ⟨by simp, ?_⟩⟩
      simp [scanEnd]
    | some b =>
      have hl := at_len hb
      have hd := drop_at hb
      have h3 : ((n : Int) < s.length) := by omega
      have hw : IntKind.i64.wrap ((n : Int) + 1) = ((n + 1 : Nat) : Int) := by rw [wrap_in] <;> omega
      rw [List.take_length, Int.toNat_natCast, hb]
      cases hbl : isBlank b with
      | true =>
        refine ⟨.nrm, ⟨[(0, .d (.str s)), (5, .osl 4 xs), (6, .d (.int .i64 ((n + 1 : Nat) : Int)))], []⟩, ?_, .inr ⟨rfl, _, ?_, s, xs, n + 1, k, by omega, h2, by omega, by omega, rfl, ?_, rfl⟩⟩
        · refine Tr.dec_yes h3 (Tr.dec_yes (by omega) (Tr.opt_to rfl ?_))
          simp only [isBlank, Bool.or_eq_true, decide_eq_true_eq] at hbl
          rw [hw]
          refine Tr.dec_to (fun _ => rfl) fun _ => Tr.dec_to (fun _ => rfl) fun _ => Tr.dec_to (fun _ => rfl) fun _ => Tr.dec_to (fun _ => rfl) fun _ => by omega
        · omega
        · rw [hd, scanF_blank hbl]; simp
      | false =>
        have hbl' := hbl
        simp only [isBlank, Bool.or_eq_false_iff, decide_eq_false_iff_not] at hbl'
        obtain ⟨⟨⟨b1, b2⟩, b3⟩, b4⟩ := hbl'
        by_cases hh : (b.toNat : Int) = 35
        · have hle := pre_le notNl (s.drop n)
          have hpos : 1 ≤ pre notNl (s.drop n) := by rw [pre_at_yes hb (by simp [notNl, hh])]; omega
          rw [List.length_drop] at hle
          refine ⟨.nrm, ⟨[(0, .d (.str s)), (5, .osl 4 xs), (6, .d (.int .i64 ((n + pre notNl (s.drop n) : Nat) : Int)))], []⟩, ?_, .inr ⟨rfl, _, ?_, s, xs, n + pre notNl (s.drop n), k, by omega, h2, by omega, by omega, rfl, ?_, rfl⟩⟩
          · refine Tr.dec_yes h3 (Tr.dec_yes (by omega) (Tr.opt_to rfl (Tr.dec_no b1 (Tr.dec_no b2 (Tr.dec_no b3 (Tr.dec_no b4 (Tr.dec_yes hh (Tr.dec_yes ⟨by omega, by omega, by unfold big; omega⟩ ?_))))))))
            simp [Tr.run_leaf]
          · omega
          · rw [hd, scanF_note hbl hh, ← hd, List.drop_drop]; simp
        · by_cases he : (oneRes (s.drop n)).er = 0
          · have hol := one_len b (s.drop (n + 1)) (by rw [← hd]; exact he)
            rw [← hd, List.length_drop] at hol
            obtain ⟨q, hq⟩ := Int.eq_ofNat_of_zero_le (show 0 ≤ (oneRes (s.drop n)).ln by omega)
            refine ⟨.nrm, ⟨[(0, .d (.str s)), (5, .osl 4 (xs ++ [encTok ⟨(oneRes (s.drop n)).kd, (oneRes (s.drop n)).tx, (oneRes (s.drop n)).vl, n⟩])), (6, .d (.int .i64 ((n + q : Nat) : Int)))], []⟩, ?_, .inr ⟨rfl, _, ?_, s, _, n + q, k, by omega, h2, ?_, by omega, rfl, ?_, rfl⟩⟩
            · refine Tr.dec_yes h3 (Tr.dec_yes (by omega) (Tr.opt_to rfl (Tr.dec_no b1 (Tr.dec_no b2 (Tr.dec_no b3 (Tr.dec_no b4 (Tr.dec_no hh (Tr.dec_yes ⟨by omega, by omega, by omega⟩ ?_))))))))
              rw [Tr.run_yes (by simp [onePre, hd]; unfold big; have : (s.drop n).length = s.length - n := List.length_drop; rw [hd] at this; simp at this; omega)]
              rw [show (!decide ((oneRes (List.drop n s)).er = 0)) = false by simp [he], Tr.run_no rfl]
              refine Tr.dec_yes (by simp; omega) ?_
              rw [hq]
              have hw2 : IntKind.i64.wrap ((n : Int) + (q : Int)) = ((n + q : Nat) : Int) := by rw [wrap_in] <;> omega
              rw [hw2]; rfl
            · omega
            · simp; omega
            · rw [hd, scanF_tok hbl hh (by rw [← hd]; exact he), ← hd, scanEnd_cons, List.drop_drop, hq]; simp
          · have hr : scanEnd xs (scanF (k + 1) (s.drop n) n) = (.ret, ⟨[(2, .osl 4 []), (3, .d (.int .i64 (n : Int))), (4, .d (.int .i64 (oneRes (s.drop n)).er))], []⟩) := by
              rw [hd, scanF_err hbl hh (by rw [← hd]; exact he), ← hd]; simp [scanEnd, he]
            rw [hr]
            refine ⟨.ret, _, ?_, .inl ⟨by simp, rfl⟩⟩
            refine Tr.dec_yes h3 (Tr.dec_yes (by omega) (Tr.opt_to rfl (Tr.dec_no b1 (Tr.dec_no b2 (Tr.dec_no b3 (Tr.dec_no b4 (Tr.dec_no hh (Tr.dec_yes ⟨by omega, by omega, by omega⟩ ?_))))))))
            rw [Tr.run_yes (by simp [onePre, hd]; unfold big; have : (s.drop n).length = s.length - n := List.length_drop; rw [hd] at this; simp at this; omega)]
            rw [show (!decide ((oneRes (List.drop n s)).er = 0)) = true by simp [he], Tr.run_yes rfl]
            simp [Tr.run_leaf, scanEnd, he]
theorem ok_scan : FnOK Try.prog gl 7 scanT := by
  refine fn_of (X := Xscan) (xok_Xscan 7) Try.func7 c_scan_eq (by kernel_rfl) (by simp only [Sums, c_scan, and_true, true_and]; exact sum_scan_1) ?_
  intro xs H o h
  unfold scanT at h
  split at h
  · rw [tree_scan]
    obtain rfl := Tr.leaf_some h
    rename_i s
    unfold scan
    by_cases hl : 4096 < (s.length : Int)
    · refine Tr.dec_yes hl ?_
      rw [if_pos hl]; rfl
    · refine Tr.dec_no hl (Tr.dec_yes ⟨by omega, by omega, by omega, by simp⟩ ?_)
      rw [if_neg hl]
      rw [show (0 : Int).toNat = 0 from rfl, List.drop_zero, List.nil_append]
      by_cases h0 : (scanF (s.length + 1) s 0).2.2 = 0
      · rw [if_pos h0]
        exact Tr.dec_yes h0 rfl
      · rw [if_neg h0]
        exact Tr.dec_no h0 rfl
  · exact Tr.fail_some h

end Go.AI.TK
