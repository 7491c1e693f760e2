/- token.Scan, in sum. -/
import Derived.Test.YtkkmdjkahdglhaaDoorTdA
namespace Go.AI.TD
open Go Go.Proofs
set_option maxRecDepth 10000
set_option linter.unusedVariables false
set_option linter.unusedSimpArgs false

def notNl (b : UInt8) : Bool := !decide ((b.toNat : Int) = 10)
def isBlank (b : UInt8) : Bool := decide ((b.toNat : Int) = 32) || decide ((b.toNat : Int) = 9) || decide ((b.toNat : Int) = 10) || decide ((b.toNat : Int) = 13)

/-- The tokens of a text from an offset on; or the first error's place, and the error. -/
def scanF : Nat → List UInt8 → Int → List Tok × Int × Int
  | 0, _, _ => ([], 0, 0)
  | k + 1, [], i => ([], 0, 0)
  | k + 1, c :: r, i =>
    if isBlank c = true then scanF k r (i + 1)
    else if (c.toNat : Int) = 35 then scanF k ((c :: r).drop (pre notNl (c :: r))) (i + pre notNl (c :: r))
    else if (oneRes (c :: r)).er = 0 then
      (⟨(oneRes (c :: r)).kd, (oneRes (c :: r)).tx, (oneRes (c :: r)).vl, i⟩ :: (scanF k ((c :: r).drop (oneRes (c :: r)).ln.toNat) (i + (oneRes (c :: r)).ln)).1, (scanF k ((c :: r).drop (oneRes (c :: r)).ln.toNat) (i + (oneRes (c :: r)).ln)).2)
    else ([], i, (oneRes (c :: r)).er)

def scan (s : List UInt8) : List Tok × Int × Int :=
  if 4096 < (s.length : Int) then ([], 0, 5)
  else if (scanF (s.length + 1) s 0).2.2 = 0 then ((scanF (s.length + 1) s 0).1, 0, 0) else ([], (scanF (s.length + 1) s 0).2)

def scanPre (s : List UInt8) (i : Int) (n : Nat) : Prop := 0 ≤ i ∧ i ≤ s.length ∧ (s.length : Int) ≤ 4096 ∧ (n : Int) ≤ i
instance (s : List UInt8) (i : Int) (n : Nat) : Decidable (scanPre s i n) := by unfold scanPre; infer_instance

def L_scan_0 : ST → Tr (Ex × ST)
  | ⟨[(0, .d (.str s)), (5, .osl 4 xs), (6, .d (.int .i64 n))], []⟩ => .br (decide (0 ≤ n ∧ n ≤ s.length ∧ (s.length : Int) ≤ big)) (.leaf ((.ext 3), ⟨[(0, .d (.str s)), (5, .osl 4 xs), (6, .d (.int .i64 (n + (pre notNl (s.drop n.toNat) : Int))))], []⟩)) .fail
  | _ => .fail

def L_scan_1 : ST → Tr (Ex × ST)
  | ⟨[(0, .d (.str s)), (5, .osl 4 xs), (6, .d (.int .i64 n))], []⟩ => .br (decide (scanPre s n xs.length)) (.br (decide ((scanF (s.length + 1) (s.drop n.toNat) n).2.2 = 0)) (.leaf ((.ext 0), ⟨[(5, .osl 4 (xs ++ (scanF (s.length + 1) (s.drop n.toNat) n).1.map encTok))], []⟩)) (.leaf (.ret, ⟨[(2, .osl 4 []), (3, .d (.int .i64 (scanF (s.length + 1) (s.drop n.toNat) n).2.1)), (4, .d (.int .i64 (scanF (s.length + 1) (s.drop n.toNat) n).2.2))], []⟩))) .fail
  | _ => .fail

def scanT : FT
  | [.d (.str s)], [] => .leaf ((.tup [.d (.sl 4 ((scan s).1.map encTok)), .d (.int .i64 (scan s).2.1), .d (.int .i64 (scan s).2.2)]), [])
  | _, _ => .fail

noncomputable abbrev Xscan : TX := ⟨Tryd.prog, tbl [(22, oneT)], iso, gl, vw⟩

theorem xok_Xscan (f : Nat) : XOK Xscan (ann f) gl := XOK.of base (l := [(22, oneT)]) ⟨ok_one, trivial⟩ f

def l_scan_0 : CC := .seq (.seq (.region [
    ⟨.yes, (some 41), .move (.tmp 6), false, false, []⟩,
    ⟨.yes, (some 42), .move (.tmp 0), false, false, []⟩,
    ⟨.yes, (some 43), .call ⟨.builtin .len, #[(.tmp 42)], #[9]⟩, false, false, []⟩,
    ⟨.yes, (some 44), .binOp .lss 3 (.tmp 41) (.tmp 43) 3, false, false, []⟩,
    ⟨.yes, (some 45), .move (.tmp 44), true, false, []⟩,
    ⟨(.on 45 true), (some 46), .move (.tmp 0), false, false, []⟩,
    ⟨(.on 45 true), (some 47), .move (.tmp 6), false, false, []⟩,
    ⟨(.on 45 true), (some 48), .index 9 (.tmp 46) (.tmp 47), false, false, []⟩,
    ⟨(.on 45 true), (some 49), .binOp .neq 5 (.tmp 48) (.const (.int .u8 (10))) 5, false, false, []⟩,
    ⟨.yes, (some 50), .pick (.tmp 45) (.tmp 49) (.const (.bool false)), false, false, []⟩] [0, 5, 6, 50]) <|
  .cond (.tmp 50)
    (.skip)
    (.exit 3)) <|
  .block 4 <| .region [
    ⟨.yes, (some 51), .move (.tmp 6), true, false, []⟩,
    ⟨.yes, (some 52), .binOp .add 3 (.tmp 51) (.const (.int .i64 (1))) 3, false, false, []⟩,
    ⟨.yes, (some 6), .assign (.tmp 52), true, false, []⟩] [0, 5, 6]

def l_scan_1 : CC := .seq (.seq (.region [
    ⟨.yes, (some 14), .move (.tmp 6), false, false, []⟩,
    ⟨.yes, (some 15), .move (.tmp 0), false, false, []⟩,
    ⟨.yes, (some 16), .call ⟨.builtin .len, #[(.tmp 15)], #[9]⟩, false, false, []⟩,
    ⟨.yes, (some 17), .binOp .lss 3 (.tmp 14) (.tmp 16) 3, false, false, []⟩] [0, 5, 6, 17]) <|
  .cond (.tmp 17)
    (.skip)
    (.exit 0)) <|
  .block 1 <| .seq (.seq (.region [
    ⟨.yes, (some 18), .move (.tmp 0), false, false, []⟩,
    ⟨.yes, (some 19), .move (.tmp 6), false, false, []⟩,
    ⟨.yes, (some 20), .index 9 (.tmp 18) (.tmp 19), false, false, []⟩,
    ⟨.yes, (some 7), .assign (.tmp 20), true, false, []⟩] [0, 5, 6, 7]) <|
  .block 2 <| .seq (.region [
    ⟨.yes, (some 22), .move (.tmp 7), false, false, []⟩,
    ⟨.yes, (some 23), .binOp .eql 5 (.tmp 22) (.const (.int .u8 (32))) 5, false, false, []⟩,
    ⟨.yes, (some 24), .move (.tmp 23), true, false, []⟩,
    ⟨(.on 24 false), (some 25), .move (.tmp 7), false, false, []⟩,
    ⟨(.on 24 false), (some 26), .binOp .eql 5 (.tmp 25) (.const (.int .u8 (9))) 5, false, false, []⟩,
    ⟨.yes, (some 27), .pick (.tmp 24) (.const (.bool true)) (.tmp 26), false, false, []⟩,
    ⟨.yes, (some 28), .move (.tmp 27), true, false, []⟩,
    ⟨(.on 28 false), (some 29), .move (.tmp 7), false, false, []⟩,
    ⟨(.on 28 false), (some 30), .binOp .eql 5 (.tmp 29) (.const (.int .u8 (10))) 5, false, false, []⟩,
    ⟨.yes, (some 31), .pick (.tmp 28) (.const (.bool true)) (.tmp 30), false, false, []⟩,
    ⟨.yes, (some 32), .move (.tmp 31), true, false, []⟩,
    ⟨(.on 32 false), (some 33), .move (.tmp 7), false, false, []⟩,
    ⟨(.on 32 false), (some 34), .binOp .eql 5 (.tmp 33) (.const (.int .u8 (13))) 5, false, false, []⟩,
    ⟨.yes, (some 35), .pick (.tmp 32) (.const (.bool true)) (.tmp 34), false, false, []⟩,
    ⟨.yes, (some 21), .assign (.tmp 35), true, false, []⟩] [0, 5, 6, 7, 21]) <|
  .cond (.tmp 21)
    (.seq (.region [
      ⟨.yes, (some 36), .move (.tmp 6), true, false, []⟩,
      ⟨.yes, (some 37), .binOp .add 3 (.tmp 36) (.const (.int .i64 (1))) 3, false, false, []⟩,
      ⟨.yes, (some 6), .assign (.tmp 37), true, false, []⟩] [0, 5, 6]) <|
    .exit 1)
    (.seq (.region [
      ⟨.yes, (some 39), .move (.tmp 7), true, false, []⟩,
      ⟨.yes, (some 40), .binOp .eql 5 (.tmp 39) (.const (.int .u8 (35))) 5, false, false, []⟩,
      ⟨.yes, (some 38), .assign (.tmp 40), true, false, []⟩] [0, 5, 6, 38]) <|
    .cond (.tmp 38)
      (.seq (.block 3 <| .keep [0, 5, 6] <| .sum L_scan_0 (.loop l_scan_0)) <|
      .exit 1)
      (.skip))) <|
  .seq (.region [
    ⟨.yes, (some 54), .move (.tmp 0), false, false, []⟩,
    ⟨.yes, (some 55), .move (.tmp 6), false, false, []⟩,
    ⟨.yes, (some 56), .slice 9 (.tmp 54) (some (.tmp 55)) none none, false, false, []⟩,
    ⟨.yes, (some 57), .call ⟨.value (.func 22), #[(.tmp 56)], #[9]⟩, false, false, []⟩,
    ⟨.yes, (some 53), .move (.tmp 57), true, false, []⟩,
    ⟨.yes, (some 58), .extract (.tmp 53) 0, false, false, []⟩,
    ⟨.yes, (some 59), .extract (.tmp 53) 1, false, false, []⟩,
    ⟨.yes, (some 60), .extract (.tmp 53) 2, false, false, []⟩,
    ⟨.yes, (some 8), .alloc 38, false, false, []⟩,
    ⟨.yes, none, .store 38 (.tmp 8) (.tmp 58), true, false, []⟩,
    ⟨.yes, (some 9), .assign (.tmp 59), true, false, []⟩,
    ⟨.yes, (some 10), .assign (.tmp 60), true, false, []⟩] [0, 5, 6, 8, 9, 10]) <|
  .seq (.seq (.region [
    ⟨.yes, (some 61), .move (.tmp 10), false, false, []⟩,
    ⟨.yes, (some 62), .binOp .neq 26 (.tmp 61) (.const (.int .i64 (0))) 26, false, false, []⟩] [0, 5, 6, 8, 9, 10, 62]) <|
  .cond (.tmp 62)
    (.seq (.region [
      ⟨.yes, (some 63), .move (.tmp 6), true, false, []⟩,
      ⟨.yes, (some 64), .move (.tmp 10), true, false, []⟩,
      ⟨.yes, (some 2), .assign (.const (.slice none 0 0)), false, false, [(some 4)]⟩,
      ⟨.yes, (some 3), .assign (.tmp 63), true, false, []⟩,
      ⟨.yes, (some 4), .assign (.tmp 64), true, false, []⟩] [2, 3, 4]) <|
    .ret)
    (.skip)) <|
  .seq (.region [
    ⟨.yes, (some 65), .move (.tmp 6), false, false, []⟩,
    ⟨.yes, (some 66), .fieldAddr 38 (.tmp 8) 3, false, false, []⟩,
    ⟨.yes, none, .store 3 (.tmp 66) (.tmp 65), true, false, []⟩] [0, 5, 6, 8, 9]) <|
  .seq (.region [
    ⟨.yes, (some 67), .move (.tmp 5), true, false, [(some 4)]⟩,
    ⟨.yes, (some 68), .load 38 (.tmp 8), false, false, []⟩,
    ⟨.yes, (some 69), .buildSlice 22 1 #[(0, (.tmp 68))], false, false, [(some 4)]⟩,
    ⟨.yes, (some 70), .call ⟨.builtin .append, #[(.tmp 67), (.tmp 69)], #[22, 22]⟩, true, false, [(some 4)]⟩,
    ⟨.yes, (some 5), .assign (.tmp 70), true, false, [(some 4)]⟩] [0, 5, 6, 9]) <|
  .region [
    ⟨.yes, (some 71), .move (.tmp 6), true, false, []⟩,
    ⟨.yes, (some 72), .move (.tmp 9), true, false, []⟩,
    ⟨.yes, (some 73), .binOp .add 3 (.tmp 71) (.tmp 72) 3, false, false, []⟩,
    ⟨.yes, (some 6), .assign (.tmp 73), true, false, []⟩] [0, 5, 6]

/-- rollbacknet/token.Scan -/
def c_scan : CC := .seq (.region [
    ⟨.yes, (some 2), .assign (.const (.slice none 0 0)), false, false, [(some 4)]⟩,
    ⟨.yes, (some 3), .assign (.const (.int .i64 (0))), false, false, []⟩,
    ⟨.yes, (some 4), .assign (.const (.int .i64 (0))), false, false, []⟩] [0]) <|
  .seq (.seq (.region [
    ⟨.yes, (some 11), .move (.tmp 0), false, false, []⟩,
    ⟨.yes, (some 12), .call ⟨.builtin .len, #[(.tmp 11)], #[9]⟩, false, false, []⟩,
    ⟨.yes, (some 13), .binOp .gtr 3 (.tmp 12) (.const (.int .i64 (4096))) 3, false, false, []⟩] [0, 13]) <|
  .cond (.tmp 13)
    (.seq (.region [
      ⟨.yes, (some 2), .assign (.const (.slice none 0 0)), false, false, [(some 4)]⟩,
      ⟨.yes, (some 3), .assign (.const (.int .i64 (0))), false, false, []⟩,
      ⟨.yes, (some 4), .assign (.const (.int .i64 (5))), false, false, []⟩] [2, 3, 4]) <|
    .ret)
    (.skip)) <|
  .seq (.region [
    ⟨.yes, (some 5), .assign (.const (.slice none 0 0)), false, false, [(some 4)]⟩] [0, 5]) <|
  .seq (.region [
    ⟨.yes, (some 6), .assign (.const (.int .i64 (0))), false, false, []⟩] [0, 5, 6]) <|
  .seq (.skip) <|
  .seq (.block 0 <| .keep [0, 5, 6] <| .sum L_scan_1 (.loop l_scan_1)) <|
  .seq (.region [
    ⟨.yes, (some 74), .move (.tmp 5), true, false, [(some 4)]⟩,
    ⟨.yes, (some 2), .assign (.tmp 74), true, false, [(some 4)]⟩,
    ⟨.yes, (some 3), .assign (.const (.int .i64 (0))), false, false, []⟩,
    ⟨.yes, (some 4), .assign (.const (.int .i64 (0))), false, false, []⟩] [2, 3, 4]) <|
  .ret

theorem c_scan_eq : ∃ c, Tryd.f11.body = some c ∧ codeOK Tryd.f11.ntmps c = true ∧ comp Tryd.prog (ann 11) c = erase c_scan := ⟨_, rfl, by kernel_rfl, by kernel_rfl⟩

theorem body_scan_0 (s : List UInt8) (xs : List DV) (n : Int) : bodyT Xscan [0, 5, 6] [2, 3, 4] [(0, [5]), (1, [0, 5, 6]), (2, [0, 5, 6]), (3, [0, 5, 6])] l_scan_0 ⟨[(0, .d (.str s)), (5, .osl 4 xs), (6, .d (.int .i64 n))], []⟩ = (
    .br (decide (n < (s.length : Int)))
 (.br (decide ((0 : Int) ≤ n))
 (.opt (s[(Int.toNat n)]?) fun b1 => .br (!decide ((b1.toNat : Int) = 10))
 (.leaf (.nrm, ⟨[(0, .d (.str s)), (5, .osl 4 xs), (6, .d (.int .i64 (IntKind.i64.wrap (n + 1))))], []⟩))
 (.leaf ((.ext 3), ⟨[(0, .d (.str s)), (5, .osl 4 xs), (6, .d (.int .i64 n))], []⟩)))
 (.fail))
 (.leaf ((.ext 3), ⟨[(0, .d (.str s)), (5, .osl 4 xs), (6, .d (.int .i64 n))], []⟩)) : Tr (Ex × ST)) := by kernel_rfl

theorem body_scan_1 (s : List UInt8) (xs : List DV) (n : Int) : bodyT Xscan [0, 5, 6] [2, 3, 4] [(0, [5])] l_scan_1 ⟨[(0, .d (.str s)), (5, .osl 4 xs), (6, .d (.int .i64 n))], []⟩ = (
    .br (decide (n < (s.length : Int)))
 (.br (decide ((0 : Int) ≤ n))
 (.opt (s[(Int.toNat n)]?) fun b1 => .br (decide ((b1.toNat : Int) = 32))
 (.leaf (.nrm, ⟨[(0, .d (.str s)), (5, .osl 4 xs), (6, .d (.int .i64 (IntKind.i64.wrap (n + 1))))], []⟩))
 (.br (decide ((b1.toNat : Int) = 9))
 (.leaf (.nrm, ⟨[(0, .d (.str s)), (5, .osl 4 xs), (6, .d (.int .i64 (IntKind.i64.wrap (n + 1))))], []⟩))
 (.br (decide ((b1.toNat : Int) = 10))
 (.leaf (.nrm, ⟨[(0, .d (.str s)), (5, .osl 4 xs), (6, .d (.int .i64 (IntKind.i64.wrap (n + 1))))], []⟩))
 (.br (decide ((b1.toNat : Int) = 13))
 (.leaf (.nrm, ⟨[(0, .d (.str s)), (5, .osl 4 xs), (6, .d (.int .i64 (IntKind.i64.wrap (n + 1))))], []⟩))
 (.br (decide ((b1.toNat : Int) = 35))
 (.br (decide (0 ≤ n ∧ n ≤ s.length ∧ (s.length : Int) ≤ big))
 (.leaf (.nrm, ⟨[(0, .d (.str s)), (5, .osl 4 xs), (6, .d (.int .i64 (n + (pre notNl (s.drop n.toNat) : Int))))], []⟩))
 (.fail))
 (.br (decide ((0 : Int) ≤ n ∧ n ≤ (s.length : Int) ∧ (s.length : Int) ≤ (s.length : Int)))
 (.br (onePre (List.drop (Int.toNat n) (List.take s.length s)))
 (.br (!decide (((oneRes (List.drop (Int.toNat n) (List.take s.length s))).er) = 0))
 (.leaf (.ret, ⟨[(2, .osl 4 []), (3, .d (.int .i64 n)), (4, .d (.int .i64 ((oneRes (List.drop (Int.toNat n) (List.take s.length s))).er)))], []⟩))
 (.br (decide ((xs.length + ([(.agg [.int .i64 ((oneRes (List.drop (Int.toNat n) (List.take s.length s))).kd), .str ((oneRes (List.drop (Int.toNat n) (List.take s.length s))).tx), .int .i64 ((oneRes (List.drop (Int.toNat n) (List.take s.length s))).vl), .int .i64 n])] : List DV).length) * 40 ≤ 70368744177664))
 (.leaf (.nrm, ⟨[(0, .d (.str s)), (5, .osl 4 (xs ++ [(.agg [.int .i64 ((oneRes (List.drop (Int.toNat n) (List.take s.length s))).kd), .str ((oneRes (List.drop (Int.toNat n) (List.take s.length s))).tx), .int .i64 ((oneRes (List.drop (Int.toNat n) (List.take s.length s))).vl), .int .i64 n])])), (6, .d (.int .i64 (IntKind.i64.wrap (n + ((oneRes (List.drop (Int.toNat n) (List.take s.length s))).ln)))))], []⟩))
 (.fail)))
 (.fail))
 (.fail)))))))
 (.fail))
 (.leaf ((.ext 0), ⟨[(5, .osl 4 xs)], []⟩)) : Tr (Ex × ST)) := by kernel_rfl

theorem tree_scan (s : List UInt8) : fnT Xscan c_scan Tryd.f11.results.toList [.d (.str s)] [] = (
    .br (decide ((4096 : Int) < (s.length : Int)))
 (.leaf (.tup [.d (.sl 4 []), .d (.int .i64 0), .d (.int .i64 5)], []))
 (.br (decide (scanPre s (0 : Int) ([] : List DV).length))
 (.br (decide ((scanF (s.length + 1) (s.drop (0 : Int).toNat) (0 : Int)).2.2 = 0))
 (.leaf (.tup [.d (.sl 4 (([] : List DV) ++ (scanF (s.length + 1) (s.drop (0 : Int).toNat) (0 : Int)).1.map encTok)), .d (.int .i64 0), .d (.int .i64 0)], []))
 (.leaf (.tup [.d (.sl 4 []), .d (.int .i64 ((scanF (s.length + 1) (s.drop (0 : Int).toNat) (0 : Int)).2.1)), .d (.int .i64 ((scanF (s.length + 1) (s.drop (0 : Int).toNat) (0 : Int)).2.2))], [])))
 (.fail)) : Tr (AV × Hp)) := by kernel_rfl


theorem sum_scan_0 : SumOK Tryd.prog gl (ann 11) L_scan_0 (.loop l_scan_0) := by
  refine SumOK.of_inv (X := Xscan) (xok_Xscan 11) (by simp only [Sums, l_scan_0, and_true]) (by kernel_rfl) (lv := [0, 5, 6]) (rt := [2, 3, 4]) (xs := [(0, [5]), (1, [0, 5, 6]), (2, [0, 5, 6]), (3, [0, 5, 6])]) (by decide)
    (fun m st r => ∃ (s : List UInt8) (xs : List DV) (n : Nat), n ≤ s.length ∧ (s.length : Int) ≤ big ∧ st = ⟨[(0, .d (.str s)), (5, .osl 4 xs), (6, .d (.int .i64 (n : Int)))], []⟩ ∧ r = (.ext 3, ⟨[(0, .d (.str s)), (5, .osl 4 xs), (6, .d (.int .i64 ((n : Int) + (pre notNl (s.drop n) : Int))))], []⟩) ∧ m = s.length - n) ?_ ?_
  · intro st r h
    unfold L_scan_0 at h
    split at h
    · rename_i s xs n
      rcases Tr.br_some h with ⟨h1, h2⟩ | ⟨_, h2⟩
      · obtain ⟨h3, h4, h5⟩ := of_decide_eq_true h1
        obtain rfl := Tr.leaf_some h2
        obtain ⟨k, rfl⟩ := Int.eq_ofNat_of_zero_le h3
        exact ⟨_, s, xs, k, by omega, h5, rfl, by simp, rfl⟩
      · exact Tr.fail_some h2
    · exact Tr.fail_some h
  · rintro m st r ⟨s, xs, n, h1, h2, rfl, rfl, rfl⟩
    rw [body_scan_0]
    have hw : n < s.length → IntKind.i64.wrap ((n : Int) + 1) = ((n + 1 : Nat) : Int) := fun h => by unfold big at h2; rw [wrap_in] <;> omega
    cases hb : s[n]? with
    | none =>
      have hl : s.length ≤ n := by simpa using hb
      rw [List.drop_eq_nil_of_le hl]
      refine ⟨.ext 3, _, ?_, .inl ⟨by simp, rfl⟩⟩
      have h3 : ¬ ((n : Int) < s.length) := by omega
      simp [Tr.run_br, Tr.run_leaf, h3, pre_nil]
    | some b =>
      have hl := at_len hb
      have h3 : ((n : Int) < s.length) := by omega
      by_cases hp : (b.toNat : Int) = 10
      · refine ⟨.ext 3, _, ?_, .inl ⟨by simp, rfl⟩⟩
        rw [pre_at_no hb (by simp [notNl, hp])]
        simp [Tr.run_br, Tr.run_leaf, Tr.run_opt_, h3, hb, hp]
      · refine ⟨.nrm, ⟨[(0, .d (.str s)), (5, .osl 4 xs), (6, .d (.int .i64 ((n + 1 : Nat) : Int)))], []⟩, ?_, .inr ⟨rfl, _, ?_, s, xs, n + 1, by omega, h2, rfl, ?_, rfl⟩⟩
        · simp [Tr.run_br, Tr.run_leaf, Tr.run_opt_, h3, hb, hp, hw hl]
        · omega
        · rw [pre_at_yes hb (by simp [notNl, hp])]; simp; omega

theorem isWord_of_let {c : UInt8} (h : isLet c = true) : isWord c = true := by simp [isWord, h]

theorem one_len (c : UInt8) (r : List UInt8) (he : (oneRes (c :: r)).er = 0) : 1 ≤ (oneRes (c :: r)).ln ∧ (oneRes (c :: r)).ln ≤ ((c :: r).length : Int) := by
  simp only [oneRes] at he ⊢
  cases hl : isLet c with
  | true =>
    simp only [hl, if_true] at he ⊢
    by_cases hn : 16 < pre isWord (c :: r)
    · rw [if_pos hn] at he; simp at he
    · rw [if_neg hn]
      have := pre_le isWord (c :: r)
      have h1 := pre_yes (s := r) (isWord_of_let hl)
      simp only; omega
  | false =>
    simp only [hl, Bool.false_eq_true, if_false] at he ⊢
    cases hd : isDig c with
    | true =>
      simp only [hd, if_true] at he ⊢
      have hn := lead_le (s := c :: r) (by simp)
      have h1 : 1 ≤ numLen (c :: r) := by unfold numLen; omega
      unfold numRes at he ⊢
      by_cases hw : wordAt (c :: r) (numLen (c :: r)) = true
      · rw [if_pos hw] at he; simp at he
      · rw [if_neg hw] at he ⊢
        cases ha : accum 0 ((c :: r).take (numLen (c :: r))) with
        | none => rw [ha] at he; simp at he
        | some v => simp only; omega
    | false =>
      simp only [hd, Bool.false_eq_true, if_false] at he ⊢
      have := signLen_le c r
      by_cases h0 : signLen (c :: r) = 0
      · rw [if_pos h0] at he; simp at he
      · rw [if_neg h0]; simp only; omega

theorem scanF_blank {k : Nat} {c : UInt8} {r : List UInt8} {i : Int} (h : isBlank c = true) : scanF (k + 1) (c :: r) i = scanF k r (i + 1) := by rw [scanF, if_pos h]
theorem scanF_note {k : Nat} {c : UInt8} {r : List UInt8} {i : Int} (h : isBlank c = false) (h1 : (c.toNat : Int) = 35) : scanF (k + 1) (c :: r) i = scanF k ((c :: r).drop (pre notNl (c :: r))) (i + pre notNl (c :: r)) := by
  rw [scanF, if_neg (by rw [h]; decide), if_pos h1]
theorem scanF_tok {k : Nat} {c : UInt8} {r : List UInt8} {i : Int} (h : isBlank c = false) (h1 : ¬ (c.toNat : Int) = 35) (h2 : (oneRes (c :: r)).er = 0) : scanF (k + 1) (c :: r) i =
    (⟨(oneRes (c :: r)).kd, (oneRes (c :: r)).tx, (oneRes (c :: r)).vl, i⟩ :: (scanF k ((c :: r).drop (oneRes (c :: r)).ln.toNat) (i + (oneRes (c :: r)).ln)).1, (scanF k ((c :: r).drop (oneRes (c :: r)).ln.toNat) (i + (oneRes (c :: r)).ln)).2) := by
  rw [scanF, if_neg (by rw [h]; decide), if_neg h1, if_pos h2]
theorem scanF_err {k : Nat} {c : UInt8} {r : List UInt8} {i : Int} (h : isBlank c = false) (h1 : ¬ (c.toNat : Int) = 35) (h2 : ¬ (oneRes (c :: r)).er = 0) : scanF (k + 1) (c :: r) i = ([], i, (oneRes (c :: r)).er) := by
  rw [scanF, if_neg (by rw [h]; decide), if_neg h1, if_neg h2]
theorem scanF_nil {k : Nat} {i : Int} : scanF (k + 1) [] i = ([], 0, 0) := rfl

/-- What the main loop comes to. -/
def scanEnd (xs : List DV) (q : List Tok × Int × Int) : Ex × ST :=
  if q.2.2 = 0 then (.ext 0, ⟨[(5, .osl 4 (xs ++ q.1.map encTok))], []⟩) else (.ret, ⟨[(2, .osl 4 []), (3, .d (.int .i64 q.2.1)), (4, .d (.int .i64 q.2.2))], []⟩)

theorem scanEnd_cons (xs : List DV) (t : Tok) (q : List Tok × Int × Int) : scanEnd xs (t :: q.1, q.2) = scanEnd (xs ++ [encTok t]) q := by
  unfold scanEnd
  by_cases h : q.2.2 = 0 <;> simp [h]

theorem sum_scan_1 : SumOK Tryd.prog gl (ann 11) L_scan_1 (.loop l_scan_1) := by
  refine SumOK.of_inv (X := Xscan) (xok_Xscan 11) (by simp only [Sums, l_scan_1, and_true, true_and]; exact sum_scan_0) (by kernel_rfl) (lv := [0, 5, 6]) (rt := [2, 3, 4]) (xs := [(0, [5])]) (by decide)
    (fun m st r => ∃ (s : List UInt8) (xs : List DV) (n k : Nat), n ≤ s.length ∧ (s.length : Int) ≤ 4096 ∧ xs.length ≤ n ∧ s.length - n < k ∧ st = ⟨[(0, .d (.str s)), (5, .osl 4 xs), (6, .d (.int .i64 (n : Int)))], []⟩ ∧
      r = scanEnd xs (scanF k (s.drop n) n) ∧ m = s.length - n) ?_ ?_
  · intro st r h
    unfold L_scan_1 at h
    split at h
    · rename_i s xs n
      rcases Tr.br_some h with ⟨h1, h2⟩ | ⟨_, h2⟩
      · obtain ⟨h3, h4, h5, h6⟩ := of_decide_eq_true h1
        obtain ⟨k, rfl⟩ := Int.eq_ofNat_of_zero_le h3
        refine ⟨_, s, xs, k, s.length + 1, by omega, h5, by omega, by omega, rfl, ?_, rfl⟩
        unfold scanEnd
        rcases Tr.br_some h2 with ⟨h7, h8⟩ | ⟨h7, h8⟩
        · have := of_decide_eq_true h7
          simp only [Int.ofNat_eq_natCast, Int.toNat_natCast] at this h8
          rw [if_pos this]; exact (Tr.leaf_some h8).symm
        · have := of_decide_eq_false h7
          simp only [Int.ofNat_eq_natCast, Int.toNat_natCast] at this h8
          rw [if_neg this]; exact (Tr.leaf_some h8).symm
      · exact Tr.fail_some h2
    · exact Tr.fail_some h
  · rintro m st r ⟨s, xs, n, k, h1, h2, hx, hk, rfl, rfl, rfl⟩
    rw [body_scan_1]
    obtain ⟨k, rfl⟩ : ∃ j, k = j + 1 := ⟨k - 1, by omega⟩
    cases hb : s[n]? with
    | none =>
      have hl : s.length ≤ n := by simpa using hb
      rw [List.drop_eq_nil_of_le hl, scanF_nil]
      refine ⟨.ext 0, _, Tr.dec_no (by omega) rfl, .inl ⟨by simp, ?_⟩⟩
      simp [scanEnd]
    | some b =>
      have hl := at_len hb
      have hd := drop_at hb
      have h3 : ((n : Int) < s.length) := by omega
      have hw : IntKind.i64.wrap ((n : Int) + 1) = ((n + 1 : Nat) : Int) := by rw [wrap_in] <;> omega
      rw [List.take_length, Int.toNat_natCast, hb]
      cases hbl : isBlank b with
      | true =>
        refine ⟨.nrm, ⟨[(0, .d (.str s)), (5, .osl 4 xs), (6, .d (.int .i64 ((n + 1 : Nat) : Int)))], []⟩, ?_, .inr ⟨rfl, _, ?_, s, xs, n + 1, k, by omega, h2, by omega, by omega, rfl, ?_, rfl⟩⟩
        · refine Tr.dec_yes h3 (Tr.dec_yes (by omega) (Tr.opt_to rfl ?_))
          simp only [isBlank, Bool.or_eq_true, decide_eq_true_eq] at hbl
          rw [hw]
          refine Tr.dec_to (fun _ => rfl) fun _ => Tr.dec_to (fun _ => rfl) fun _ => Tr.dec_to (fun _ => rfl) fun _ => Tr.dec_to (fun _ => rfl) fun _ => by omega
        · omega
        · rw [hd, scanF_blank hbl]; simp
      | false =>
        have hbl' := hbl
        simp only [isBlank, Bool.or_eq_false_iff, decide_eq_false_iff_not] at hbl'
        obtain ⟨⟨⟨b1, b2⟩, b3⟩, b4⟩ := hbl'
        by_cases hh : (b.toNat : Int) = 35
        · have hle := pre_le notNl (s.drop n)
          have hpos : 1 ≤ pre notNl (s.drop n) := by rw [pre_at_yes hb (by simp [notNl, hh])]; omega
          rw [List.length_drop] at hle
          refine ⟨.nrm, ⟨[(0, .d (.str s)), (5, .osl 4 xs), (6, .d (.int .i64 ((n + pre notNl (s.drop n) : Nat) : Int)))], []⟩, ?_, .inr ⟨rfl, _, ?_, s, xs, n + pre notNl (s.drop n), k, by omega, h2, by omega, by omega, rfl, ?_, rfl⟩⟩
          · refine Tr.dec_yes h3 (Tr.dec_yes (by omega) (Tr.opt_to rfl (Tr.dec_no b1 (Tr.dec_no b2 (Tr.dec_no b3 (Tr.dec_no b4 (Tr.dec_yes hh (Tr.dec_yes ⟨by omega, by omega, by unfold big; omega⟩ ?_))))))))
            simp [Tr.run_leaf]
          · omega
          · rw [hd, scanF_note hbl hh, ← hd, List.drop_drop]; simp
        · by_cases he : (oneRes (s.drop n)).er = 0
          · have hol := one_len b (s.drop (n + 1)) (by rw [← hd]; exact he)
            rw [← hd, List.length_drop] at hol
            obtain ⟨q, hq⟩ := Int.eq_ofNat_of_zero_le (show 0 ≤ (oneRes (s.drop n)).ln by omega)
            refine ⟨.nrm, ⟨[(0, .d (.str s)), (5, .osl 4 (xs ++ [encTok ⟨(oneRes (s.drop n)).kd, (oneRes (s.drop n)).tx, (oneRes (s.drop n)).vl, n⟩])), (6, .d (.int .i64 ((n + q : Nat) : Int)))], []⟩, ?_, .inr ⟨rfl, _, ?_, s, _, n + q, k, by omega, h2, ?_, by omega, rfl, ?_, rfl⟩⟩
            · refine Tr.dec_yes h3 (Tr.dec_yes (by omega) (Tr.opt_to rfl (Tr.dec_no b1 (Tr.dec_no b2 (Tr.dec_no b3 (Tr.dec_no b4 (Tr.dec_no hh (Tr.dec_yes ⟨by omega, by omega, by omega⟩ ?_))))))))
              rw [Tr.run_yes (by simp [onePre, hd]; unfold big; have : (s.drop n).length = s.length - n := List.length_drop; rw [hd] at this; simp at this; omega)]
              rw [show (!decide ((oneRes (List.drop n s)).er = 0)) = false by simp [he], Tr.run_no rfl]
              refine Tr.dec_yes (by simp; omega) ?_
              rw [hq]
              have hw2 : IntKind.i64.wrap ((n : Int) + (q : Int)) = ((n + q : Nat) : Int) := by rw [wrap_in] <;> omega
              rw [hw2]; rfl
            · omega
            · simp; omega
            · rw [hd, scanF_tok hbl hh (by rw [← hd]; exact he), ← hd, scanEnd_cons, List.drop_drop, hq]; simp
          · have hr : scanEnd xs (scanF (k + 1) (s.drop n) n) = (.ret, ⟨[(2, .osl 4 []), (3, .d (.int .i64 (n : Int))), (4, .d (.int .i64 (oneRes (s.drop n)).er))], []⟩) := by
              rw [hd, scanF_err hbl hh (by rw [← hd]; exact he), ← hd]; simp [scanEnd, he]
            rw [hr]
            refine ⟨.ret, _, ?_, .inl ⟨by simp, rfl⟩⟩
            refine Tr.dec_yes h3 (Tr.dec_yes (by omega) (Tr.opt_to rfl (Tr.dec_no b1 (Tr.dec_no b2 (Tr.dec_no b3 (Tr.dec_no b4 (Tr.dec_no hh (Tr.dec_yes ⟨by omega, by omega, by omega⟩ ?_))))))))
            rw [Tr.run_yes (by simp [onePre, hd]; unfold big; have : (s.drop n).length = s.length - n := List.length_drop; rw [hd] at this; simp at this; omega)]
            rw [show (!decide ((oneRes (List.drop n s)).er = 0)) = true by simp [he], Tr.run_yes rfl]
            simp [Tr.run_leaf, scanEnd, he]
theorem ok_scan : FnOK Tryd.prog gl 11 scanT := by
  refine fn_of (X := Xscan) (xok_Xscan 11) Tryd.func11 c_scan_eq (by kernel_rfl) (by simp only [Sums, c_scan, and_true, true_and]; exact sum_scan_1) ?_
  intro xs H o h
  unfold scanT at h
  split at h
  · rw [tree_scan]
    obtain rfl := Tr.leaf_some h
    rename_i s
    unfold scan
    by_cases hl : 4096 < (s.length : Int)
    · refine Tr.dec_yes hl ?_
      rw [if_pos hl]; rfl
    · refine Tr.dec_no hl (Tr.dec_yes ⟨by omega, by omega, by omega, by simp⟩ ?_)
      rw [if_neg hl]
      rw [show (0 : Int).toNat = 0 from rfl, List.drop_zero, List.nil_append]
      by_cases h0 : (scanF (s.length + 1) s 0).2.2 = 0
      · rw [if_pos h0]
        exact Tr.dec_yes h0 rfl
      · rw [if_neg h0]
        exact Tr.dec_no h0 rfl
  · exact Tr.fail_some h

end Go.AI.TD

/- The reference's Same and Equal, and awake, in sum. -/
namespace Go.AI.TD
open Go Go.Proofs
set_option maxRecDepth 100000
set_option linter.unusedVariables false
set_option linter.unusedSimpArgs false

def unToks : List DV → Option (List Tok) := unL unTok
theorem unToks_of (l : List Tok) : unToks (l.map encTok) = some l := unL_map unTok_enc l
theorem unToks_inv {xs : List DV} {l : List Tok} (h : unToks xs = some l) : xs = l.map encTok := unL_inv unTok_ok h
theorem tok_at (l : List Tok) (i : Nat) : ((l.map encTok)[i]?).bind unTok = l[i]? := at_map unTok_enc l i

/-- The same but for the offsets. -/
def sameTok (a b : Tok) : Bool := decide (a.kind = b.kind) && decide (a.text = b.text) && decide (a.value = b.value)
def sameToks : List Tok → List Tok → Bool
  | [], [] => true
  | a :: l, b :: m => sameTok a b && sameToks l m
  | _, _ => false
def eqPos : List Tok → List Tok → Bool
  | a :: l, b :: m => decide (a.pos = b.pos) && eqPos l m
  | _, _ => true
def sPre (a b : List Tok) (n : Int) : Prop := 0 ≤ n ∧ n ≤ a.length ∧ a.length = b.length ∧ (a.length : Int) ≤ big
instance (a b : List Tok) (n : Int) : Decidable (sPre a b n) := by unfold sPre; infer_instance

def L_rsame_0 : ST → Tr (Ex × ST)
  | ⟨[(0, .d (.sl 4 xs)), (1, .d (.sl 4 ys)), (5, .d (.int .i64 n))], []⟩ => .opt (unToks xs) fun a => .opt (unToks ys) fun b => .br (decide (sPre a b n)) (.br (sameToks (a.drop n.toNat) (b.drop n.toNat)) (.leaf ((.ext 0), ⟨[], []⟩)) (.leaf (.ret, ⟨[(4, .d (.bool false))], []⟩))) .fail
  | _ => .fail

def rsameT : FT
  | [.d (.sl 4 xs), .d (.sl 4 ys)], [] => .opt (unToks xs) fun a => .opt (unToks ys) fun b => .br (decide ((a.length : Int) ≤ big)) (.leaf (.d (.bool (sameToks a b)), [])) .fail
  | _, _ => .fail

def requalT : FT
  | [.d (.sl 4 xs), .d (.sl 4 ys)], [] => .opt (unToks xs) fun a => .opt (unToks ys) fun b => .br (decide ((a.length : Int) ≤ big)) (.leaf (.d (.bool (sameToks a b && eqPos a b)), [])) .fail
  | _, _ => .fail

def L_requal_0 : ST → Tr (Ex × ST)
  | ⟨[(0, .d (.sl 4 xs)), (1, .d (.sl 4 ys)), (5, .d (.int .i64 n))], []⟩ => .opt (unToks xs) fun a => .opt (unToks ys) fun b => .br (decide (sPre a b n)) (.br (eqPos (a.drop n.toNat) (b.drop n.toNat)) (.leaf ((.ext 0), ⟨[], []⟩)) (.leaf (.ret, ⟨[(4, .d (.bool false))], []⟩))) .fail
  | _ => .fail

noncomputable abbrev Xrsame : TX := ⟨Tryd.prog, tbl [], iso, gl, vw⟩

theorem xok_Xrsame (f : Nat) : XOK Xrsame (ann f) gl := XOK.of base (l := []) trivial f

def l_rsame_0 : CC := .seq (.seq (.region [
    ⟨.yes, (some 11), .move (.tmp 5), false, false, []⟩,
    ⟨.yes, (some 12), .move (.tmp 0), false, false, [(some 4)]⟩,
    ⟨.yes, (some 13), .call ⟨.builtin .len, #[(.tmp 12)], #[22]⟩, false, false, []⟩,
    ⟨.yes, (some 14), .binOp .lss 3 (.tmp 11) (.tmp 13) 3, false, false, []⟩] [0, 1, 5, 14]) <|
  .cond (.tmp 14)
    (.skip)
    (.exit 0)) <|
  .seq (.block 1 <| .seq (.drawn ⟨[11, 24], [], [0, 1, 5, 53]⟩ [
    ⟨(some 17), .move (.tmp 0), 22, "ref.go:176", #[], none⟩,
    ⟨(some 18), .move (.tmp 5), 3, "ref.go:176", #[], none⟩,
    ⟨(some 19), .indexAddr 22 (.tmp 17) (.tmp 18), 0, "ref.go:176", #[⟨0, .data⟩, ⟨1, .data⟩], none⟩,
    ⟨(some 20), .fieldAddr 38 (.tmp 19) 0, 0, "ref.go:176", #[⟨2, .data⟩], none⟩,
    ⟨(some 21), .load 3 (.tmp 20), 3, "ref.go:176", #[⟨3, .data⟩], none⟩,
    ⟨(some 22), .move (.tmp 1), 22, "ref.go:176", #[], none⟩,
    ⟨(some 23), .move (.tmp 5), 3, "ref.go:176", #[], none⟩,
    ⟨(some 24), .indexAddr 22 (.tmp 22) (.tmp 23), 0, "ref.go:176", #[⟨5, .data⟩, ⟨6, .data⟩], none⟩,
    ⟨(some 25), .fieldAddr 38 (.tmp 24) 0, 0, "ref.go:176", #[⟨7, .data⟩], none⟩,
    ⟨(some 26), .load 3 (.tmp 25), 3, "ref.go:176", #[⟨8, .data⟩], none⟩,
    ⟨(some 27), .binOp .neq 3 (.tmp 21) (.tmp 26) 3, 4, "ref.go:176", #[⟨4, .data⟩, ⟨9, .data⟩], none⟩,
    ⟨(some 28), .move (.tmp 27), 4, "ref.go:176", #[⟨10, .data⟩], none⟩,
    ⟨(some 29), .move (.tmp 0), 22, "ref.go:176", #[⟨11, .guard⟩], (some (11, false))⟩,
    ⟨(some 30), .move (.tmp 5), 3, "ref.go:176", #[⟨11, .guard⟩], (some (11, false))⟩,
    ⟨(some 31), .indexAddr 22 (.tmp 29) (.tmp 30), 0, "ref.go:176", #[⟨12, .data⟩, ⟨13, .data⟩, ⟨11, .guard⟩], (some (11, false))⟩,
    ⟨(some 32), .fieldAddr 38 (.tmp 31) 1, 0, "ref.go:176", #[⟨14, .data⟩, ⟨11, .guard⟩], (some (11, false))⟩,
    ⟨(some 33), .load 9 (.tmp 32), 9, "ref.go:176", #[⟨15, .data⟩, ⟨11, .guard⟩], (some (11, false))⟩,
    ⟨(some 34), .move (.tmp 1), 22, "ref.go:176", #[⟨11, .guard⟩], (some (11, false))⟩,
    ⟨(some 35), .move (.tmp 5), 3, "ref.go:176", #[⟨11, .guard⟩], (some (11, false))⟩,
    ⟨(some 36), .indexAddr 22 (.tmp 34) (.tmp 35), 0, "ref.go:176", #[⟨17, .data⟩, ⟨18, .data⟩, ⟨11, .guard⟩], (some (11, false))⟩,
    ⟨(some 37), .fieldAddr 38 (.tmp 36) 1, 0, "ref.go:176", #[⟨19, .data⟩, ⟨11, .guard⟩], (some (11, false))⟩,
    ⟨(some 38), .load 9 (.tmp 37), 9, "ref.go:176", #[⟨20, .data⟩, ⟨11, .guard⟩], (some (11, false))⟩,
    ⟨(some 39), .binOp .neq 9 (.tmp 33) (.tmp 38) 9, 4, "ref.go:176", #[⟨16, .data⟩, ⟨21, .data⟩, ⟨11, .guard⟩], (some (11, false))⟩,
    ⟨(some 40), .pick (.tmp 28) (.const (.bool true)) (.tmp 39), 4, "ref.go:176", #[⟨11, .data⟩, ⟨22, .data⟩], none⟩,
    ⟨(some 41), .move (.tmp 40), 4, "ref.go:176", #[⟨23, .data⟩, ⟨11, .chain⟩], none⟩,
    ⟨(some 42), .move (.tmp 0), 22, "ref.go:176", #[⟨24, .guard⟩], (some (24, false))⟩,
    ⟨(some 43), .move (.tmp 5), 3, "ref.go:176", #[⟨24, .guard⟩], (some (24, false))⟩,
    ⟨(some 44), .indexAddr 22 (.tmp 42) (.tmp 43), 0, "ref.go:176", #[⟨25, .data⟩, ⟨26, .data⟩, ⟨24, .guard⟩], (some (24, false))⟩,
    ⟨(some 45), .fieldAddr 38 (.tmp 44) 2, 0, "ref.go:176", #[⟨27, .data⟩, ⟨24, .guard⟩], (some (24, false))⟩,
    ⟨(some 46), .load 3 (.tmp 45), 3, "ref.go:176", #[⟨28, .data⟩, ⟨24, .guard⟩], (some (24, false))⟩,
    ⟨(some 47), .move (.tmp 1), 22, "ref.go:176", #[⟨24, .guard⟩], (some (24, false))⟩,
    ⟨(some 48), .move (.tmp 5), 3, "ref.go:176", #[⟨24, .guard⟩], (some (24, false))⟩,
    ⟨(some 49), .indexAddr 22 (.tmp 47) (.tmp 48), 0, "ref.go:176", #[⟨30, .data⟩, ⟨31, .data⟩, ⟨24, .guard⟩], (some (24, false))⟩,
    ⟨(some 50), .fieldAddr 38 (.tmp 49) 2, 0, "ref.go:176", #[⟨32, .data⟩, ⟨24, .guard⟩], (some (24, false))⟩,
    ⟨(some 51), .load 3 (.tmp 50), 3, "ref.go:176", #[⟨33, .data⟩, ⟨24, .guard⟩], (some (24, false))⟩,
    ⟨(some 52), .binOp .neq 3 (.tmp 46) (.tmp 51) 3, 4, "ref.go:176", #[⟨29, .data⟩, ⟨34, .data⟩, ⟨24, .guard⟩], (some (24, false))⟩,
    ⟨(some 53), .pick (.tmp 41) (.const (.bool true)) (.tmp 52), 4, "ref.go:176", #[⟨24, .data⟩, ⟨35, .data⟩], none⟩]) <|
  .cond (.tmp 53)
    (.seq (.region [
      ⟨.yes, (some 4), .assign (.const (.bool false)), false, false, []⟩] [4]) <|
    .ret)
    (.skip)) <|
  .region [
    ⟨.yes, (some 15), .move (.tmp 5), true, false, []⟩,
    ⟨.yes, (some 16), .binOp .add 3 (.tmp 15) (.const (.int .i64 (1))) 3, false, false, []⟩,
    ⟨.yes, (some 5), .assign (.tmp 16), true, false, []⟩] [0, 1, 5]

/-- rollbacknet/rollbacknetref01.Same -/
def c_rsame : CC := .seq (.region [
    ⟨.yes, (some 4), .assign (.const (.bool false)), false, false, []⟩] [0, 1]) <|
  .seq (.seq (.region [
    ⟨.yes, (some 6), .move (.tmp 0), false, false, [(some 4)]⟩,
    ⟨.yes, (some 7), .call ⟨.builtin .len, #[(.tmp 6)], #[22]⟩, false, false, []⟩,
    ⟨.yes, (some 8), .move (.tmp 1), false, false, [(some 4)]⟩,
    ⟨.yes, (some 9), .call ⟨.builtin .len, #[(.tmp 8)], #[22]⟩, false, false, []⟩,
    ⟨.yes, (some 10), .binOp .neq 3 (.tmp 7) (.tmp 9) 3, false, false, []⟩] [0, 1, 10]) <|
  .cond (.tmp 10)
    (.seq (.region [
      ⟨.yes, (some 4), .assign (.const (.bool false)), false, false, []⟩] [4]) <|
    .ret)
    (.skip)) <|
  .seq (.seq (.region [
    ⟨.yes, (some 5), .assign (.const (.int .i64 (0))), false, false, []⟩] [0, 1, 5]) <|
  .block 0 <| .keep [0, 1, 5] <| .sum L_rsame_0 (.loop l_rsame_0)) <|
  .seq (.region [
    ⟨.yes, (some 4), .assign (.const (.bool true)), false, false, []⟩] [4]) <|
  .ret

theorem c_rsame_eq : ∃ c, Tryd.f12.body = some c ∧ codeOK Tryd.f12.ntmps c = true ∧ comp Tryd.prog (ann 12) c = erase c_rsame := ⟨_, rfl, by kernel_rfl, by kernel_rfl⟩

theorem body_rsame_0 (a b : List Tok) (n : Int) : bodyT Xrsame [0, 1, 5] [4] [(0, [])] l_rsame_0 ⟨[(0, .d (.sl 4 (a.map encTok))), (1, .d (.sl 4 (b.map encTok))), (5, .d (.int .i64 n))], []⟩ = (
    .br (decide (n < ((a.map encTok).length : Int)))
 (.br (decide ((0 : Int) ≤ n))
 (.opt (((a.map encTok)[(Int.toNat n)]?).bind unTok) fun y1 => .br (decide ((0 : Int) ≤ n))
 (.opt (((b.map encTok)[(Int.toNat n)]?).bind unTok) fun y2 => .br (!decide (y1.kind = y2.kind))
 (.leaf (.ret, ⟨[(4, .d (.bool false))], []⟩))
 (.br (decide ((0 : Int) ≤ n))
 (.opt (((a.map encTok)[(Int.toNat n)]?).bind unTok) fun y3 => .br (decide ((0 : Int) ≤ n))
 (.opt (((b.map encTok)[(Int.toNat n)]?).bind unTok) fun y4 => .br (!decide (y3.text = y4.text))
 (.leaf (.ret, ⟨[(4, .d (.bool false))], []⟩))
 (.br (decide ((0 : Int) ≤ n))
 (.opt (((a.map encTok)[(Int.toNat n)]?).bind unTok) fun y5 => .br (decide ((0 : Int) ≤ n))
 (.opt (((b.map encTok)[(Int.toNat n)]?).bind unTok) fun y6 => .br (!decide (y5.value = y6.value))
 (.leaf (.ret, ⟨[(4, .d (.bool false))], []⟩))
 (.leaf (.nrm, ⟨[(0, .d (.sl 4 (a.map encTok))), (1, .d (.sl 4 (b.map encTok))), (5, .d (.int .i64 (IntKind.i64.wrap (n + 1))))], []⟩)))
 (.fail))
 (.fail)))
 (.fail))
 (.fail)))
 (.fail))
 (.fail))
 (.leaf ((.ext 0), ⟨[], []⟩)) : Tr (Ex × ST)) := by kernel_rfl

theorem tree_rsame (a b : List Tok) : fnT Xrsame c_rsame Tryd.f12.results.toList [.d (.sl 4 (a.map encTok)), .d (.sl 4 (b.map encTok))] [] = (
    .br (!decide (((a.map encTok).length : Int) = ((b.map encTok).length : Int)))
 (.leaf (.d (.bool false), []))
 (.opt (unToks (a.map encTok)) fun a1 => .opt (unToks (b.map encTok)) fun b2 => .br (decide (sPre a1 b2 (0 : Int)))
 (.br (sameToks (a1.drop (0 : Int).toNat) (b2.drop (0 : Int).toNat))
 (.leaf (.d (.bool true), []))
 (.leaf (.d (.bool false), [])))
 (.fail)) : Tr (AV × Hp)) := by kernel_rfl


theorem toks_at {l : List Tok} {n : Nat} {t : Tok} (h : l[n]? = some t) : l.drop n = t :: l.drop (n + 1) := by
  have hl := (List.getElem?_eq_some_iff.1 h).1
  rw [List.drop_eq_getElem_cons hl]; congr 1; exact (List.getElem?_eq_some_iff.1 h).2

theorem sum_rsame_0 : SumOK Tryd.prog gl (ann 12) L_rsame_0 (.loop l_rsame_0) := by
  refine SumOK.of_inv (X := Xrsame) (xok_Xrsame 12) (by simp only [Sums, l_rsame_0, and_true]) (by kernel_rfl) (lv := [0, 1, 5]) (rt := [4]) (xs := [(0, [])]) (by decide)
    (fun m st r => ∃ (a b : List Tok) (n : Nat), n ≤ a.length ∧ a.length = b.length ∧ (a.length : Int) ≤ big ∧ st = ⟨[(0, .d (.sl 4 (a.map encTok))), (1, .d (.sl 4 (b.map encTok))), (5, .d (.int .i64 (n : Int)))], []⟩ ∧
      r = (if sameToks (a.drop n) (b.drop n) = true then (.ext 0, ⟨[], []⟩) else (.ret, ⟨[(4, .d (.bool false))], []⟩)) ∧ m = a.length - n) ?_ ?_
  · intro st r h
    unfold L_rsame_0 at h
    split at h
    · rename_i xs ys n
      obtain ⟨a, ha, h1⟩ := Tr.opt_some h
      obtain ⟨b, hb, h2⟩ := Tr.opt_some h1
      rcases Tr.br_some h2 with ⟨h3, h4⟩ | ⟨_, h4⟩
      · obtain ⟨h5, h6, h7, h8⟩ := of_decide_eq_true h3
        obtain ⟨k, rfl⟩ := Int.eq_ofNat_of_zero_le h5
        refine ⟨_, a, b, k, by omega, h7, h8, by rw [unToks_inv ha, unToks_inv hb], ?_, rfl⟩
        simp only [Int.ofNat_eq_natCast, Int.toNat_natCast] at h4
        rcases Tr.br_some h4 with ⟨h9, h10⟩ | ⟨h9, h10⟩
        · rw [if_pos h9]; exact (Tr.leaf_some h10).symm
        · rw [if_neg (by rw [h9]; decide)]; exact (Tr.leaf_some h10).symm
      · exact Tr.fail_some h4
    · exact Tr.fail_some h
  · rintro m st r ⟨a, b, n, h1, h2, h3, rfl, rfl, rfl⟩
    rw [body_rsame_0]
    unfold big at h3
    simp only [tok_at, Int.toNat_natCast, List.length_map]
    cases ha : a[n]? with
    | none =>
      have hl : a.length ≤ n := by simpa using ha
      rw [List.drop_eq_nil_of_le hl, List.drop_eq_nil_of_le (by omega)]
      exact ⟨.ext 0, _, Tr.dec_no (by omega) rfl, .inl ⟨by simp, rfl⟩⟩
    | some x =>
      have hl := at_len ha
      obtain ⟨y, hy⟩ : ∃ y, b[n]? = some y := ⟨b[n], List.getElem?_eq_getElem (by omega)⟩
      have hw : IntKind.i64.wrap ((n : Int) + 1) = ((n + 1 : Nat) : Int) := by rw [wrap_in] <;> omega
      rw [toks_at ha, toks_at hy, hy, hw]
      simp only [sameToks, sameTok]
      have h0 : (0 : Int) ≤ (n : Int) := by omega
      by_cases e1 : x.kind = y.kind
      · by_cases e2 : x.text = y.text
        · by_cases e3 : x.value = y.value
          · refine ⟨.nrm, _, Tr.dec_yes (by omega) (Tr.dec_yes h0 (Tr.opt_to rfl (Tr.dec_yes h0 (Tr.opt_to rfl ?_)))), .inr ⟨rfl, _, ?_, a, b, n + 1, by omega, h2, by unfold big; omega, rfl, ?_, rfl⟩⟩
            · simp [Tr.run_br, Tr.run_leaf, Tr.run_opt_, e1, e2, e3]
            · omega
            · simp [e1, e2, e3]
          · refine ⟨.ret, ⟨[(4, .d (.bool false))], []⟩, Tr.dec_yes (by omega) (Tr.dec_yes h0 (Tr.opt_to rfl (Tr.dec_yes h0 (Tr.opt_to rfl ?_)))), .inl ⟨by simp, by simp [e3]⟩⟩
            simp [Tr.run_br, Tr.run_leaf, Tr.run_opt_, e1, e2, e3]
        · refine ⟨.ret, ⟨[(4, .d (.bool false))], []⟩, Tr.dec_yes (by omega) (Tr.dec_yes h0 (Tr.opt_to rfl (Tr.dec_yes h0 (Tr.opt_to rfl ?_)))), .inl ⟨by simp, by simp [e2]⟩⟩
          simp [Tr.run_br, Tr.run_leaf, Tr.run_opt_, e1, e2]
      · refine ⟨.ret, ⟨[(4, .d (.bool false))], []⟩, Tr.dec_yes (by omega) (Tr.dec_yes h0 (Tr.opt_to rfl (Tr.dec_yes h0 (Tr.opt_to rfl ?_)))), .inl ⟨by simp, by simp [e1]⟩⟩
        simp [Tr.run_br, Tr.run_leaf, Tr.run_opt_, e1]

theorem sameToks_len : ∀ {a b : List Tok}, a.length ≠ b.length → sameToks a b = false
  | [], [], h => absurd rfl h
  | [], _ :: _, _ => rfl
  | _ :: _, [], _ => rfl
  | x :: a, y :: b, h => by simp only [sameToks, sameToks_len (a := a) (b := b) (by simpa using h), Bool.and_false]
theorem sameToks_eq {a b : List Tok} (h : sameToks a b = true) : a.length = b.length := by
  rcases Nat.decEq a.length b.length with h1 | h1
  · rw [sameToks_len h1] at h; cases h
  · exact h1

theorem ok_rsame : FnOK Tryd.prog gl 12 rsameT := by
  refine fn_of (X := Xrsame) (xok_Xrsame 12) Tryd.func12 c_rsame_eq (by kernel_rfl) (by simp only [Sums, c_rsame, and_true, true_and]; exact sum_rsame_0) ?_
  intro xs H o h
  unfold rsameT at h
  split at h
  · rename_i xs ys
    obtain ⟨a, ha, h1⟩ := Tr.opt_some h
    obtain ⟨b, hb, h2⟩ := Tr.opt_some h1
    obtain rfl := unToks_inv ha
    obtain rfl := unToks_inv hb
    rcases Tr.br_some h2 with ⟨h3, h4⟩ | ⟨_, h4⟩
    rw [tree_rsame]
    · obtain rfl := Tr.leaf_some h4
      have h3 := of_decide_eq_true h3
      simp only [List.length_map]
      by_cases hl : a.length = b.length
      · rw [Tr.run_no (by simp [hl])]
        refine Tr.opt_to (unToks_of a) (Tr.opt_to (unToks_of b) (Tr.dec_yes ⟨by omega, by omega, hl, h3⟩ ?_))
        refine Tr.br_to (fun h => ?_) (fun h => ?_)
        · rw [show sameToks a b = true from h]; rfl
        · rw [show sameToks a b = false from h]; rfl
      · rw [Tr.run_yes (by simp; omega), sameToks_len hl]; rfl
    · exact Tr.fail_some h4
  · exact Tr.fail_some h

noncomputable abbrev Xrequal : TX := ⟨Tryd.prog, tbl [(12, rsameT)], iso, gl, vw⟩

theorem xok_Xrequal (f : Nat) : XOK Xrequal (ann f) gl := XOK.of base (l := [(12, rsameT)]) ⟨ok_rsame, trivial⟩ f

def l_requal_0 : CC := .seq (.seq (.region [
    ⟨.yes, (some 10), .move (.tmp 5), false, false, []⟩,
    ⟨.yes, (some 11), .move (.tmp 0), false, false, [(some 4)]⟩,
    ⟨.yes, (some 12), .call ⟨.builtin .len, #[(.tmp 11)], #[22]⟩, false, false, []⟩,
    ⟨.yes, (some 13), .binOp .lss 3 (.tmp 10) (.tmp 12) 3, false, false, []⟩] [0, 1, 5, 13]) <|
  .cond (.tmp 13)
    (.skip)
    (.exit 0)) <|
  .seq (.block 1 <| .seq (.drawn ⟨[], [], [0, 1, 5, 26]⟩ [
    ⟨(some 16), .move (.tmp 0), 22, "ref.go:189", #[], none⟩,
    ⟨(some 17), .move (.tmp 5), 3, "ref.go:189", #[], none⟩,
    ⟨(some 18), .indexAddr 22 (.tmp 16) (.tmp 17), 0, "ref.go:189", #[⟨0, .data⟩, ⟨1, .data⟩], none⟩,
    ⟨(some 19), .fieldAddr 38 (.tmp 18) 3, 0, "ref.go:189", #[⟨2, .data⟩], none⟩,
    ⟨(some 20), .load 3 (.tmp 19), 3, "ref.go:189", #[⟨3, .data⟩], none⟩,
    ⟨(some 21), .move (.tmp 1), 22, "ref.go:189", #[], none⟩,
    ⟨(some 22), .move (.tmp 5), 3, "ref.go:189", #[], none⟩,
    ⟨(some 23), .indexAddr 22 (.tmp 21) (.tmp 22), 0, "ref.go:189", #[⟨5, .data⟩, ⟨6, .data⟩], none⟩,
    ⟨(some 24), .fieldAddr 38 (.tmp 23) 3, 0, "ref.go:189", #[⟨7, .data⟩], none⟩,
    ⟨(some 25), .load 3 (.tmp 24), 3, "ref.go:189", #[⟨8, .data⟩], none⟩,
    ⟨(some 26), .binOp .neq 3 (.tmp 20) (.tmp 25) 3, 4, "ref.go:189", #[⟨4, .data⟩, ⟨9, .data⟩], none⟩]) <|
  .cond (.tmp 26)
    (.seq (.region [
      ⟨.yes, (some 4), .assign (.const (.bool false)), false, false, []⟩] [4]) <|
    .ret)
    (.skip)) <|
  .region [
    ⟨.yes, (some 14), .move (.tmp 5), true, false, []⟩,
    ⟨.yes, (some 15), .binOp .add 3 (.tmp 14) (.const (.int .i64 (1))) 3, false, false, []⟩,
    ⟨.yes, (some 5), .assign (.tmp 15), true, false, []⟩] [0, 1, 5]

/-- rollbacknet/rollbacknetref01.Equal -/
def c_requal : CC := .seq (.region [
    ⟨.yes, (some 4), .assign (.const (.bool false)), false, false, []⟩] [0, 1]) <|
  .seq (.seq (.region [
    ⟨.yes, (some 6), .move (.tmp 0), false, false, [(some 4)]⟩,
    ⟨.yes, (some 7), .move (.tmp 1), false, false, [(some 4)]⟩,
    ⟨.yes, (some 8), .call ⟨.value (.func 12), #[(.tmp 6), (.tmp 7)], #[22, 22]⟩, false, false, []⟩,
    ⟨.yes, (some 9), .unOp .not 4 (.tmp 8), false, false, []⟩] [0, 1, 9]) <|
  .cond (.tmp 9)
    (.seq (.region [
      ⟨.yes, (some 4), .assign (.const (.bool false)), false, false, []⟩] [4]) <|
    .ret)
    (.skip)) <|
  .seq (.seq (.region [
    ⟨.yes, (some 5), .assign (.const (.int .i64 (0))), false, false, []⟩] [0, 1, 5]) <|
  .block 0 <| .keep [0, 1, 5] <| .sum L_requal_0 (.loop l_requal_0)) <|
  .seq (.region [
    ⟨.yes, (some 4), .assign (.const (.bool true)), false, false, []⟩] [4]) <|
  .ret

theorem c_requal_eq : ∃ c, Tryd.f16.body = some c ∧ codeOK Tryd.f16.ntmps c = true ∧ comp Tryd.prog (ann 16) c = erase c_requal := ⟨_, rfl, by kernel_rfl, by kernel_rfl⟩

theorem body_requal_0 (a b : List Tok) (n : Int) : bodyT Xrequal [0, 1, 5] [4] [(0, [])] l_requal_0 ⟨[(0, .d (.sl 4 (a.map encTok))), (1, .d (.sl 4 (b.map encTok))), (5, .d (.int .i64 n))], []⟩ = (
    .br (decide (n < ((a.map encTok).length : Int)))
 (.br (decide ((0 : Int) ≤ n))
 (.opt (((a.map encTok)[(Int.toNat n)]?).bind unTok) fun y1 => .br (decide ((0 : Int) ≤ n))
 (.opt (((b.map encTok)[(Int.toNat n)]?).bind unTok) fun y2 => .br (!decide (y1.pos = y2.pos))
 (.leaf (.ret, ⟨[(4, .d (.bool false))], []⟩))
 (.leaf (.nrm, ⟨[(0, .d (.sl 4 (a.map encTok))), (1, .d (.sl 4 (b.map encTok))), (5, .d (.int .i64 (IntKind.i64.wrap (n + 1))))], []⟩)))
 (.fail))
 (.fail))
 (.leaf ((.ext 0), ⟨[], []⟩)) : Tr (Ex × ST)) := by kernel_rfl

theorem tree_requal (a b : List Tok) : fnT Xrequal c_requal Tryd.f16.results.toList [.d (.sl 4 (a.map encTok)), .d (.sl 4 (b.map encTok))] [] = (
    .opt (unToks (a.map encTok)) fun a1 => .opt (unToks (b.map encTok)) fun b2 => .br (decide ((a1.length : Int) ≤ big))
 (.br (!(sameToks a1 b2))
 (.leaf (.d (.bool false), []))
 (.opt (unToks (a.map encTok)) fun a3 => .opt (unToks (b.map encTok)) fun b4 => .br (decide (sPre a3 b4 (0 : Int)))
 (.br (eqPos (a3.drop (0 : Int).toNat) (b4.drop (0 : Int).toNat))
 (.leaf (.d (.bool true), []))
 (.leaf (.d (.bool false), [])))
 (.fail)))
 (.fail) : Tr (AV × Hp)) := by kernel_rfl


theorem sum_requal_0 : SumOK Tryd.prog gl (ann 16) L_requal_0 (.loop l_requal_0) := by
  refine SumOK.of_inv (X := Xrequal) (xok_Xrequal 16) (by simp only [Sums, l_requal_0, and_true]) (by kernel_rfl) (lv := [0, 1, 5]) (rt := [4]) (xs := [(0, [])]) (by decide)
    (fun m st r => ∃ (a b : List Tok) (n : Nat), n ≤ a.length ∧ a.length = b.length ∧ (a.length : Int) ≤ big ∧ st = ⟨[(0, .d (.sl 4 (a.map encTok))), (1, .d (.sl 4 (b.map encTok))), (5, .d (.int .i64 (n : Int)))], []⟩ ∧
      r = (if eqPos (a.drop n) (b.drop n) = true then (.ext 0, ⟨[], []⟩) else (.ret, ⟨[(4, .d (.bool false))], []⟩)) ∧ m = a.length - n) ?_ ?_
  · intro st r h
    unfold L_requal_0 at h
    split at h
    · rename_i xs ys n
      obtain ⟨a, ha, h1⟩ := Tr.opt_some h
      obtain ⟨b, hb, h2⟩ := Tr.opt_some h1
      rcases Tr.br_some h2 with ⟨h3, h4⟩ | ⟨_, h4⟩
      · obtain ⟨h5, h6, h7, h8⟩ := of_decide_eq_true h3
        obtain ⟨k, rfl⟩ := Int.eq_ofNat_of_zero_le h5
        refine ⟨_, a, b, k, by omega, h7, h8, by rw [unToks_inv ha, unToks_inv hb], ?_, rfl⟩
        simp only [Int.ofNat_eq_natCast, Int.toNat_natCast] at h4
        rcases Tr.br_some h4 with ⟨h9, h10⟩ | ⟨h9, h10⟩
        · rw [if_pos h9]; exact (Tr.leaf_some h10).symm
        · rw [if_neg (by rw [h9]; decide)]; exact (Tr.leaf_some h10).symm
      · exact Tr.fail_some h4
    · exact Tr.fail_some h
  · rintro m st r ⟨a, b, n, h1, h2, h3, rfl, rfl, rfl⟩
    rw [body_requal_0]
    unfold big at h3
    simp only [tok_at, Int.toNat_natCast, List.length_map]
    cases ha : a[n]? with
    | none =>
      have hl : a.length ≤ n := by simpa using ha
      rw [List.drop_eq_nil_of_le hl, List.drop_eq_nil_of_le (by omega)]
      exact ⟨.ext 0, _, Tr.dec_no (by omega) rfl, .inl ⟨by simp, rfl⟩⟩
    | some x =>
      have hl := at_len ha
      obtain ⟨y, hy⟩ : ∃ y, b[n]? = some y := ⟨b[n], List.getElem?_eq_getElem (by omega)⟩
      have hw : IntKind.i64.wrap ((n : Int) + 1) = ((n + 1 : Nat) : Int) := by rw [wrap_in] <;> omega
      rw [toks_at ha, toks_at hy, hy, hw]
      simp only [eqPos]
      have h0 : (0 : Int) ≤ (n : Int) := by omega
      by_cases e1 : x.pos = y.pos
      · refine ⟨.nrm, _, Tr.dec_yes (by omega) (Tr.dec_yes h0 (Tr.opt_to rfl (Tr.dec_yes h0 (Tr.opt_to rfl ?_)))), .inr ⟨rfl, _, ?_, a, b, n + 1, by omega, h2, by unfold big; omega, rfl, ?_, rfl⟩⟩
        · simp [Tr.run_br, Tr.run_leaf, Tr.run_opt_, e1]
        · omega
        · simp [e1]
      · refine ⟨.ret, ⟨[(4, .d (.bool false))], []⟩, Tr.dec_yes (by omega) (Tr.dec_yes h0 (Tr.opt_to rfl (Tr.dec_yes h0 (Tr.opt_to rfl ?_)))), .inl ⟨by simp, by simp [e1]⟩⟩
        simp [Tr.run_br, Tr.run_leaf, Tr.run_opt_, e1]
theorem ok_requal : FnOK Tryd.prog gl 16 requalT := by
  refine fn_of (X := Xrequal) (xok_Xrequal 16) Tryd.func16 c_requal_eq (by kernel_rfl) (by simp only [Sums, c_requal, and_true, true_and]; exact sum_requal_0) ?_
  intro xs H o h
  unfold requalT at h
  split at h
  · rename_i xs ys
    obtain ⟨a, ha, h1⟩ := Tr.opt_some h
    obtain ⟨b, hb, h2⟩ := Tr.opt_some h1
    obtain rfl := unToks_inv ha
    obtain rfl := unToks_inv hb
    rcases Tr.br_some h2 with ⟨h3, h4⟩ | ⟨_, h4⟩
    rw [tree_requal]
    · obtain rfl := Tr.leaf_some h4
      have h3 := of_decide_eq_true h3
      refine Tr.opt_to (unToks_of a) (Tr.opt_to (unToks_of b) (Tr.dec_yes h3 ?_))
      cases hs : sameToks a b with
      | false => simp [Tr.run_br, Tr.run_leaf]
      | true =>
        have hl := sameToks_eq hs
        rw [show (!true) = false from rfl, Tr.run_no rfl, Bool.true_and]
        refine Tr.opt_to (unToks_of a) (Tr.opt_to (unToks_of b) (Tr.dec_yes ⟨by omega, by omega, hl, h3⟩ ?_))
        refine Tr.br_to (fun h => ?_) (fun h => ?_)
        · rw [show eqPos a b = true from h]; rfl
        · rw [show eqPos a b = false from h]; rfl
    · exact Tr.fail_some h4
  · exact Tr.fail_some h


/-- The text of the chapter's example. -/
def ex1 : List UInt8 := [97, 61, 61, 33, 98, 32, 35, 32, 99]
theorem scan_ex1 : scan ex1 = ([⟨1, [97], 0, 0⟩, ⟨3, [61, 61], 0, 1⟩, ⟨3, [33], 0, 3⟩, ⟨1, [98], 0, 4⟩], 0, 0) := by kernel_rfl
def awakeT : FT
  | [], [] => .leaf (.d (.bool true), [])
  | _, _ => .fail

noncomputable abbrev Xawake : TX := ⟨Tryd.prog, tbl [(11, scanT)], iso, gl, vw⟩

theorem xok_Xawake (f : Nat) : XOK Xawake (ann f) gl := XOK.of base (l := [(11, scanT)]) ⟨ok_scan, trivial⟩ f

/-- rollbacknet/rollbacknetlaw01.awake -/
def c_awake : CC := .seq (.region [
    ⟨.yes, (some 0), .assign (.const (.bool false)), false, false, []⟩] []) <|
  .seq (.region [
    ⟨.yes, (some 5), .call ⟨.value (.func 11), #[(.const (.string ⟨#[97, 61, 61, 33, 98, 32, 35, 32, 99]⟩))], #[9]⟩, false, false, []⟩,
    ⟨.yes, (some 4), .move (.tmp 5), true, false, []⟩,
    ⟨.yes, (some 6), .extract (.tmp 4) 0, false, false, [(some 4)]⟩,
    ⟨.yes, (some 7), .extract (.tmp 4) 1, false, false, []⟩,
    ⟨.yes, (some 8), .extract (.tmp 4) 2, false, false, []⟩,
    ⟨.yes, (some 1), .assign (.tmp 6), true, false, [(some 4)]⟩,
    ⟨.yes, (some 2), .assign (.tmp 7), true, false, []⟩,
    ⟨.yes, (some 3), .assign (.tmp 8), true, false, []⟩] [1, 3]) <|
  .seq (.region [
    ⟨.yes, (some 9), .move (.tmp 3), true, false, []⟩,
    ⟨.yes, (some 10), .binOp .eql 26 (.tmp 9) (.const (.int .i64 (0))) 26, false, false, []⟩,
    ⟨.yes, (some 11), .move (.tmp 10), true, false, []⟩,
    ⟨(.on 11 true), (some 12), .move (.tmp 1), false, false, [(some 4)]⟩,
    ⟨(.on 11 true), (some 13), .call ⟨.builtin .len, #[(.tmp 12)], #[22]⟩, false, false, []⟩,
    ⟨(.on 11 true), (some 14), .binOp .eql 3 (.tmp 13) (.const (.int .i64 (4))) 3, false, false, []⟩,
    ⟨.yes, (some 15), .pick (.tmp 11) (.tmp 14) (.const (.bool false)), false, false, []⟩,
    ⟨.yes, (some 16), .move (.tmp 15), true, false, []⟩,
    ⟨(.on 16 true), (some 17), .move (.tmp 1), false, false, [(some 4)]⟩,
    ⟨(.on 16 true), (some 18), .indexAddr 22 (.tmp 17) (.const (.int .i64 (3))), false, false, []⟩,
    ⟨(.on 16 true), (some 19), .fieldAddr 38 (.tmp 18) 3, false, false, []⟩,
    ⟨(.on 16 true), (some 20), .load 3 (.tmp 19), false, false, []⟩,
    ⟨(.on 16 true), (some 21), .binOp .eql 3 (.tmp 20) (.const (.int .i64 (4))) 3, false, false, []⟩,
    ⟨.yes, (some 22), .pick (.tmp 16) (.tmp 21) (.const (.bool false)), false, false, []⟩,
    ⟨.yes, (some 23), .move (.tmp 22), true, false, []⟩,
    ⟨(.on 23 true), (some 24), .move (.tmp 1), true, false, [(some 4)]⟩,
    ⟨(.on 23 true), (some 25), .indexAddr 22 (.tmp 24) (.const (.int .i64 (1))), false, false, []⟩,
    ⟨(.on 23 true), (some 26), .fieldAddr 38 (.tmp 25) 1, false, false, []⟩,
    ⟨(.on 23 true), (some 27), .load 9 (.tmp 26), false, false, []⟩,
    ⟨(.on 23 true), (some 28), .binOp .eql 9 (.tmp 27) (.const (.string ⟨#[61, 61]⟩)) 9, false, false, []⟩,
    ⟨.yes, (some 29), .pick (.tmp 23) (.tmp 28) (.const (.bool false)), false, false, []⟩,
    ⟨.yes, (some 0), .assign (.tmp 29), true, false, []⟩] [0]) <|
  .ret

theorem c_awake_eq : ∃ c, Tryd.f8.body = some c ∧ codeOK Tryd.f8.ntmps c = true ∧ comp Tryd.prog (ann 8) c = erase c_awake := ⟨_, rfl, by kernel_rfl, by kernel_rfl⟩

theorem tree_awake : fnT Xawake c_awake Tryd.f8.results.toList [] [] = (
    .br (decide (((scan ([97, 61, 61, 33, 98, 32, 35, 32, 99] : List UInt8)).2.2) = 0))
 (.br (decide ((((scan ([97, 61, 61, 33, 98, 32, 35, 32, 99] : List UInt8)).1.map encTok).length : Int) = 4))
 (.br (decide ((0 : Int) ≤ 3))
 (.opt ((((scan ([97, 61, 61, 33, 98, 32, 35, 32, 99] : List UInt8)).1.map encTok)[3]?).bind unTok) fun y1 => .br (decide (y1.pos = 4))
 (.br (decide ((0 : Int) ≤ 1))
 (.opt ((((scan ([97, 61, 61, 33, 98, 32, 35, 32, 99] : List UInt8)).1.map encTok)[1]?).bind unTok) fun y2 => .leaf (.d (.bool (decide (y2.text = [61, 61]))), []))
 (.fail))
 (.leaf (.d (.bool false), [])))
 (.fail))
 (.leaf (.d (.bool false), [])))
 (.leaf (.d (.bool false), [])) : Tr (AV × Hp)) := by kernel_rfl

theorem ex1_eq : ([97, 61, 61, 33, 98, 32, 35, 32, 99] : List UInt8) = ex1 := rfl
theorem ok_awake : FnOK Tryd.prog gl 8 awakeT := by
  refine fn_of (X := Xawake) (xok_Xawake 8) Tryd.func8 c_awake_eq (by kernel_rfl) (by simp only [Sums, c_awake, and_true]) ?_
  intro xs H o h
  unfold awakeT at h
  split at h
  · rw [tree_awake]
    obtain rfl := Tr.leaf_some h
    simp only [ex1_eq, scan_ex1]
    simp [Tr.run_br, Tr.run_leaf, Tr.run_opt_, encTok, unTok]
  · exact Tr.fail_some h


theorem scanF_len : ∀ (k : Nat) (s : List UInt8) (i : Int), (scanF k s i).1.length ≤ s.length
  | 0, _, _ => Nat.zero_le _
  | k + 1, [], _ => Nat.zero_le _
  | k + 1, c :: r, i => by
    cases hb : isBlank c with
    | true => rw [scanF_blank hb]; have := scanF_len k r (i + 1); simp; omega
    | false =>
      by_cases h1 : (c.toNat : Int) = 35
      · rw [scanF_note hb h1]
        have := scanF_len k ((c :: r).drop (pre notNl (c :: r))) (i + pre notNl (c :: r))
        rw [List.length_drop] at this; omega
      · by_cases h2 : (oneRes (c :: r)).er = 0
        · rw [scanF_tok hb h1 h2]
          have := scanF_len k ((c :: r).drop (oneRes (c :: r)).ln.toNat) (i + (oneRes (c :: r)).ln)
          have ho := one_len c r h2
          rw [List.length_drop] at this
          simp only [List.length_cons] at *; omega
        · rw [scanF_err hb h1 h2]; exact Nat.zero_le _

theorem scan_len (s : List UInt8) : ((scan s).1.length : Int) ≤ 4096 := by
  unfold scan
  by_cases h : 4096 < (s.length : Int)
  · rw [if_pos h]; simp
  · rw [if_neg h]
    have := scanF_len (s.length + 1) s 0
    split
    · simp only; omega
    · simp

theorem same_refl : ∀ (l : List Tok), (sameToks l l && eqPos l l) = true
  | [] => rfl
  | a :: l => by
    have := same_refl l
    simp only [Bool.and_eq_true] at this
    simp [sameToks, sameTok, eqPos, this.1, this.2]
end Go.AI.TD
