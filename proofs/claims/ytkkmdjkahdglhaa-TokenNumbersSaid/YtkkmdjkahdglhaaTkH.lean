/- The reference's Scan, Same and Equal, in sum. -/
import Derived.Test.YtkkmdjkahdglhaaTkG
namespace Go.AI.TK
open Go Go.Proofs
set_option maxRecDepth 10000
set_option linter.unusedVariables false
set_option linter.unusedSimpArgs false

def unToks : List DV → Option (List Tok) := unL unTok
theorem unToks_of (l : List Tok) : unToks (l.map encTok) = some l := unL_map unTok_enc l
theorem unToks_inv {xs : List DV} {l : List Tok} (h : unToks xs = some l) : xs = l.map encTok := unL_inv unTok_ok h
theorem tok_at (l : List Tok) (i : Nat) : ((l.map encTok)[i]?).bind unTok = l[i]? := at_map unTok_enc l i

/-- The same but for the offsets. -/
def sameTok (a b : Tok) : Bool := decide (a.kind = b.kind) && decide (a.text = b.text) && decide (a.value = b.value)
def sameToks : List Tok → List Tok → Bool
  | [], [] => true
  | a :: l, b :: m => sameTok a b && sameToks l m
  | _, _ => false
def eqPos : List Tok → List Tok → Bool
  | a :: l, b :: m => decide (a.pos = b.pos) && eqPos l m
  | _, _ => true
def sPre (a b : List Tok) (n : Int) : Prop := 0 ≤ n ∧ n ≤ a.length ∧ a.length = b.length ∧ (a.length : Int) ≤ big
instance (a b : List Tok) (n : Int) : Decidable (sPre a b n) := by unfold sPre; infer_instance

def L_rscan_0 : ST → Tr (Ex × ST)
  | ⟨[(0, .d (.str s)), (5, .osl 4 xs), (6, .d (.int .i64 n))], []⟩ => .br (decide (0 ≤ n ∧ n ≤ s.length ∧ (s.length : Int) ≤ big)) (.leaf ((.ext 3), ⟨[(0, .d (.str s)), (5, .osl 4 xs), (6, .d (.int .i64 (n + (pre notNl (s.drop n.toNat) : Int))))], []⟩)) .fail
  | _ => .fail

def L_rscan_1 : ST → Tr (Ex × ST)
  | ⟨[(0, .d (.str s)), (5, .osl 4 xs), (6, .d (.int .i64 n))], []⟩ => .br (decide (scanPre s n xs.length)) (.br (decide ((scanF (s.length + 1) (s.drop n.toNat) n).2.2 = 0)) (.leaf ((.ext 0), ⟨[(5, .osl 4 (xs ++ (scanF (s.length + 1) (s.drop n.toNat) n).1.map encTok))], []⟩)) (.leaf (.ret, ⟨[(2, .osl 4 []), (3, .d (.int .i64 (scanF (s.length + 1) (s.drop n.toNat) n).2.1)), (4, .d (.int .i64 (scanF (s.length + 1) (s.drop n.toNat) n).2.2))], []⟩))) .fail
  | _ => .fail

def rscanT : FT
  | [.d (.str s)], [] => .leaf ((.tup [.d (.sl 4 ((scan s).1.map encTok)), .d (.int .i64 (scan s).2.1), .d (.int .i64 (scan s).2.2)]), [])
  | _, _ => .fail

noncomputable abbrev Xrscan : TX := ⟨Try.prog, tbl [(17, roneT), (16, rblankT)], iso, gl, vw⟩

theorem xok_Xrscan (f : Nat) : XOK Xrscan (ann f) gl := XOK.of base (l := [(17, roneT), (16, rblankT)]) ⟨ok_rone, ok_rblank, trivial⟩ f

def l_rscan_0 : CC := .seq (.seq (.region [
    ⟨.yes, (some 45), .move (.tmp 6), false, false, []⟩,
    ⟨.yes, (some 46), .move (.tmp 0), false, false, []⟩,
    ⟨.yes, (some 47), .call ⟨.builtin .len, #[(.tmp 46)], #[9]⟩, false, false, []⟩,
    ⟨.yes, (some 48), .binOp .lss 3 (.tmp 45) (.tmp 47) 3, false, false, []⟩,
    ⟨.yes, (some 49), .move (.tmp 48), true, false, []⟩,
    ⟨(.on 49 true), (some 50), .move (.tmp 0), false, false, []⟩,
    ⟨(.on 49 true), (some 51), .move (.tmp 6), false, false, []⟩,
    ⟨(.on 49 true), (some 52), .index 9 (.tmp 50) (.tmp 51), false, false, []⟩,
    ⟨(.on 49 true), (some 53), .binOp .neq 5 (.tmp 52) (.const (.int .u8 (10))) 5, false, false, []⟩,
    ⟨.yes, (some 54), .pick (.tmp 49) (.tmp 53) (.const (.bool false)), false, false, []⟩] [0, 5, 6, 54]) <|
  .cond (.tmp 54)
    (.skip)
    (.exit 3)) <|
  .block 4 <| .region [
    ⟨.yes, (some 55), .move (.tmp 6), true, false, []⟩,
    ⟨.yes, (some 56), .binOp .add 3 (.tmp 55) (.const (.int .i64 (1))) 3, false, false, []⟩,
    ⟨.yes, (some 6), .assign (.tmp 56), true, false, []⟩] [0, 5, 6]

def l_rscan_1 : CC := .seq (.seq (.region [
    ⟨.yes, (some 13), .move (.tmp 6), false, false, []⟩,
    ⟨.yes, (some 14), .move (.tmp 0), false, false, []⟩,
    ⟨.yes, (some 15), .call ⟨.builtin .len, #[(.tmp 14)], #[9]⟩, false, false, []⟩,
    ⟨.yes, (some 16), .binOp .lss 3 (.tmp 13) (.tmp 15) 3, false, false, []⟩] [0, 5, 6, 16]) <|
  .cond (.tmp 16)
    (.skip)
    (.exit 0)) <|
  .block 1 <| .block 2 <| .seq (.region [
    ⟨.yes, (some 34), .move (.tmp 0), false, false, []⟩,
    ⟨.yes, (some 35), .move (.tmp 6), false, false, []⟩,
    ⟨.yes, (some 36), .index 9 (.tmp 34) (.tmp 35), false, false, []⟩,
    ⟨.yes, (some 37), .call ⟨.value (.func 16), #[(.tmp 36)], #[5]⟩, false, false, []⟩,
    ⟨.yes, (some 33), .assign (.tmp 37), true, false, []⟩] [0, 5, 6, 33]) <|
  .cond (.tmp 33)
    (.region [
      ⟨.yes, (some 38), .move (.tmp 6), true, false, []⟩,
      ⟨.yes, (some 39), .binOp .add 3 (.tmp 38) (.const (.int .i64 (1))) 3, false, false, []⟩,
      ⟨.yes, (some 6), .assign (.tmp 39), true, false, []⟩] [0, 5, 6])
    (.seq (.region [
      ⟨.yes, (some 41), .move (.tmp 0), false, false, []⟩,
      ⟨.yes, (some 42), .move (.tmp 6), false, false, []⟩,
      ⟨.yes, (some 43), .index 9 (.tmp 41) (.tmp 42), false, false, []⟩,
      ⟨.yes, (some 44), .binOp .eql 5 (.tmp 43) (.const (.int .u8 (35))) 5, false, false, []⟩,
      ⟨.yes, (some 40), .assign (.tmp 44), true, false, []⟩] [0, 5, 6, 40]) <|
    .cond (.tmp 40)
      (.block 3 <| .keep [0, 5, 6] <| .sum L_rscan_0 (.loop l_rscan_0))
      (.seq (.region [
        ⟨.yes, (some 18), .move (.tmp 0), false, false, []⟩,
        ⟨.yes, (some 19), .move (.tmp 6), false, false, []⟩,
        ⟨.yes, (some 20), .call ⟨.value (.func 17), #[(.tmp 18), (.tmp 19)], #[9, 3]⟩, false, false, []⟩,
        ⟨.yes, (some 17), .move (.tmp 20), true, false, []⟩,
        ⟨.yes, (some 21), .extract (.tmp 17) 0, false, false, []⟩,
        ⟨.yes, (some 22), .extract (.tmp 17) 1, false, false, []⟩,
        ⟨.yes, (some 23), .extract (.tmp 17) 2, false, false, []⟩,
        ⟨.yes, (some 7), .alloc 31, false, false, []⟩,
        ⟨.yes, none, .store 31 (.tmp 7) (.tmp 21), true, false, []⟩,
        ⟨.yes, (some 8), .assign (.tmp 22), true, false, []⟩,
        ⟨.yes, (some 9), .assign (.tmp 23), true, false, []⟩] [0, 5, 6, 7, 8, 9]) <|
      .seq (.seq (.region [
        ⟨.yes, (some 24), .move (.tmp 9), false, false, []⟩,
        ⟨.yes, (some 25), .binOp .neq 24 (.tmp 24) (.const (.int .i64 (0))) 24, false, false, []⟩] [0, 5, 6, 7, 8, 9, 25]) <|
      .cond (.tmp 25)
        (.seq (.region [
          ⟨.yes, (some 26), .move (.tmp 6), true, false, []⟩,
          ⟨.yes, (some 27), .move (.tmp 9), true, false, []⟩,
          ⟨.yes, (some 2), .assign (.const (.slice none 0 0)), false, false, [(some 4)]⟩,
          ⟨.yes, (some 3), .assign (.tmp 26), true, false, []⟩,
          ⟨.yes, (some 4), .assign (.tmp 27), true, false, []⟩] [2, 3, 4]) <|
        .ret)
        (.skip)) <|
      .seq (.region [
        ⟨.yes, (some 28), .move (.tmp 5), true, false, [(some 4)]⟩,
        ⟨.yes, (some 29), .load 31 (.tmp 7), false, false, []⟩,
        ⟨.yes, (some 30), .buildSlice 23 1 #[(0, (.tmp 29))], false, false, [(some 4)]⟩,
        ⟨.yes, (some 31), .call ⟨.builtin .append, #[(.tmp 28), (.tmp 30)], #[23, 23]⟩, true, false, [(some 4)]⟩,
        ⟨.yes, (some 5), .assign (.tmp 31), true, false, [(some 4)]⟩] [0, 5, 8]) <|
      .region [
        ⟨.yes, (some 32), .move (.tmp 8), true, false, []⟩,
        ⟨.yes, (some 6), .assign (.tmp 32), true, false, []⟩] [0, 5, 6]))

/-- rollbacknet/rollbacknetref01.Scan -/
def c_rscan : CC := .seq (.region [
    ⟨.yes, (some 2), .assign (.const (.slice none 0 0)), false, false, [(some 4)]⟩,
    ⟨.yes, (some 3), .assign (.const (.int .i64 (0))), false, false, []⟩,
    ⟨.yes, (some 4), .assign (.const (.int .i64 (0))), false, false, []⟩] [0]) <|
  .seq (.seq (.region [
    ⟨.yes, (some 10), .move (.tmp 0), false, false, []⟩,
    ⟨.yes, (some 11), .call ⟨.builtin .len, #[(.tmp 10)], #[9]⟩, false, false, []⟩,
    ⟨.yes, (some 12), .binOp .gtr 3 (.tmp 11) (.const (.int .i64 (4096))) 3, false, false, []⟩] [0, 12]) <|
  .cond (.tmp 12)
    (.seq (.region [
      ⟨.yes, (some 2), .assign (.const (.slice none 0 0)), false, false, [(some 4)]⟩,
      ⟨.yes, (some 3), .assign (.const (.int .i64 (0))), false, false, []⟩,
      ⟨.yes, (some 4), .assign (.const (.int .i64 (5))), false, false, []⟩] [2, 3, 4]) <|
    .ret)
    (.skip)) <|
  .seq (.region [
    ⟨.yes, (some 5), .assign (.const (.slice none 0 0)), false, false, [(some 4)]⟩] [0, 5]) <|
  .seq (.seq (.region [
    ⟨.yes, (some 6), .assign (.const (.int .i64 (0))), false, false, []⟩] [0, 5, 6]) <|
  .block 0 <| .keep [0, 5, 6] <| .sum L_rscan_1 (.loop l_rscan_1)) <|
  .seq (.region [
    ⟨.yes, (some 57), .move (.tmp 5), true, false, [(some 4)]⟩,
    ⟨.yes, (some 2), .assign (.tmp 57), true, false, [(some 4)]⟩,
    ⟨.yes, (some 3), .assign (.const (.int .i64 (0))), false, false, []⟩,
    ⟨.yes, (some 4), .assign (.const (.int .i64 (0))), false, false, []⟩] [2, 3, 4]) <|
  .ret

theorem c_rscan_eq : ∃ c, Try.f8.body = some c ∧ codeOK Try.f8.ntmps c = true ∧ comp Try.prog (ann 8) c = erase c_rscan := ⟨_, rfl, by kernel_rfl, by kernel_rfl⟩

theorem body_rscan_0 (s : List UInt8) (xs : List DV) (n : Int) : bodyT Xrscan [0, 5, 6] [2, 3, 4] [(0, [5]), (1, [0, 5, 6]), (2, [0, 5, 6]), (3, [0, 5, 6])] l_rscan_0 ⟨[(0, .d (.str s)), (5, .osl 4 xs), (6, .d (.int .i64 n))], []⟩ = (
    .br (decide (n < (s.length : Int)))
    (.br (decide ((0 : Int) ≤ n))
      (.opt (s[(Int.toNat n)]?) fun b1 => .br (!decide ((b1.toNat : Int) = 10))
        (.leaf (.nrm, ⟨[(0, (.d (.str s))), (5, (.osl 4 xs)), (6, (.d (.int .i64 (IntKind.i64.wrap (n + 1)))))], []⟩))
        (.leaf ((.ext 3), ⟨[(0, (.d (.str s))), (5, (.osl 4 xs)), (6, (.d (.int .i64 n)))], []⟩)))
      (.fail))
    (.leaf ((.ext 3), ⟨[(0, (.d (.str s))), (5, (.osl 4 xs)), (6, (.d (.int .i64 n)))], []⟩)) : Tr (Ex × ST)) := by kernel_rfl

theorem body_rscan_1 (s : List UInt8) (xs : List DV) (n : Int) : bodyT Xrscan [0, 5, 6] [2, 3, 4] [(0, [5])] l_rscan_1 ⟨[(0, .d (.str s)), (5, .osl 4 xs), (6, .d (.int .i64 n))], []⟩ = (
    .br (decide (n < (s.length : Int)))
    (.br (decide ((0 : Int) ≤ n))
      (.opt (s[(Int.toNat n)]?) fun b1 => .br (isBlankI (b1.toNat : Int))
        (.leaf (.nrm, ⟨[(0, (.d (.str s))), (5, (.osl 4 xs)), (6, (.d (.int .i64 (IntKind.i64.wrap (n + 1)))))], []⟩))
        (.br (decide ((0 : Int) ≤ n))
          (.opt (s[(Int.toNat n)]?) fun b2 => .br (decide ((b2.toNat : Int) = 35))
            (.br (decide (0 ≤ n ∧ n ≤ s.length ∧ (s.length : Int) ≤ big))
              (.leaf (.nrm, ⟨[(0, (.d (.str s))), (5, (.osl 4 xs)), (6, (.d (.int .i64 (n + (pre notNl (s.drop n.toNat) : Int)))))], []⟩))
              (.fail))
            (.br (decide (ronePre s n))
              (.br (!decide (((oneRes (s.drop n.toNat)).er) = 0))
                (.leaf (.ret, ⟨[(2, (.osl 4 [])), (3, (.d (.int .i64 n))), (4, (.d (.int .i64 ((oneRes (s.drop n.toNat)).er))))], []⟩))
                (.br (decide ((xs.length + ([(.agg [(.int .i64 ((oneRes (s.drop n.toNat)).kd)), (.str ((oneRes (s.drop n.toNat)).tx)), (.int .i64 ((oneRes (s.drop n.toNat)).vl)), (.int .i64 (rAt (oneRes (s.drop n.toNat)) n))])] : List DV).length) * 40 ≤ 70368744177664))
                  (.leaf (.nrm, ⟨[(0, (.d (.str s))), (5, (.osl 4 (xs ++ [(.agg [(.int .i64 ((oneRes (s.drop n.toNat)).kd)), (.str ((oneRes (s.drop n.toNat)).tx)), (.int .i64 ((oneRes (s.drop n.toNat)).vl)), (.int .i64 (rAt (oneRes (s.drop n.toNat)) n))])]))), (6, (.d (.int .i64 (rAt (oneRes (s.drop n.toNat)) (n + (oneRes (s.drop n.toNat)).ln)))))], []⟩))
                  (.fail)))
              (.fail)))
          (.fail)))
      (.fail))
    (.leaf ((.ext 0), ⟨[(5, (.osl 4 xs))], []⟩)) : Tr (Ex × ST)) := by kernel_rfl

theorem tree_rscan (s : List UInt8) : fnT Xrscan c_rscan Try.f8.results.toList [.d (.str s)] [] = (
    .br (decide ((4096 : Int) < (s.length : Int)))
    (.leaf ((.tup [(.d (.sl 4 [])), (.d (.int .i64 0)), (.d (.int .i64 5))]), []))
    (.br (decide (scanPre s (0 : Int) ([] : List DV).length))
      (.br (decide ((scanF (s.length + 1) (s.drop (0 : Int).toNat) (0 : Int)).2.2 = 0))
        (.leaf ((.tup [(.d (.sl 4 (([] : List DV) ++ (scanF (s.length + 1) (s.drop (0 : Int).toNat) (0 : Int)).1.map encTok))), (.d (.int .i64 0)), (.d (.int .i64 0))]), []))
        (.leaf ((.tup [(.d (.sl 4 [])), (.d (.int .i64 ((scanF (s.length + 1) (s.drop (0 : Int).toNat) (0 : Int)).2.1))), (.d (.int .i64 ((scanF (s.length + 1) (s.drop (0 : Int).toNat) (0 : Int)).2.2)))]), [])))
      (.fail)) : Tr (AV × Hp)) := by kernel_rfl

def L_rsame_0 : ST → Tr (Ex × ST)
  | ⟨[(0, .d (.sl 4 xs)), (1, .d (.sl 4 ys)), (5, .d (.int .i64 n))], []⟩ => .opt (unToks xs) fun a => .opt (unToks ys) fun b => .br (decide (sPre a b n)) (.br (sameToks (a.drop n.toNat) (b.drop n.toNat)) (.leaf ((.ext 0), ⟨[], []⟩)) (.leaf (.ret, ⟨[(4, .d (.bool false))], []⟩))) .fail
  | _ => .fail

def rsameT : FT
  | [.d (.sl 4 xs), .d (.sl 4 ys)], [] => .opt (unToks xs) fun a => .opt (unToks ys) fun b => .br (decide ((a.length : Int) ≤ big)) (.leaf (.d (.bool (sameToks a b)), [])) .fail
  | _, _ => .fail

def requalT : FT
  | [.d (.sl 4 xs), .d (.sl 4 ys)], [] => .opt (unToks xs) fun a => .opt (unToks ys) fun b => .br (decide ((a.length : Int) ≤ big)) (.leaf (.d (.bool (sameToks a b && eqPos a b)), [])) .fail
  | _, _ => .fail

def L_requal_0 : ST → Tr (Ex × ST)
  | ⟨[(0, .d (.sl 4 xs)), (1, .d (.sl 4 ys)), (5, .d (.int .i64 n))], []⟩ => .opt (unToks xs) fun a => .opt (unToks ys) fun b => .br (decide (sPre a b n)) (.br (eqPos (a.drop n.toNat) (b.drop n.toNat)) (.leaf ((.ext 0), ⟨[], []⟩)) (.leaf (.ret, ⟨[(4, .d (.bool false))], []⟩))) .fail
  | _ => .fail

noncomputable abbrev Xrsame : TX := ⟨Try.prog, tbl [], iso, gl, vw⟩

theorem xok_Xrsame (f : Nat) : XOK Xrsame (ann f) gl := XOK.of base (l := []) trivial f

def l_rsame_0 : CC := .seq (.seq (.region [
    ⟨.yes, (some 11), .move (.tmp 5), false, false, []⟩,
    ⟨.yes, (some 12), .move (.tmp 0), false, false, [(some 4)]⟩,
    ⟨.yes, (some 13), .call ⟨.builtin .len, #[(.tmp 12)], #[23]⟩, false, false, []⟩,
    ⟨.yes, (some 14), .binOp .lss 3 (.tmp 11) (.tmp 13) 3, false, false, []⟩] [0, 1, 5, 14]) <|
  .cond (.tmp 14)
    (.skip)
    (.exit 0)) <|
  .seq (.block 1 <| .seq (.drawn ⟨[11, 24], [], [0, 1, 5, 53]⟩ [
    ⟨(some 17), .move (.tmp 0), 23, "ref.go:176", #[], none⟩,
    ⟨(some 18), .move (.tmp 5), 3, "ref.go:176", #[], none⟩,
    ⟨(some 19), .indexAddr 23 (.tmp 17) (.tmp 18), 0, "ref.go:176", #[⟨0, .data⟩, ⟨1, .data⟩], none⟩,
    ⟨(some 20), .fieldAddr 31 (.tmp 19) 0, 0, "ref.go:176", #[⟨2, .data⟩], none⟩,
    ⟨(some 21), .load 3 (.tmp 20), 3, "ref.go:176", #[⟨3, .data⟩], none⟩,
    ⟨(some 22), .move (.tmp 1), 23, "ref.go:176", #[], none⟩,
    ⟨(some 23), .move (.tmp 5), 3, "ref.go:176", #[], none⟩,
    ⟨(some 24), .indexAddr 23 (.tmp 22) (.tmp 23), 0, "ref.go:176", #[⟨5, .data⟩, ⟨6, .data⟩], none⟩,
    ⟨(some 25), .fieldAddr 31 (.tmp 24) 0, 0, "ref.go:176", #[⟨7, .data⟩], none⟩,
    ⟨(some 26), .load 3 (.tmp 25), 3, "ref.go:176", #[⟨8, .data⟩], none⟩,
    ⟨(some 27), .binOp .neq 3 (.tmp 21) (.tmp 26) 3, 4, "ref.go:176", #[⟨4, .data⟩, ⟨9, .data⟩], none⟩,
    ⟨(some 28), .move (.tmp 27), 4, "ref.go:176", #[⟨10, .data⟩], none⟩,
    ⟨(some 29), .move (.tmp 0), 23, "ref.go:176", #[⟨11, .guard⟩], (some (11, false))⟩,
    ⟨(some 30), .move (.tmp 5), 3, "ref.go:176", #[⟨11, .guard⟩], (some (11, false))⟩,
    ⟨(some 31), .indexAddr 23 (.tmp 29) (.tmp 30), 0, "ref.go:176", #[⟨12, .data⟩, ⟨13, .data⟩, ⟨11, .guard⟩], (some (11, false))⟩,
    ⟨(some 32), .fieldAddr 31 (.tmp 31) 1, 0, "ref.go:176", #[⟨14, .data⟩, ⟨11, .guard⟩], (some (11, false))⟩,
    ⟨(some 33), .load 9 (.tmp 32), 9, "ref.go:176", #[⟨15, .data⟩, ⟨11, .guard⟩], (some (11, false))⟩,
    ⟨(some 34), .move (.tmp 1), 23, "ref.go:176", #[⟨11, .guard⟩], (some (11, false))⟩,
    ⟨(some 35), .move (.tmp 5), 3, "ref.go:176", #[⟨11, .guard⟩], (some (11, false))⟩,
    ⟨(some 36), .indexAddr 23 (.tmp 34) (.tmp 35), 0, "ref.go:176", #[⟨17, .data⟩, ⟨18, .data⟩, ⟨11, .guard⟩], (some (11, false))⟩,
    ⟨(some 37), .fieldAddr 31 (.tmp 36) 1, 0, "ref.go:176", #[⟨19, .data⟩, ⟨11, .guard⟩], (some (11, false))⟩,
    ⟨(some 38), .load 9 (.tmp 37), 9, "ref.go:176", #[⟨20, .data⟩, ⟨11, .guard⟩], (some (11, false))⟩,
    ⟨(some 39), .binOp .neq 9 (.tmp 33) (.tmp 38) 9, 4, "ref.go:176", #[⟨16, .data⟩, ⟨21, .data⟩, ⟨11, .guard⟩], (some (11, false))⟩,
    ⟨(some 40), .pick (.tmp 28) (.const (.bool true)) (.tmp 39), 4, "ref.go:176", #[⟨11, .data⟩, ⟨22, .data⟩], none⟩,
    ⟨(some 41), .move (.tmp 40), 4, "ref.go:176", #[⟨23, .data⟩, ⟨11, .chain⟩], none⟩,
    ⟨(some 42), .move (.tmp 0), 23, "ref.go:176", #[⟨24, .guard⟩], (some (24, false))⟩,
    ⟨(some 43), .move (.tmp 5), 3, "ref.go:176", #[⟨24, .guard⟩], (some (24, false))⟩,
    ⟨(some 44), .indexAddr 23 (.tmp 42) (.tmp 43), 0, "ref.go:176", #[⟨25, .data⟩, ⟨26, .data⟩, ⟨24, .guard⟩], (some (24, false))⟩,
    ⟨(some 45), .fieldAddr 31 (.tmp 44) 2, 0, "ref.go:176", #[⟨27, .data⟩, ⟨24, .guard⟩], (some (24, false))⟩,
    ⟨(some 46), .load 3 (.tmp 45), 3, "ref.go:176", #[⟨28, .data⟩, ⟨24, .guard⟩], (some (24, false))⟩,
    ⟨(some 47), .move (.tmp 1), 23, "ref.go:176", #[⟨24, .guard⟩], (some (24, false))⟩,
    ⟨(some 48), .move (.tmp 5), 3, "ref.go:176", #[⟨24, .guard⟩], (some (24, false))⟩,
    ⟨(some 49), .indexAddr 23 (.tmp 47) (.tmp 48), 0, "ref.go:176", #[⟨30, .data⟩, ⟨31, .data⟩, ⟨24, .guard⟩], (some (24, false))⟩,
    ⟨(some 50), .fieldAddr 31 (.tmp 49) 2, 0, "ref.go:176", #[⟨32, .data⟩, ⟨24, .guard⟩], (some (24, false))⟩,
    ⟨(some 51), .load 3 (.tmp 50), 3, "ref.go:176", #[⟨33, .data⟩, ⟨24, .guard⟩], (some (24, false))⟩,
    ⟨(some 52), .binOp .neq 3 (.tmp 46) (.tmp 51) 3, 4, "ref.go:176", #[⟨29, .data⟩, ⟨34, .data⟩, ⟨24, .guard⟩], (some (24, false))⟩,
    ⟨(some 53), .pick (.tmp 41) (.const (.bool true)) (.tmp 52), 4, "ref.go:176", #[⟨24, .data⟩, ⟨35, .data⟩], none⟩]) <|
  .cond (.tmp 53)
    (.seq (.region [
      ⟨.yes, (some 4), .assign (.const (.bool false)), false, false, []⟩] [4]) <|
    .ret)
    (.skip)) <|
  .region [
    ⟨.yes, (some 15), .move (.tmp 5), true, false, []⟩,
    ⟨.yes, (some 16), .binOp .add 3 (.tmp 15) (.const (.int .i64 (1))) 3, false, false, []⟩,
    ⟨.yes, (some 5), .assign (.tmp 16), true, false, []⟩] [0, 1, 5]

/-- rollbacknet/rollbacknetref01.Same -/
def c_rsame : CC := .seq (.region [
    ⟨.yes, (some 4), .assign (.const (.bool false)), false, false, []⟩] [0, 1]) <|
  .seq (.seq (.region [
    ⟨.yes, (some 6), .move (.tmp 0), false, false, [(some 4)]⟩,
    ⟨.yes, (some 7), .call ⟨.builtin .len, #[(.tmp 6)], #[23]⟩, false, false, []⟩,
    ⟨.yes, (some 8), .move (.tmp 1), false, false, [(some 4)]⟩,
    ⟨.yes, (some 9), .call ⟨.builtin .len, #[(.tmp 8)], #[23]⟩, false, false, []⟩,
    ⟨.yes, (some 10), .binOp .neq 3 (.tmp 7) (.tmp 9) 3, false, false, []⟩] [0, 1, 10]) <|
  .cond (.tmp 10)
    (.seq (.region [
      ⟨.yes, (some 4), .assign (.const (.bool false)), false, false, []⟩] [4]) <|
    .ret)
    (.skip)) <|
  .seq (.seq (.region [
    ⟨.yes, (some 5), .assign (.const (.int .i64 (0))), false, false, []⟩] [0, 1, 5]) <|
  .block 0 <| .keep [0, 1, 5] <| .sum L_rsame_0 (.loop l_rsame_0)) <|
  .seq (.region [
    ⟨.yes, (some 4), .assign (.const (.bool true)), false, false, []⟩] [4]) <|
  .ret

theorem c_rsame_eq : ∃ c, Try.f18.body = some c ∧ codeOK Try.f18.ntmps c = true ∧ comp Try.prog (ann 18) c = erase c_rsame := ⟨_, rfl, by kernel_rfl, by kernel_rfl⟩

theorem body_rsame_0 (a b : List Tok) (n : Int) : bodyT Xrsame [0, 1, 5] [4] [(0, [])] l_rsame_0 ⟨[(0, .d (.sl 4 (a.map encTok))), (1, .d (.sl 4 (b.map encTok))), (5, .d (.int .i64 n))], []⟩ = (
    .br (decide (n < ((a.map encTok).length : Int)))
    (.br (decide ((0 : Int) ≤ n))
      (.opt (((a.map encTok)[(Int.toNat n)]?).bind unTok) fun y1 => .br (decide ((0 : Int) ≤ n))
        (.opt (((b.map encTok)[(Int.toNat n)]?).bind unTok) fun y2 => .br (!decide (y1.kind = y2.kind))
          (.leaf (.ret, ⟨[(4, (.d (.bool false)))], []⟩))
          (.br (decide ((0 : Int) ≤ n))
            (.opt (((a.map encTok)[(Int.toNat n)]?).bind unTok) fun y3 => .br (decide ((0 : Int) ≤ n))
              (.opt (((b.map encTok)[(Int.toNat n)]?).bind unTok) fun y4 => .br (!decide (y3.text = y4.text))
                (.leaf (.ret, ⟨[(4, (.d (.bool false)))], []⟩))
                (.br (decide ((0 : Int) ≤ n))
                  (.opt (((a.map encTok)[(Int.toNat n)]?).bind unTok) fun y5 => .br (decide ((0 : Int) ≤ n))
                    (.opt (((b.map encTok)[(Int.toNat n)]?).bind unTok) fun y6 => .br (!decide (y5.value = y6.value))
                      (.leaf (.ret, ⟨[(4, (.d (.bool false)))], []⟩))
                      (.leaf (.nrm, ⟨[(0, (.d (.sl 4 (a.map encTok)))), (1, (.d (.sl 4 (b.map encTok)))), (5, (.d (.int .i64 (IntKind.i64.wrap (n + 1)))))], []⟩)))
                    (.fail))
                  (.fail)))
              (.fail))
            (.fail)))
        (.fail))
      (.fail))
    (.leaf ((.ext 0), ⟨[], []⟩)) : Tr (Ex × ST)) := by kernel_rfl

theorem tree_rsame (a b : List Tok) : fnT Xrsame c_rsame Try.f18.results.toList [.d (.sl 4 (a.map encTok)), .d (.sl 4 (b.map encTok))] [] = (
    .br (!decide (((a.map encTok).length : Int) = ((b.map encTok).length : Int)))
    (.leaf ((.d (.bool false)), []))
    (.opt (unToks (a.map encTok)) fun a1 => .opt (unToks (b.map encTok)) fun b2 => .br (decide (sPre a1 b2 (0 : Int)))
      (.br (sameToks (a1.drop (0 : Int).toNat) (b2.drop (0 : Int).toNat))
        (.leaf ((.d (.bool true)), []))
        (.leaf ((.d (.bool false)), [])))
      (.fail)) : Tr (AV × Hp)) := by kernel_rfl


theorem sum_rscan_0 : SumOK Try.prog gl (ann 8) L_rscan_0 (.loop l_rscan_0) := by
  refine SumOK.of_inv (X := Xrscan) (xok_Xrscan 8) (by simp only [Sums, l_rscan_0, and_true]) (by kernel_rfl) (lv := [0, 5, 6]) (rt := [2, 3, 4]) (xs := [(0, [5]), (1, [0, 5, 6]), (2, [0, 5, 6]), (3, [0, 5, 6])]) (by decide)
    (fun m st r => ∃ (s : List UInt8) (xs : List DV) (n : Nat), n ≤ s.length ∧ (s.length : Int) ≤ big ∧ st = ⟨[(0, .d (.str s)), (5, .osl 4 xs), (6, .d (.int .i64 (n : Int)))], []⟩ ∧ r = (.ext 3, ⟨[(0, .d (.str s)), (5, .osl 4 xs), (6, .d (.int .i64 ((n : Int) + (pre notNl (s.drop n) : Int))))], []⟩) ∧ m = s.length - n) ?_ ?_
  · intro st r h
    unfold L_rscan_0 at h
    split at h
    · rename_i s xs n
      rcases Tr.br_some h with ⟨h1, h2⟩ | ⟨_, h2⟩
      · obtain ⟨h3, h4, h5⟩ := of_decide_eq_true h1
        obtain rfl := Tr.leaf_some h2
        obtain ⟨k, rfl⟩ := Int.eq_ofNat_of_zero_le h3
        exact ⟨_, s, xs, k, by omega, h5, rfl, by simp, rfl⟩
      · exact Tr.fail_some h2
    · exact Tr.fail_some h
  · rintro m st r ⟨s, xs, n, h1, h2, rfl, rfl, rfl⟩
    rw [body_rscan_0]
    have hw : n < s.length → IntKind.i64.wrap ((n : Int) + 1) = ((n + 1 : Nat) : Int) := fun h => by unfold big at h2; rw [wrap_in] <;> omega
    cases hb : s[n]? with
    | none =>
      have hl : s.length ≤ n := by simpa using hb
      rw [List.drop_eq_nil_of_le hl]
      refine ⟨.ext 3, _, ?_, .inl ⟨by simp, rfl⟩⟩
      have h3 : ¬ ((n : Int) < s.length) := by omega
      simp [Tr.run_br, Tr.run_leaf, h3, pre_nil]
    | some b =>
      have hl := at_len hb
      have h3 : ((n : Int) < s.length) := by omega
      by_cases hp : (b.toNat : Int) = 10
      · refine ⟨.ext 3, _, ?_, .inl ⟨by simp, rfl⟩⟩
        rw [pre_at_no hb (by simp [notNl, hp])]
        simp [Tr.run_br, Tr.run_leaf, Tr.run_opt_, h3, hb, hp]
      · refine ⟨.nrm, ⟨[(0, .d (.str s)), (5, .osl 4 xs), (6, .d (.int .i64 ((n + 1 : Nat) : Int)))], []⟩, ?_, .inr ⟨rfl, _, ?_, s, xs, n + 1, by omega, h2, rfl, ?_, rfl⟩⟩
        · simp [Tr.run_br, Tr.run_leaf, Tr.run_opt_, h3, hb, hp, hw hl]
        · omega
        · rw [pre_at_yes hb (by simp [notNl, hp])]; simp; omega


theorem blank_eq (b : UInt8) : isBlankI (b.toNat : Int) = isBlank b := by
  simp only [isBlankI, isBlank]
  rw [Bool.eq_iff_iff]
  simp [or_assoc]

theorem sum_rscan_1 : SumOK Try.prog gl (ann 8) L_rscan_1 (.loop l_rscan_1) := by
  refine SumOK.of_inv (X := Xrscan) (xok_Xrscan 8) (by simp only [Sums, l_rscan_1, and_true, true_and]; exact sum_rscan_0) (by kernel_rfl) (lv := [0, 5, 6]) (rt := [2, 3, 4]) (xs := [(0, [5])]) (by decide)
    (fun m st r => ∃ (s : List UInt8) (xs : List DV) (n k : Nat), n ≤ s.length ∧ (s.length : Int) ≤ 4096 ∧ xs.length ≤ n ∧ s.length - n < k ∧ st = ⟨[(0, .d (.str s)), (5, .osl 4 xs), (6, .d (.int .i64 (n : Int)))], []⟩ ∧
      r = scanEnd xs (scanF k (s.drop n) n) ∧ m = s.length - n) ?_ ?_
  · intro st r h
    unfold L_rscan_1 at h
    split at h
    · rename_i s xs n
      rcases Tr.br_some h with ⟨h1, h2⟩ | ⟨_, h2⟩
      · obtain ⟨h3, h4, h5, h6⟩ := of_decide_eq_true h1
        obtain ⟨k, rfl⟩ := Int.eq_ofNat_of_zero_le h3
        refine ⟨_, s, xs, k, s.length + 1, by omega, h5, by omega, by omega, rfl, ?_, rfl⟩
        unfold scanEnd
        rcases Tr.br_some h2 with ⟨h7, h8⟩ | ⟨h7, h8⟩
        · have := of_decide_eq_true h7
          simp only [Int.ofNat_eq_natCast, Int.toNat_natCast] at this h8
          rw [if_pos this]; exact (Tr.leaf_some h8).symm
        · have := of_decide_eq_false h7
          simp only [Int.ofNat_eq_natCast, Int.toNat_natCast] at this h8
          rw [if_neg this]; exact (Tr.leaf_some h8).symm
      · exact Tr.fail_some h2
    · exact Tr.fail_some h
  · rintro m st r ⟨s, xs, n, k, h1, h2, hx, hk, rfl, rfl, rfl⟩
    rw [body_rscan_1]
    obtain ⟨k, rfl⟩ : ∃ j, k = j + 1 := ⟨k - 1, by omega⟩
    cases hb : s[n]? with
    | none =>
      have hl : s.length ≤ n := by simpa using hb
      rw [List.drop_eq_nil_of_le hl, scanF_nil]
      refine ⟨.ext 0, _, Tr.dec_no (by omega) rfl, .inl ⟨by simp, ?_⟩⟩
      simp [scanEnd]
    | some b =>
      have hl := at_len hb
      have hd := drop_at hb
      have h3 : ((n : Int) < s.length) := by omega
      have hw : IntKind.i64.wrap ((n : Int) + 1) = ((n + 1 : Nat) : Int) := by rw [wrap_in] <;> omega
      simp only [Int.toNat_natCast, hb]
      cases hbl : isBlank b with
      | true =>
        refine ⟨.nrm, ⟨[(0, .d (.str s)), (5, .osl 4 xs), (6, .d (.int .i64 ((n + 1 : Nat) : Int)))], []⟩, ?_, .inr ⟨rfl, _, ?_, s, xs, n + 1, k, by omega, h2, by omega, by omega, rfl, ?_, rfl⟩⟩
        · refine Tr.dec_yes h3 (Tr.dec_yes (by omega) (Tr.opt_to rfl ?_))
          rw [blank_eq, hbl, Tr.run_yes rfl, hw]; rfl
        · omega
        · rw [hd, scanF_blank hbl]; simp
      | false =>
        have hrp : ronePre s (n : Int) := ⟨by omega, h3, by unfold big; omega⟩
        by_cases hh : (b.toNat : Int) = 35
        · have hle := pre_le notNl (s.drop n)
          have hpos : 1 ≤ pre notNl (s.drop n) := by rw [pre_at_yes hb (by simp [notNl, hh])]; omega
          rw [List.length_drop] at hle
          refine ⟨.nrm, ⟨[(0, .d (.str s)), (5, .osl 4 xs), (6, .d (.int .i64 ((n + pre notNl (s.drop n) : Nat) : Int)))], []⟩, ?_, .inr ⟨rfl, _, ?_, s, xs, n + pre notNl (s.drop n), k, by omega, h2, by omega, by omega, rfl, ?_, rfl⟩⟩
          · refine Tr.dec_yes h3 (Tr.dec_yes (by omega) (Tr.opt_to rfl ?_))
            rw [blank_eq, hbl, Tr.run_no rfl]
            refine Tr.dec_yes (by omega) (Tr.opt_to rfl (Tr.dec_yes hh (Tr.dec_yes ⟨by omega, by omega, by unfold big; omega⟩ ?_)))
            simp [Tr.run_leaf]
          · omega
          · rw [hd, scanF_note hbl hh, ← hd, List.drop_drop]; simp
        · by_cases he : (oneRes (s.drop n)).er = 0
          · have hol := one_len b (s.drop (n + 1)) (by rw [← hd]; exact he)
            rw [← hd, List.length_drop] at hol
            obtain ⟨q, hq⟩ := Int.eq_ofNat_of_zero_le (show 0 ≤ (oneRes (s.drop n)).ln by omega)
            refine ⟨.nrm, ⟨[(0, .d (.str s)), (5, .osl 4 (xs ++ [encTok ⟨(oneRes (s.drop n)).kd, (oneRes (s.drop n)).tx, (oneRes (s.drop n)).vl, n⟩])), (6, .d (.int .i64 ((n + q : Nat) : Int)))], []⟩, ?_, .inr ⟨rfl, _, ?_, s, _, n + q, k, by omega, h2, ?_, by omega, rfl, ?_, rfl⟩⟩
            · refine Tr.dec_yes h3 (Tr.dec_yes (by omega) (Tr.opt_to rfl ?_))
              rw [blank_eq, hbl, Tr.run_no rfl]
              refine Tr.dec_yes (by omega) (Tr.opt_to rfl (Tr.dec_no hh (Tr.dec_yes hrp ?_)))
              rw [show (!decide ((oneRes (List.drop n s)).er = 0)) = false by simp [he], Tr.run_no rfl]
              refine Tr.dec_yes (by simp; omega) ?_
              have r1 : rAt (oneRes (s.drop n)) (n : Int) = n := by simp [rAt, he]
              have r2 : rAt (oneRes (s.drop n)) ((n : Int) + (oneRes (s.drop n)).ln) = ((n + q : Nat) : Int) := by simp [rAt, he, hq]
              rw [r1, r2]; rfl
            · omega
            · simp; omega
            · rw [hd, scanF_tok hbl hh (by rw [← hd]; exact he), ← hd, scanEnd_cons, List.drop_drop, hq]; simp
          · have hr : scanEnd xs (scanF (k + 1) (s.drop n) n) = (.ret, ⟨[(2, .osl 4 []), (3, .d (.int .i64 (n : Int))), (4, .d (.int .i64 (oneRes (s.drop n)).er))], []⟩) := by
              rw [hd, scanF_err hbl hh (by rw [← hd]; exact he), ← hd]; simp [scanEnd, he]
            rw [hr]
            refine ⟨.ret, _, ?_, .inl ⟨by simp, rfl⟩⟩
            refine Tr.dec_yes h3 (Tr.dec_yes (by omega) (Tr.opt_to rfl ?_))
            rw [blank_eq, hbl, Tr.run_no rfl]
            refine Tr.dec_yes (by omega) (Tr.opt_to rfl (Tr.dec_no hh (Tr.dec_yes hrp ?_)))
            rw [show (!decide ((oneRes (List.drop n s)).er = 0)) = true by simp [he], Tr.run_yes rfl]
            rfl

theorem toks_at {l : List Tok} {n : Nat} {t : Tok} (h : l[n]? = some t) : l.drop n = t :: l.drop (n + 1) := by
  have hl := (List.getElem?_eq_some_iff.1 h).1
  rw [List.drop_eq_getElem_cons hl]; congr 1; exact (List.getElem?_eq_some_iff.1 h).2

theorem sum_rsame_0 : SumOK Try.prog gl (ann 18) L_rsame_0 (.loop l_rsame_0) := by
  refine SumOK.of_inv (X := Xrsame) (xok_Xrsame 18) (by simp only [Sums, l_rsame_0, and_true]) (by kernel_rfl) (lv := [0, 1, 5]) (rt := [4]) (xs := [(0, [])]) (by decide)
    (fun m st r => ∃ (a b : List Tok) (n : Nat), n ≤ a.length ∧ a.length = b.length ∧ (a.length : Int) ≤ big ∧ st = ⟨[(0, .d (.sl 4 (a.map encTok))), (1, .d (.sl 4 (b.map encTok))), (5, .d (.int .i64 (n : Int)))], []⟩ ∧
      r = (if sameToks (a.drop n) (b.drop n) = true then (.ext 0, ⟨[], []⟩) else (.ret, ⟨[(4, .d (.bool false))], []⟩)) ∧ m = a.length - n) ?_ ?_
  · intro st r h
    unfold L_rsame_0 at h
    split at h
    · rename_i xs ys n
      obtain ⟨a, ha, h1⟩ := Tr.opt_some h
      obtain ⟨b, hb, h2⟩ := Tr.opt_some h1
      rcases Tr.br_some h2 with ⟨h3, h4⟩ | ⟨_, h4⟩
      · obtain ⟨h5, h6, h7, h8⟩ := of_decide_eq_true h3
        obtain ⟨k, rfl⟩ := Int.eq_ofNat_of_zero_le h5
        refine ⟨_, a, b, k, by omega, h7, h8, by rw [unToks_inv ha, unToks_inv hb], ?_, rfl⟩
        simp only [Int.ofNat_eq_natCast, Int.toNat_natCast] at h4
        rcases Tr.br_some h4 with ⟨h9, h10⟩ | ⟨h9, h10⟩
        · rw [if_pos h9]; exact (Tr.leaf_some h10).symm
        · rw [if_neg (by rw [h9]; decide)]; exact (Tr.leaf_some h10).symm
      · exact Tr.fail_some h4
    · exact Tr.fail_some h
  · rintro m st r ⟨a, b, n, h1, h2, h3, rfl, rfl, rfl⟩
    rw [body_rsame_0]
    unfold big at h3
    simp only [tok_at, Int.toNat_natCast, List.length_map]
    cases ha : a[n]? with
    | none =>
      have hl : a.length ≤ n := by simpa using ha
      rw [List.drop_eq_nil_of_le hl, List.drop_eq_nil_of_le (by omega)]
      exact ⟨.ext 0, _, Tr.dec_no (by omega) rfl, .inl ⟨by simp, rfl⟩⟩
    | some x =>
      have hl := at_len ha
      obtain ⟨y, hy⟩ : ∃ y, b[n]? = some y := ⟨b[n], List.getElem?_eq_getElem (by omega)⟩
      have hw : IntKind.i64.wrap ((n : Int) + 1) = ((n + 1 : Nat) : Int) := by rw [wrap_in] <;> omega
      rw [toks_at ha, toks_at hy, hy, hw]
      simp only [sameToks, sameTok]
      have h0 : (0 : Int) ≤ (n : Int) := by omega
      by_cases e1 : x.kind = y.kind
      · by_cases e2 : x.text = y.text
        · by_cases e3 : x.value = y.value
          · refine ⟨.nrm, _, Tr.dec_yes (by omega) (Tr.dec_yes h0 (Tr.opt_to rfl (Tr.dec_yes h0 (Tr.opt_to rfl ?_)))), .inr ⟨rfl, _, ?_, a, b, n + 1, by omega, h2, by unfold big; omega, rfl, ?_, rfl⟩⟩
            · simp [Tr.run_br, Tr.run_leaf, Tr.run_opt_, e1, e2, e3]
            · omega
            · simp [e1, e2, e3]
          · refine ⟨.ret, ⟨[(4, .d (.bool false))], []⟩, Tr.dec_yes (by omega) (Tr.dec_yes h0 (Tr.opt_to rfl (Tr.dec_yes h0 (Tr.opt_to rfl ?_)))), .inl ⟨by simp, by simp [e3]⟩⟩
            simp [Tr.run_br, Tr.run_leaf, Tr.run_opt_, e1, e2, e3]
        · refine ⟨.ret, ⟨[(4, .d (.bool false))], []⟩, Tr.dec_yes (by omega) (Tr.dec_yes h0 (Tr.opt_to rfl (Tr.dec_yes h0 (Tr.opt_to rfl ?_)))), .inl ⟨by simp, by simp [e2]⟩⟩
          simp [Tr.run_br, Tr.run_leaf, Tr.run_opt_, e1, e2]
      · refine ⟨.ret, ⟨[(4, .d (.bool false))], []⟩, Tr.dec_yes (by omega) (Tr.dec_yes h0 (Tr.opt_to rfl (Tr.dec_yes h0 (Tr.opt_to rfl ?_)))), .inl ⟨by simp, by simp [e1]⟩⟩
        simp [Tr.run_br, Tr.run_leaf, Tr.run_opt_, e1]

theorem sameToks_len : ∀ {a b : List Tok}, a.length ≠ b.length → sameToks a b = false
  | [], [], h => absurd rfl h
  | [], _ :: _, _ => rfl
  | _ :: _, [], _ => rfl
  | x :: a, y :: b, h => by simp only [sameToks, sameToks_len (a := a) (b := b) (by simpa using h), Bool.and_false]
theorem sameToks_eq {a b : List Tok} (h : sameToks a b = true) : a.length = b.length := by
  rcases Nat.decEq a.length b.length with h1 | h1
  · rw [sameToks_len h1] at h; cases h
  · exact h1

theorem ok_rscan : FnOK Try.prog gl 8 rscanT := by
  refine fn_of (X := Xrscan) (xok_Xrscan 8) Try.func8 c_rscan_eq (by kernel_rfl) (by simp only [Sums, c_rscan, and_true, true_and]; exact sum_rscan_1) ?_
  intro xs H o h
  unfold rscanT at h
  split at h
  · rw [tree_rscan]
    obtain rfl := Tr.leaf_some h
    rename_i s
    unfold scan
    by_cases hl : 4096 < (s.length : Int)
    · refine Tr.dec_yes hl ?_
      rw [if_pos hl]; rfl
    · refine Tr.dec_no hl (Tr.dec_yes ⟨by omega, by omega, by omega, by simp⟩ ?_)
      rw [if_neg hl]
      rw [show (0 : Int).toNat = 0 from rfl, List.drop_zero, List.nil_append]
      by_cases h0 : (scanF (s.length + 1) s 0).2.2 = 0
      · rw [if_pos h0]
        exact Tr.dec_yes h0 rfl
      · rw [if_neg h0]
        exact Tr.dec_no h0 rfl
  · exact Tr.fail_some h

theorem ok_rsame : FnOK Try.prog gl 18 rsameT := by
  refine fn_of (X := Xrsame) (xok_Xrsame 18) Try.func18 c_rsame_eq (by kernel_rfl) (by simp only [Sums, c_rsame, and_true, true_and]; exact sum_rsame_0) ?_
  intro xs H o h
  unfold rsameT at h
  split at h
  · rename_i xs ys
    obtain ⟨a, ha, h1⟩ := Tr.opt_some h
    obtain ⟨b, hb, h2⟩ := Tr.opt_some h1
    obtain rfl := unToks_inv ha
    obtain rfl := unToks_inv hb
    rcases Tr.br_some h2 with ⟨h3, h4⟩ | ⟨_, h4⟩
    rw [tree_rsame]
    · obtain rfl := Tr.leaf_some h4
      have h3 := of_decide_eq_true h3
      simp only [List.length_map]
      by_cases hl : a.length = b.length
      · rw [Tr.run_no (by simp [hl])]
        refine Tr.opt_to (unToks_of a) (Tr.opt_to (unToks_of b) (Tr.dec_yes ⟨by omega, by omega, hl, h3⟩ ?_))
        refine Tr.br_to (fun h => ?_) (fun h => ?_)
        · rw [show sameToks a b = true from h]; rfl
        · rw [show sameToks a b = false from h]; rfl
      · rw [Tr.run_yes (by simp; omega), sameToks_len hl]; rfl
    · exact Tr.fail_some h4
  · exact Tr.fail_some h

noncomputable abbrev Xrequal : TX := ⟨Try.prog, tbl [(18, rsameT)], iso, gl, vw⟩

theorem xok_Xrequal (f : Nat) : XOK Xrequal (ann f) gl := XOK.of base (l := [(18, rsameT)]) ⟨ok_rsame, trivial⟩ f

def l_requal_0 : CC := .seq (.seq (.region [
    ⟨.yes, (some 10), .move (.tmp 5), false, false, []⟩,
    ⟨.yes, (some 11), .move (.tmp 0), false, false, [(some 4)]⟩,
    ⟨.yes, (some 12), .call ⟨.builtin .len, #[(.tmp 11)], #[23]⟩, false, false, []⟩,
    ⟨.yes, (some 13), .binOp .lss 3 (.tmp 10) (.tmp 12) 3, false, false, []⟩] [0, 1, 5, 13]) <|
  .cond (.tmp 13)
    (.skip)
    (.exit 0)) <|
  .seq (.block 1 <| .seq (.drawn ⟨[], [], [0, 1, 5, 26]⟩ [
    ⟨(some 16), .move (.tmp 0), 23, "ref.go:189", #[], none⟩,
    ⟨(some 17), .move (.tmp 5), 3, "ref.go:189", #[], none⟩,
    ⟨(some 18), .indexAddr 23 (.tmp 16) (.tmp 17), 0, "ref.go:189", #[⟨0, .data⟩, ⟨1, .data⟩], none⟩,
    ⟨(some 19), .fieldAddr 31 (.tmp 18) 3, 0, "ref.go:189", #[⟨2, .data⟩], none⟩,
    ⟨(some 20), .load 3 (.tmp 19), 3, "ref.go:189", #[⟨3, .data⟩], none⟩,
    ⟨(some 21), .move (.tmp 1), 23, "ref.go:189", #[], none⟩,
    ⟨(some 22), .move (.tmp 5), 3, "ref.go:189", #[], none⟩,
    ⟨(some 23), .indexAddr 23 (.tmp 21) (.tmp 22), 0, "ref.go:189", #[⟨5, .data⟩, ⟨6, .data⟩], none⟩,
    ⟨(some 24), .fieldAddr 31 (.tmp 23) 3, 0, "ref.go:189", #[⟨7, .data⟩], none⟩,
    ⟨(some 25), .load 3 (.tmp 24), 3, "ref.go:189", #[⟨8, .data⟩], none⟩,
    ⟨(some 26), .binOp .neq 3 (.tmp 20) (.tmp 25) 3, 4, "ref.go:189", #[⟨4, .data⟩, ⟨9, .data⟩], none⟩]) <|
  .cond (.tmp 26)
    (.seq (.region [
      ⟨.yes, (some 4), .assign (.const (.bool false)), false, false, []⟩] [4]) <|
    .ret)
    (.skip)) <|
  .region [
    ⟨.yes, (some 14), .move (.tmp 5), true, false, []⟩,
    ⟨.yes, (some 15), .binOp .add 3 (.tmp 14) (.const (.int .i64 (1))) 3, false, false, []⟩,
    ⟨.yes, (some 5), .assign (.tmp 15), true, false, []⟩] [0, 1, 5]

/-- rollbacknet/rollbacknetref01.Equal -/
def c_requal : CC := .seq (.region [
    ⟨.yes, (some 4), .assign (.const (.bool false)), false, false, []⟩] [0, 1]) <|
  .seq (.seq (.region [
    ⟨.yes, (some 6), .move (.tmp 0), false, false, [(some 4)]⟩,
    ⟨.yes, (some 7), .move (.tmp 1), false, false, [(some 4)]⟩,
    ⟨.yes, (some 8), .call ⟨.value (.func 18), #[(.tmp 6), (.tmp 7)], #[23, 23]⟩, false, false, []⟩,
    ⟨.yes, (some 9), .unOp .not 4 (.tmp 8), false, false, []⟩] [0, 1, 9]) <|
  .cond (.tmp 9)
    (.seq (.region [
      ⟨.yes, (some 4), .assign (.const (.bool false)), false, false, []⟩] [4]) <|
    .ret)
    (.skip)) <|
  .seq (.seq (.region [
    ⟨.yes, (some 5), .assign (.const (.int .i64 (0))), false, false, []⟩] [0, 1, 5]) <|
  .block 0 <| .keep [0, 1, 5] <| .sum L_requal_0 (.loop l_requal_0)) <|
  .seq (.region [
    ⟨.yes, (some 4), .assign (.const (.bool true)), false, false, []⟩] [4]) <|
  .ret

theorem c_requal_eq : ∃ c, Try.f9.body = some c ∧ codeOK Try.f9.ntmps c = true ∧ comp Try.prog (ann 9) c = erase c_requal := ⟨_, rfl, by kernel_rfl, by kernel_rfl⟩

theorem body_requal_0 (a b : List Tok) (n : Int) : bodyT Xrequal [0, 1, 5] [4] [(0, [])] l_requal_0 ⟨[(0, .d (.sl 4 (a.map encTok))), (1, .d (.sl 4 (b.map encTok))), (5, .d (.int .i64 n))], []⟩ = (
    .br (decide (n < ((a.map encTok).length : Int)))
    (.br (decide ((0 : Int) ≤ n))
      (.opt (((a.map encTok)[(Int.toNat n)]?).bind unTok) fun y1 => .br (decide ((0 : Int) ≤ n))
        (.opt (((b.map encTok)[(Int.toNat n)]?).bind unTok) fun y2 => .br (!decide (y1.pos = y2.pos))
          (.leaf (.ret, ⟨[(4, (.d (.bool false)))], []⟩))
          (.leaf (.nrm, ⟨[(0, (.d (.sl 4 (a.map encTok)))), (1, (.d (.sl 4 (b.map encTok)))), (5, (.d (.int .i64 (IntKind.i64.wrap (n + 1)))))], []⟩)))
        (.fail))
      (.fail))
    (.leaf ((.ext 0), ⟨[], []⟩)) : Tr (Ex × ST)) := by kernel_rfl

theorem tree_requal (a b : List Tok) : fnT Xrequal c_requal Try.f9.results.toList [.d (.sl 4 (a.map encTok)), .d (.sl 4 (b.map encTok))] [] = (
    .opt (unToks (a.map encTok)) fun a1 => .opt (unToks (b.map encTok)) fun b2 => .br (decide ((a1.length : Int) ≤ big))
    (.br (!(sameToks a1 b2))
      (.leaf ((.d (.bool false)), []))
      (.opt (unToks (a.map encTok)) fun a3 => .opt (unToks (b.map encTok)) fun b4 => .br (decide (sPre a3 b4 (0 : Int)))
        (.br (eqPos (a3.drop (0 : Int).toNat) (b4.drop (0 : Int).toNat))
          (.leaf ((.d (.bool true)), []))
          (.leaf ((.d (.bool false)), [])))
        (.fail)))
    (.fail) : Tr (AV × Hp)) := by kernel_rfl


theorem sum_requal_0 : SumOK Try.prog gl (ann 9) L_requal_0 (.loop l_requal_0) := by
  refine SumOK.of_inv (X := Xrequal) (xok_Xrequal 9) (by simp only [Sums, l_requal_0, and_true]) (by kernel_rfl) (lv := [0, 1, 5]) (rt := [4]) (xs := [(0, [])]) (by decide)
    (fun m st r => ∃ (a b : List Tok) (n : Nat), n ≤ a.length ∧ a.length = b.length ∧ (a.length : Int) ≤ big ∧ st = ⟨[(0, .d (.sl 4 (a.map encTok))), (1, .d (.sl 4 (b.map encTok))), (5, .d (.int .i64 (n : Int)))], []⟩ ∧
      r = (if eqPos (a.drop n) (b.drop n) = true then (.ext 0, ⟨[], []⟩) else (.ret, ⟨[(4, .d (.bool false))], []⟩)) ∧ m = a.length - n) ?_ ?_
  · intro st r h
    unfold L_requal_0 at h
    split at h
    · rename_i xs ys n
      obtain ⟨a, ha, h1⟩ := Tr.opt_some h
      obtain ⟨b, hb, h2⟩ := Tr.opt_some h1
      rcases Tr.br_some h2 with ⟨h3, h4⟩ | ⟨_, h4⟩
      · obtain ⟨h5, h6, h7, h8⟩ := of_decide_eq_true h3
        obtain ⟨k, rfl⟩ := Int.eq_ofNat_of_zero_le h5
        refine ⟨_, a, b, k, by omega, h7, h8, by rw [unToks_inv ha, unToks_inv hb], ?_, rfl⟩
        simp only [Int.ofNat_eq_natCast, Int.toNat_natCast] at h4
        rcases Tr.br_some h4 with ⟨h9, h10⟩ | ⟨h9, h10⟩
        · rw [if_pos h9]; exact (Tr.leaf_some h10).symm
        · rw [if_neg (by rw [h9]; decide)]; exact (Tr.leaf_some h10).symm
      · exact Tr.fail_some h4
    · exact Tr.fail_some h
  · rintro m st r ⟨a, b, n, h1, h2, h3, rfl, rfl, rfl⟩
    rw [body_requal_0]
    unfold big at h3
    simp only [tok_at, Int.toNat_natCast, List.length_map]
    cases ha : a[n]? with
    | none =>
      have hl : a.length ≤ n := by simpa using ha
      rw [List.drop_eq_nil_of_le hl, List.drop_eq_nil_of_le (by omega)]
      exact ⟨.ext 0, _, Tr.dec_no (by omega) rfl, .inl ⟨by simp, rfl⟩⟩
    | some x =>
      have hl := at_len ha
      obtain ⟨y, hy⟩ : ∃ y, b[n]? = some y := ⟨b[n], List.getElem?_eq_getElem (by omega)⟩
      have hw : IntKind.i64.wrap ((n : Int) + 1) = ((n + 1 : Nat) : Int) := by rw [wrap_in] <;> omega
      rw [toks_at ha, toks_at hy, hy, hw]
      simp only [eqPos]
      have h0 : (0 : Int) ≤ (n : Int) := by omega
      by_cases e1 : x.pos = y.pos
      · refine ⟨.nrm, _, Tr.dec_yes (by omega) (Tr.dec_yes h0 (Tr.opt_to rfl (Tr.dec_yes h0 (Tr.opt_to rfl ?_)))), .inr ⟨rfl, _, ?_, a, b, n + 1, by omega, h2, by unfold big; omega, rfl, ?_, rfl⟩⟩
        · simp [Tr.run_br, Tr.run_leaf, Tr.run_opt_, e1]
        · omega
        · simp [e1]
      · refine ⟨.ret, ⟨[(4, .d (.bool false))], []⟩, Tr.dec_yes (by omega) (Tr.dec_yes h0 (Tr.opt_to rfl (Tr.dec_yes h0 (Tr.opt_to rfl ?_)))), .inl ⟨by simp, by simp [e1]⟩⟩
        simp [Tr.run_br, Tr.run_leaf, Tr.run_opt_, e1]
theorem ok_requal : FnOK Try.prog gl 9 requalT := by
  refine fn_of (X := Xrequal) (xok_Xrequal 9) Try.func9 c_requal_eq (by kernel_rfl) (by simp only [Sums, c_requal, and_true, true_and]; exact sum_requal_0) ?_
  intro xs H o h
  unfold requalT at h
  split at h
  · rename_i xs ys
    obtain ⟨a, ha, h1⟩ := Tr.opt_some h
    obtain ⟨b, hb, h2⟩ := Tr.opt_some h1
    obtain rfl := unToks_inv ha
    obtain rfl := unToks_inv hb
    rcases Tr.br_some h2 with ⟨h3, h4⟩ | ⟨_, h4⟩
    rw [tree_requal]
    · obtain rfl := Tr.leaf_some h4
      have h3 := of_decide_eq_true h3
      refine Tr.opt_to (unToks_of a) (Tr.opt_to (unToks_of b) (Tr.dec_yes h3 ?_))
      cases hs : sameToks a b with
      | false => simp [Tr.run_br, Tr.run_leaf]
      | true =>
        have hl := sameToks_eq hs
        rw [show (!true) = false from rfl, Tr.run_no rfl, Bool.true_and]
        refine Tr.opt_to (unToks_of a) (Tr.opt_to (unToks_of b) (Tr.dec_yes ⟨by omega, by omega, hl, h3⟩ ?_))
        refine Tr.br_to (fun h => ?_) (fun h => ?_)
        · rw [show eqPos a b = true from h]; rfl
        · rw [show eqPos a b = false from h]; rfl
    · exact Tr.fail_some h4
  · exact Tr.fail_some h

end Go.AI.TK
