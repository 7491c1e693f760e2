/- The reference's Decimal and Print, in sum. -/
import Derived.Test.YtkkmdjkahdglhaaDoorTdI
import Derived.Test.YtkkmdjkahdglhaaDoorTdRow
import Derived.Test.YtkkmdjkahdglhaaDoorAxPoke
import Derived.Deep.Slices
import Derived.ChangeSame
import Derived.ChangeArms
namespace Go.AI.TD
open Go Go.Proofs
set_option maxRecDepth 100000
set_option linter.unusedVariables false
set_option linter.unusedSimpArgs false

theorem dec_len : ∀ (k n : Nat), n < 10 ^ k → (dec n).length ≤ k
  | 0, n, h => by have : n = 0 := by simpa using h
                  subst this; rw [dec_zero]; simp
  | k + 1, n, h => by
    by_cases h0 : n = 0
    · subst h0; rw [dec_zero]; simp
    · rw [dec_pos h0, List.length_append]
      have := dec_len k (n / 10) (by rw [Nat.pow_succ] at h; omega)
      simp; omega
/-- A number in decimal, 0 for a negative one. -/
def decimal (n : Int) : List UInt8 := if n ≤ 0 then [48] else dec n.toNat

def decPre (n : Int) (s : List UInt8) : Prop := 0 ≤ n ∧ n ≤ 9223372036854775807 ∧ s.length + (dec n.toNat).length ≤ 100
instance (n : Int) (s : List UInt8) : Decidable (decPre n s) := by unfold decPre; infer_instance
def L_rdecimal_0 : ST → Tr (Ex × ST)
  | ⟨[(0, .d (.int .i64 n)), (3, .d (.str s))], []⟩ => .br (decide (decPre n s)) (.leaf ((.ext 0), ⟨[(3, .d (.str (dec n.toNat ++ s)))], []⟩)) .fail
  | _ => .fail

def rdecimalT : FT
  | [.d (.int .i64 n)], [] => .br (decide (n ≤ 9223372036854775807)) (.leaf (.d (.str (decimal n)), [])) .fail
  | _, _ => .fail

noncomputable abbrev Xdec : TX := ⟨Tryd.prog, tbl [], iso, gl, vw⟩

theorem xok_Xdec (f : Nat) : XOK Xdec (ann f) gl := XOK.of base (l := []) trivial f

def l_rdecimal_0 : CC := .seq (.seq (.region [
    ⟨.yes, (some 6), .move (.tmp 0), false, false, []⟩,
    ⟨.yes, (some 7), .binOp .gtr 3 (.tmp 6) (.const (.int .i64 (0))) 3, false, false, []⟩] [0, 3, 7]) <|
  .cond (.tmp 7)
    (.skip)
    (.exit 0)) <|
  .block 1 <| .seq (.region [
    ⟨.yes, (some 8), .move (.tmp 0), false, false, []⟩,
    ⟨.yes, (some 9), .binOp .rem 3 (.tmp 8) (.const (.int .i64 (10))) 3, false, false, []⟩,
    ⟨.yes, (some 10), .binOp .add 3 (.const (.int .i64 (48))) (.tmp 9) 3, false, false, []⟩,
    ⟨.yes, (some 11), .convert 3 5 (.tmp 10), false, false, []⟩,
    ⟨.yes, (some 12), .buildSlice 31 1 #[(0, (.tmp 11))], false, false, [(some 1)]⟩,
    ⟨.yes, (some 13), .convert 31 9 (.tmp 12), false, false, []⟩,
    ⟨.yes, (some 14), .move (.tmp 3), true, false, []⟩,
    ⟨.yes, (some 15), .binOp .add 9 (.tmp 13) (.tmp 14) 9, false, false, []⟩,
    ⟨.yes, (some 3), .assign (.tmp 15), true, false, []⟩] [0, 3]) <|
  .region [
    ⟨.yes, (some 16), .move (.tmp 0), true, false, []⟩,
    ⟨.yes, (some 17), .binOp .quo 3 (.tmp 16) (.const (.int .i64 (10))) 3, false, false, []⟩,
    ⟨.yes, (some 0), .assign (.tmp 17), true, false, []⟩] [0, 3]

/-- rollbacknet/rollbacknetref01.Decimal -/
def c_rdecimal : CC := .seq (.region [
    ⟨.yes, (some 2), .assign (.const (.string ⟨#[]⟩)), false, false, []⟩] [0]) <|
  .seq (.seq (.region [
    ⟨.yes, (some 4), .move (.tmp 0), false, false, []⟩,
    ⟨.yes, (some 5), .binOp .leq 3 (.tmp 4) (.const (.int .i64 (0))) 3, false, false, []⟩] [0, 5]) <|
  .cond (.tmp 5)
    (.seq (.region [
      ⟨.yes, (some 2), .assign (.const (.string ⟨#[48]⟩)), false, false, []⟩] [2]) <|
    .ret)
    (.skip)) <|
  .seq (.region [
    ⟨.yes, (some 3), .assign (.const (.string ⟨#[]⟩)), false, false, []⟩] [0, 3]) <|
  .seq (.block 0 <| .keep [0, 3] <| .sum L_rdecimal_0 (.loop l_rdecimal_0)) <|
  .seq (.region [
    ⟨.yes, (some 18), .move (.tmp 3), true, false, []⟩,
    ⟨.yes, (some 2), .assign (.tmp 18), true, false, []⟩] [2]) <|
  .ret

theorem c_rdecimal_eq : ∃ c, Tryd.f21.body = some c ∧ codeOK Tryd.f21.ntmps c = true ∧ comp Tryd.prog (ann 21) c = erase c_rdecimal := ⟨_, rfl, by kernel_rfl, by kernel_rfl⟩

theorem body_rdecimal_0 (n : Int) (s : List UInt8) : bodyT Xdec [0, 3] [2] [(0, [3])] l_rdecimal_0 ⟨[(0, .d (.int .i64 n)), (3, .d (.str s))], []⟩ = (
    .br (decide ((0 : Int) < n))
 (.br (decide ((10 : Int) = 0))
 (.fail)
 (.opt (bytesOf [(.int .u8 (IntKind.u8.wrap (IntKind.i64.wrap (48 + (Int.tmod n 10)))))]) fun b1 => .br (decide (b1.length + s.length ≤ 9223372036854775807))
 (.br (decide ((10 : Int) = 0))
 (.fail)
 (.leaf (.nrm, ⟨[(0, .d (.int .i64 (IntKind.i64.wrap (Int.tdiv n 10)))), (3, .d (.str (b1 ++ s)))], []⟩)))
 (.fail)))
 (.leaf ((.ext 0), ⟨[(3, .d (.str s))], []⟩)) : Tr (Ex × ST)) := by kernel_rfl

theorem tree_rdecimal (n : Int) : fnT Xdec c_rdecimal Tryd.f21.results.toList [.d (.int .i64 n)] [] = (
    .br (decide (n ≤ 0))
 (.leaf (.d (.str [48]), []))
 (.br (decide (decPre n ([] : List UInt8)))
 (.leaf (.d (.str (dec n.toNat ++ ([] : List UInt8))), []))
 (.fail)) : Tr (AV × Hp)) := by kernel_rfl


theorem dec_byte (n : Nat) : bytesOf [(.int .u8 (IntKind.u8.wrap (IntKind.i64.wrap (48 + (Int.tmod (n : Int) 10)))))] = some [UInt8.ofNat (48 + n % 10)] := by
  have e : Int.tmod (n : Int) 10 = ((n % 10 : Nat) : Int) := by rw [Int.tmod_eq_emod_of_nonneg (by omega)]; omega
  have w1 : IntKind.i64.wrap (48 + ((n % 10 : Nat) : Int)) = ((48 + n % 10 : Nat) : Int) := by rw [wrap_in] <;> omega
  have w2 : IntKind.u8.wrap ((48 + n % 10 : Nat) : Int) = ((48 + n % 10 : Nat) : Int) := wrap_u8 (by omega) (by omega)
  rw [e, w1, w2]
  rfl

theorem sum_rdecimal_0 : SumOK Tryd.prog gl (ann 21) L_rdecimal_0 (.loop l_rdecimal_0) := by
  refine SumOK.of_inv (X := Xdec) (xok_Xdec 21) (by simp only [Sums, l_rdecimal_0, and_true]) (by kernel_rfl) (lv := [0, 3]) (rt := [2]) (xs := [(0, [3])]) (by decide)
    (fun m st r => ∃ (n : Nat) (s : List UInt8), (n : Int) ≤ 9223372036854775807 ∧ s.length + (dec n).length ≤ 100 ∧ st = ⟨[(0, .d (.int .i64 (n : Int))), (3, .d (.str s))], []⟩ ∧ r = (.ext 0, ⟨[(3, .d (.str (dec n ++ s)))], []⟩) ∧ m = n) ?_ ?_
  · intro st r h
    unfold L_rdecimal_0 at h
    split at h
    · rename_i n s
      rcases Tr.br_some h with ⟨h1, h2⟩ | ⟨_, h2⟩
      · obtain ⟨h3, h4, h5⟩ := of_decide_eq_true h1
        obtain rfl := Tr.leaf_some h2
        obtain ⟨k, rfl⟩ := Int.eq_ofNat_of_zero_le h3
        exact ⟨_, k, s, h4, h5, rfl, rfl, rfl⟩
      · exact Tr.fail_some h2
    · exact Tr.fail_some h
  · rintro n st r ⟨n', s, h1, h2, rfl, rfl, rfl⟩
    rw [body_rdecimal_0]
    by_cases h0 : n = 0
    · subst h0
      rw [dec_zero]
      exact ⟨.ext 0, _, Tr.dec_no (by decide) rfl, .inl ⟨by simp, rfl⟩⟩
    · rw [dec_pos h0] at h2 ⊢
      rw [List.length_append] at h2
      have e : Int.tdiv (n : Int) 10 = ((n / 10 : Nat) : Int) := by rw [Int.tdiv_eq_ediv_of_nonneg (by omega)]; omega
      have w : IntKind.i64.wrap ((n / 10 : Nat) : Int) = ((n / 10 : Nat) : Int) := by rw [wrap_in] <;> omega
      refine ⟨.nrm, _, Tr.dec_yes (by omega) (Tr.dec_no (by decide) (Tr.opt_to (dec_byte n) (Tr.dec_yes ?_ (Tr.dec_no (by decide) rfl)))), .inr ⟨rfl, n / 10, by omega, n / 10, [UInt8.ofNat (48 + n % 10)] ++ s, by omega, ?_, ?_, by rw [List.append_assoc], rfl⟩⟩
      · simp at h2 ⊢; omega
      · simp at h2 ⊢; omega
      · rw [e, w]

theorem ok_rdecimal : FnOK Tryd.prog gl 21 rdecimalT := by
  refine fn_of (X := Xdec) (xok_Xdec 21) Tryd.func21 c_rdecimal_eq (by kernel_rfl) (by simp only [Sums, c_rdecimal, and_true, true_and]; exact sum_rdecimal_0) ?_
  intro xs H o h
  unfold rdecimalT at h
  split at h
  · rw [tree_rdecimal]
    rcases Tr.br_some h with ⟨h1, h2⟩ | ⟨_, h2⟩
    · obtain rfl := Tr.leaf_some h2
      rename_i n
      have h1 := of_decide_eq_true h1
      unfold decimal
      refine Tr.dec_to (fun hn => by rw [if_pos hn]; rfl) (fun hn => ?_)
      have := dec_len 19 n.toNat (by omega)
      rw [if_neg hn, List.append_nil]
      exact Tr.dec_yes ⟨by omega, h1, by simp; omega⟩ rfl
    · exact Tr.fail_some h2
  · exact Tr.fail_some h



theorem decimal_itoa (n : Int) : decimal n = Lib.itoa (max n 0) := by
  unfold decimal Lib.itoa
  by_cases h : n ≤ 0
  · rw [if_pos h, show max n 0 = 0 by omega, if_neg (by omega), show (0 : Int).toNat = 0 from rfl, Lib.decDigits_one (by omega)]; rfl
  · rw [if_neg h, show max n 0 = n by omega, if_neg (by omega), dec_lib _ (by omega)]
def prPre (l : List Tok) (o : List UInt8) (n : Int) : Prop := 0 ≤ n ∧ n ≤ l.length ∧ (l.length : Int) ≤ 100000 ∧ ((o ++ prR n.toNat (l.drop n.toNat)).length : Int) ≤ 70368744177664 ∧ l.all inR = true
instance (l : List Tok) (o : List UInt8) (n : Int) : Decidable (prPre l o n) := by unfold prPre; infer_instance
def L_rprint_0 : ST → Tr (Ex × ST)
  | ⟨[(0, .d (.sl 4 xs)), (3, .d (.str o)), (4, .d (.int .i64 n))], []⟩ => .opt (unToks xs) fun l => .br (decide (prPre l o n)) (.leaf ((.ext 0), ⟨[(3, .d (.str (o ++ prR n.toNat (l.drop n.toNat))))], []⟩)) .fail
  | _ => .fail

def rprintT : FT
  | [.d (.sl 4 xs)], [] => .opt (unToks xs) fun l => .br (decide ((l.length : Int) ≤ 100000 ∧ ((prS l).length : Int) ≤ 70368744177664) && l.all inR) (.leaf (.d (.str (prS l)), [])) .fail
  | _, _ => .fail

noncomputable abbrev Xrpr : TX := ⟨Tryd.prog, tbl [(21, rdecimalT)], iso, gl, vw⟩

theorem xok_Xrpr (f : Nat) : XOK Xrpr (ann f) gl := XOK.of base (l := [(21, rdecimalT)]) ⟨ok_rdecimal, trivial⟩ f

def l_rprint_0 : CC := .seq (.seq (.region [
    ⟨.yes, (some 5), .move (.tmp 4), false, false, []⟩,
    ⟨.yes, (some 6), .move (.tmp 0), false, false, [(some 4)]⟩,
    ⟨.yes, (some 7), .call ⟨.builtin .len, #[(.tmp 6)], #[22]⟩, false, false, []⟩,
    ⟨.yes, (some 8), .binOp .lss 3 (.tmp 5) (.tmp 7) 3, false, false, []⟩] [0, 3, 4, 8]) <|
  .cond (.tmp 8)
    (.skip)
    (.exit 0)) <|
  .seq (.block 1 <| .seq (.seq (.region [
    ⟨.yes, (some 11), .move (.tmp 4), false, false, []⟩,
    ⟨.yes, (some 12), .binOp .gtr 3 (.tmp 11) (.const (.int .i64 (0))) 3, false, false, []⟩] [0, 3, 4, 12]) <|
  .cond (.tmp 12)
    (.region [
      ⟨.yes, (some 13), .move (.tmp 3), true, false, []⟩,
      ⟨.yes, (some 14), .binOp .add 9 (.tmp 13) (.const (.string ⟨#[32]⟩)) 9, false, false, []⟩,
      ⟨.yes, (some 3), .assign (.tmp 14), true, false, []⟩] [0, 3, 4])
    (.skip)) <|
  .seq (.region [
    ⟨.yes, (some 15), .move (.tmp 0), false, false, [(some 4)]⟩,
    ⟨.yes, (some 16), .move (.tmp 4), false, false, []⟩,
    ⟨.yes, (some 17), .indexAddr 22 (.tmp 15) (.tmp 16), false, false, []⟩,
    ⟨.yes, (some 18), .fieldAddr 38 (.tmp 17) 0, false, false, []⟩,
    ⟨.yes, (some 19), .load 3 (.tmp 18), false, false, []⟩] [0, 3, 4, 19]) <|
  .block 2 <| .seq (.seq (.region [
    ⟨.yes, (some 21), .binOp .eql 3 (.tmp 19) (.const (.int .i64 (1))) 3, false, false, []⟩,
    ⟨.yes, (some 20), .assign (.tmp 21), true, false, []⟩] [0, 3, 4, 19, 20]) <|
  .cond (.tmp 20)
    (.skip)
    (.region [
      ⟨.yes, (some 22), .binOp .eql 3 (.tmp 19) (.const (.int .i64 (3))) 3, false, false, []⟩,
      ⟨.yes, (some 20), .assign (.tmp 22), true, false, []⟩] [0, 3, 4, 19, 20])) <|
  .cond (.tmp 20)
    (.region [
      ⟨.yes, (some 23), .move (.tmp 3), true, false, []⟩,
      ⟨.yes, (some 24), .move (.tmp 0), false, false, [(some 4)]⟩,
      ⟨.yes, (some 25), .move (.tmp 4), false, false, []⟩,
      ⟨.yes, (some 26), .indexAddr 22 (.tmp 24) (.tmp 25), false, false, []⟩,
      ⟨.yes, (some 27), .fieldAddr 38 (.tmp 26) 1, false, false, []⟩,
      ⟨.yes, (some 28), .load 9 (.tmp 27), false, false, []⟩,
      ⟨.yes, (some 29), .binOp .add 9 (.tmp 23) (.tmp 28) 9, false, false, []⟩,
      ⟨.yes, (some 3), .assign (.tmp 29), true, false, []⟩] [0, 3, 4])
    (.seq (.region [
      ⟨.yes, (some 31), .binOp .eql 3 (.tmp 19) (.const (.int .i64 (2))) 3, false, false, []⟩,
      ⟨.yes, (some 30), .assign (.tmp 31), true, false, []⟩] [0, 3, 4, 30]) <|
    .cond (.tmp 30)
      (.region [
        ⟨.yes, (some 32), .move (.tmp 3), true, false, []⟩,
        ⟨.yes, (some 33), .move (.tmp 0), false, false, [(some 4)]⟩,
        ⟨.yes, (some 34), .move (.tmp 4), false, false, []⟩,
        ⟨.yes, (some 35), .indexAddr 22 (.tmp 33) (.tmp 34), false, false, []⟩,
        ⟨.yes, (some 36), .fieldAddr 38 (.tmp 35) 2, false, false, []⟩,
        ⟨.yes, (some 37), .load 3 (.tmp 36), false, false, []⟩,
        ⟨.yes, (some 38), .call ⟨.value (.func 21), #[(.tmp 37)], #[3]⟩, false, false, []⟩,
        ⟨.yes, (some 39), .binOp .add 9 (.tmp 32) (.tmp 38) 9, false, false, []⟩,
        ⟨.yes, (some 3), .assign (.tmp 39), true, false, []⟩] [0, 3, 4])
      (.skip))) <|
  .region [
    ⟨.yes, (some 9), .move (.tmp 4), true, false, []⟩,
    ⟨.yes, (some 10), .binOp .add 3 (.tmp 9) (.const (.int .i64 (1))) 3, false, false, []⟩,
    ⟨.yes, (some 4), .assign (.tmp 10), true, false, []⟩] [0, 3, 4]

/-- rollbacknet/rollbacknetref01.Print -/
def c_rprint : CC := .seq (.region [
    ⟨.yes, (some 2), .assign (.const (.string ⟨#[]⟩)), false, false, []⟩] [0]) <|
  .seq (.region [
    ⟨.yes, (some 3), .assign (.const (.string ⟨#[]⟩)), false, false, []⟩] [0, 3]) <|
  .seq (.seq (.region [
    ⟨.yes, (some 4), .assign (.const (.int .i64 (0))), false, false, []⟩] [0, 3, 4]) <|
  .block 0 <| .keep [0, 3, 4] <| .sum L_rprint_0 (.loop l_rprint_0)) <|
  .seq (.region [
    ⟨.yes, (some 40), .move (.tmp 3), true, false, []⟩,
    ⟨.yes, (some 2), .assign (.tmp 40), true, false, []⟩] [2]) <|
  .ret

theorem c_rprint_eq : ∃ c, Tryd.f10.body = some c ∧ codeOK Tryd.f10.ntmps c = true ∧ comp Tryd.prog (ann 10) c = erase c_rprint := ⟨_, rfl, by kernel_rfl, by kernel_rfl⟩

theorem body_rprint_0 (l : List Tok) (o : List UInt8) (n : Int) : bodyT Xrpr [0, 3, 4] [2] [(0, [3])] l_rprint_0 ⟨[(0, .d (.sl 4 (l.map encTok))), (3, .d (.str o)), (4, .d (.int .i64 n))], []⟩ = (
    .br (decide (n < ((l.map encTok).length : Int)))
 (.br (decide ((0 : Int) < n))
 (.br (decide (o.length + ([32] : List UInt8).length ≤ 9223372036854775807))
 (.br (decide ((0 : Int) ≤ n))
 (.opt (((l.map encTok)[(Int.toNat n)]?).bind unTok) fun y1 => .br (decide (y1.kind = 1))
 (.br (decide ((0 : Int) ≤ n))
 (.opt (((l.map encTok)[(Int.toNat n)]?).bind unTok) fun y2 => .br (decide ((o ++ [32]).length + y2.text.length ≤ 9223372036854775807))
 (.leaf (.nrm, ⟨[(0, .d (.sl 4 (l.map encTok))), (3, .d (.str ((o ++ [32]) ++ y2.text))), (4, .d (.int .i64 (IntKind.i64.wrap (n + 1))))], []⟩))
 (.fail))
 (.fail))
 (.br (decide (y1.kind = 3))
 (.br (decide ((0 : Int) ≤ n))
 (.opt (((l.map encTok)[(Int.toNat n)]?).bind unTok) fun y3 => .br (decide ((o ++ [32]).length + y3.text.length ≤ 9223372036854775807))
 (.leaf (.nrm, ⟨[(0, .d (.sl 4 (l.map encTok))), (3, .d (.str ((o ++ [32]) ++ y3.text))), (4, .d (.int .i64 (IntKind.i64.wrap (n + 1))))], []⟩))
 (.fail))
 (.fail))
 (.br (decide (y1.kind = 2))
 (.br (decide ((0 : Int) ≤ n))
 (.opt (((l.map encTok)[(Int.toNat n)]?).bind unTok) fun y4 => .br (decide (y4.value ≤ 9223372036854775807))
 (.br (decide ((o ++ [32]).length + (decimal y4.value).length ≤ 9223372036854775807))
 (.leaf (.nrm, ⟨[(0, .d (.sl 4 (l.map encTok))), (3, .d (.str ((o ++ [32]) ++ (decimal y4.value)))), (4, .d (.int .i64 (IntKind.i64.wrap (n + 1))))], []⟩))
 (.fail))
 (.fail))
 (.fail))
 (.leaf (.nrm, ⟨[(0, .d (.sl 4 (l.map encTok))), (3, .d (.str (o ++ [32]))), (4, .d (.int .i64 (IntKind.i64.wrap (n + 1))))], []⟩)))))
 (.fail))
 (.fail))
 (.br (decide ((0 : Int) ≤ n))
 (.opt (((l.map encTok)[(Int.toNat n)]?).bind unTok) fun y5 => .br (decide (y5.kind = 1))
 (.br (decide ((0 : Int) ≤ n))
 (.opt (((l.map encTok)[(Int.toNat n)]?).bind unTok) fun y6 => .br (decide (o.length + y6.text.length ≤ 9223372036854775807))
 (.leaf (.nrm, ⟨[(0, .d (.sl 4 (l.map encTok))), (3, .d (.str (o ++ y6.text))), (4, .d (.int .i64 (IntKind.i64.wrap (n + 1))))], []⟩))
 (.fail))
 (.fail))
 (.br (decide (y5.kind = 3))
 (.br (decide ((0 : Int) ≤ n))
 (.opt (((l.map encTok)[(Int.toNat n)]?).bind unTok) fun y7 => .br (decide (o.length + y7.text.length ≤ 9223372036854775807))
 (.leaf (.nrm, ⟨[(0, .d (.sl 4 (l.map encTok))), (3, .d (.str (o ++ y7.text))), (4, .d (.int .i64 (IntKind.i64.wrap (n + 1))))], []⟩))
 (.fail))
 (.fail))
 (.br (decide (y5.kind = 2))
 (.br (decide ((0 : Int) ≤ n))
 (.opt (((l.map encTok)[(Int.toNat n)]?).bind unTok) fun y8 => .br (decide (y8.value ≤ 9223372036854775807))
 (.br (decide (o.length + (decimal y8.value).length ≤ 9223372036854775807))
 (.leaf (.nrm, ⟨[(0, .d (.sl 4 (l.map encTok))), (3, .d (.str (o ++ (decimal y8.value)))), (4, .d (.int .i64 (IntKind.i64.wrap (n + 1))))], []⟩))
 (.fail))
 (.fail))
 (.fail))
 (.leaf (.nrm, ⟨[(0, .d (.sl 4 (l.map encTok))), (3, .d (.str o)), (4, .d (.int .i64 (IntKind.i64.wrap (n + 1))))], []⟩)))))
 (.fail)))
 (.leaf ((.ext 0), ⟨[(3, .d (.str o))], []⟩)) : Tr (Ex × ST)) := by kernel_rfl

theorem tree_rprint (l : List Tok) : fnT Xrpr c_rprint Tryd.f10.results.toList [.d (.sl 4 (l.map encTok))] [] = (
    .opt (unToks (l.map encTok)) fun l1 => .br (decide (prPre l1 ([] : List UInt8) (0 : Int)))
 (.leaf (.d (.str (([] : List UInt8) ++ prR (0 : Int).toNat (l1.drop (0 : Int).toNat))), []))
 (.fail) : Tr (AV × Hp)) := by kernel_rfl


theorem prT_1 {v : Tok} (h : v.kind = 1) : prT v = v.text := by unfold prT; rw [if_pos (.inl h)]
theorem prT_3 {v : Tok} (h : v.kind = 3) : prT v = v.text := by unfold prT; rw [if_pos (.inr h)]
theorem prT_2 {v : Tok} (h : v.kind = 2) : prT v = decimal v.value := by unfold prT; rw [if_neg (by omega), if_pos h, decimal_itoa]
theorem prT_0 {v : Tok} (h1 : ¬ v.kind = 1) (h3 : ¬ v.kind = 3) (h2 : ¬ v.kind = 2) : prT v = [] := by unfold prT; rw [if_neg (by omega), if_neg h2]

theorem sum_rprint_0 : SumOK Tryd.prog gl (ann 10) L_rprint_0 (.loop l_rprint_0) := by
  refine SumOK.range (X := Xrpr) (xok_Xrpr 10) (by simp only [Sums, l_rprint_0, and_true]) (by kernel_rfl) (lv := [0, 3, 4]) (rt := [2]) (xs := [(0, [3])]) (by decide) unTok_enc
    (fun (z : List UInt8) (l : List Tok) n => ⟨[(0, .d (.sl 4 (l.map encTok))), (3, .d (.str z)), (4, .d (.int .i64 (n : Int)))], []⟩)
    (fun z l n => (l.length : Int) ≤ 100000 ∧ l.all inR = true ∧ ((z ++ prR n (l.drop n)).length : Int) ≤ 70368744177664)
    (fun z l n r => (.ext 0, ⟨[(3, .d (.str (z ++ prR n r)))], []⟩)) ?_ ?_ ?_
  · intro st r h
    unfold L_rprint_0 at h
    split at h
    · rename_i xs o n
      obtain ⟨l, hl, h1⟩ := Tr.opt_some h
      rcases Tr.br_some h1 with ⟨h2, h3⟩ | ⟨_, h3⟩
      · obtain ⟨h4, h5, h6, h7, h8⟩ := of_decide_eq_true h2
        obtain ⟨k, rfl⟩ := Int.eq_ofNat_of_zero_le h4
        simp only [Int.ofNat_eq_natCast, Int.toNat_natCast] at h3 h7
        exact ⟨o, l, k, by rw [unToks_inv hl], by omega, ⟨h6, h8, h7⟩, (Tr.leaf_some h3).symm⟩
      · exact Tr.fail_some h3
    · exact Tr.fail_some h
  · intro o l n ⟨h1, h2, h3⟩ hn hv
    rw [body_rprint_0]
    exact ⟨.ext 0, _, Tr.dec_no (by rw [List.length_map]; omega) rfl, by simp, by simp [prR]⟩
  · intro o l n v ⟨h1, h2, h3⟩ hn hv hb
    right
    rw [body_rprint_0]
    rw [toks_at hv] at h3
    simp only [prR, List.length_append] at h3
    have hin : inR v = true := List.all_eq_true.1 h2 v (List.mem_of_getElem? hv)
    have hin2 : v.value ≤ 9223372036854775807 := by
      have : -9223372036854775808 ≤ v.value ∧ v.value ≤ 9223372036854775807 := of_decide_eq_true hin
      exact this.2
    have hw : IntKind.i64.wrap ((n : Int) + 1) = ((n + 1 : Nat) : Int) := by rw [wrap_in] <;> omega
    have h0 : (0 : Int) ≤ (n : Int) := by omega
    simp only [hw, Int.toNat_natCast, List.length_map, tok_at, hv]
    refine ⟨o ++ (if 0 < n then [32] else []) ++ prT v, ?_, ⟨h1, h2, ?_⟩, ?_⟩
    · refine Tr.dec_yes (by omega) ?_
      by_cases hp : 0 < n
      · rw [if_pos hp] at h3 ⊢
        simp only [List.length_cons, List.length_nil] at h3
        refine Tr.dec_yes (by omega) (Tr.dec_yes (by simp; omega) (Tr.dec_yes h0 (Tr.opt_to rfl ?_)))
        by_cases k1 : v.kind = 1
        · rw [prT_1 k1] at h3 ⊢
          exact Tr.dec_yes k1 (Tr.dec_yes h0 (Tr.opt_to rfl (Tr.dec_yes (by simp; omega) rfl)))
        refine Tr.dec_no k1 ?_
        by_cases k3 : v.kind = 3
        · rw [prT_3 k3] at h3 ⊢
          exact Tr.dec_yes k3 (Tr.dec_yes h0 (Tr.opt_to rfl (Tr.dec_yes (by simp; omega) rfl)))
        refine Tr.dec_no k3 ?_
        by_cases k2 : v.kind = 2
        · rw [prT_2 k2] at h3 ⊢
          exact Tr.dec_yes k2 (Tr.dec_yes h0 (Tr.opt_to rfl (Tr.dec_yes hin2 (Tr.dec_yes (by simp; omega) rfl))))
        rw [prT_0 k1 k3 k2, List.append_nil]
        exact Tr.dec_no k2 rfl
      · rw [if_neg hp] at h3 ⊢
        rw [List.append_nil]
        simp only [List.length_nil] at h3
        refine Tr.dec_no (by omega) (Tr.dec_yes h0 (Tr.opt_to rfl ?_))
        by_cases k1 : v.kind = 1
        · rw [prT_1 k1] at h3 ⊢
          exact Tr.dec_yes k1 (Tr.dec_yes h0 (Tr.opt_to rfl (Tr.dec_yes (by omega) rfl)))
        refine Tr.dec_no k1 ?_
        by_cases k3 : v.kind = 3
        · rw [prT_3 k3] at h3 ⊢
          exact Tr.dec_yes k3 (Tr.dec_yes h0 (Tr.opt_to rfl (Tr.dec_yes (by omega) rfl)))
        refine Tr.dec_no k3 ?_
        by_cases k2 : v.kind = 2
        · rw [prT_2 k2] at h3 ⊢
          exact Tr.dec_yes k2 (Tr.dec_yes h0 (Tr.opt_to rfl (Tr.dec_yes hin2 (Tr.dec_yes (by omega) rfl))))
        rw [prT_0 k1 k3 k2, List.append_nil]
        exact Tr.dec_no k2 rfl
    · simp only [List.length_append]
      omega
    · simp only [prR, List.append_assoc]

theorem ok_rprint : FnOK Tryd.prog gl 10 rprintT := by
  refine fn_of (X := Xrpr) (xok_Xrpr 10) Tryd.func10 c_rprint_eq (by kernel_rfl) (by simp only [Sums, c_rprint, and_true, true_and]; exact sum_rprint_0) ?_
  intro xs H o h
  unfold rprintT at h
  split at h
  · obtain ⟨l, hl, hh⟩ := Tr.opt_some h
    obtain rfl := unToks_inv hl
    rw [tree_rprint]
    rcases Tr.br_some hh with ⟨h1, h2⟩ | ⟨_, h2⟩
    · obtain rfl := Tr.leaf_some h2
      simp only [Bool.and_eq_true, decide_eq_true_eq] at h1
      obtain ⟨⟨h3, h4⟩, h5⟩ := h1
      refine Tr.opt_to hl (Tr.dec_yes ⟨by omega, by omega, h3, by simpa [prS] using h4, h5⟩ ?_)
      rfl
    · exact Tr.fail_some h2
  · exact Tr.fail_some h

def lprintsT : FT
  | [.d (.sl 4 xs)], [] => .opt (unToks xs) fun l => .br (decide (100 < (l.length : Int)) || (decide ((l.length : Int) ≤ 100000 ∧ ((prS l).length : Int) ≤ 70368744177664) && l.all inR)) (.leaf (.d (.bool true), [])) .fail
  | _, _ => .fail

noncomputable abbrev Xlp : TX := ⟨Tryd.prog, tbl [(8, awakeT), (9, printT), (10, rprintT)], iso, gl, vw⟩

theorem xok_Xlp (f : Nat) : XOK Xlp (ann f) gl := XOK.of base (l := [(8, awakeT), (9, printT), (10, rprintT)]) ⟨ok_awake, ok_print, ok_rprint, trivial⟩ f

/-- rollbacknet/rollbacknetlaw01.TokenPrints -/
def c_lprints : CC := .seq (.region [
    ⟨.yes, (some 2), .assign (.const (.bool false)), false, false, []⟩] [0]) <|
  .seq (.seq (.region [
    ⟨.yes, (some 3), .call ⟨.value (.func 8), #[], #[]⟩, false, false, []⟩,
    ⟨.yes, (some 4), .unOp .not 4 (.tmp 3), false, false, []⟩] [0, 4]) <|
  .cond (.tmp 4)
    (.seq (.region [
      ⟨.yes, (some 2), .assign (.const (.bool false)), false, false, []⟩] [2]) <|
    .ret)
    (.skip)) <|
  .seq (.seq (.region [
    ⟨.yes, (some 5), .move (.tmp 0), false, false, [(some 4)]⟩,
    ⟨.yes, (some 6), .call ⟨.builtin .len, #[(.tmp 5)], #[22]⟩, false, false, []⟩,
    ⟨.yes, (some 7), .binOp .gtr 3 (.tmp 6) (.const (.int .i64 (100))) 3, false, false, []⟩] [0, 7]) <|
  .cond (.tmp 7)
    (.seq (.region [
      ⟨.yes, (some 2), .assign (.const (.bool true)), false, false, []⟩] [2]) <|
    .ret)
    (.skip)) <|
  .seq (.region [
    ⟨.yes, (some 8), .move (.tmp 0), false, false, [(some 4)]⟩,
    ⟨.yes, (some 9), .call ⟨.value (.func 9), #[(.tmp 8)], #[22]⟩, false, false, []⟩,
    ⟨.yes, (some 10), .move (.tmp 0), true, false, [(some 4)]⟩,
    ⟨.yes, (some 11), .call ⟨.value (.func 10), #[(.tmp 10)], #[22]⟩, false, false, []⟩,
    ⟨.yes, (some 12), .binOp .eql 9 (.tmp 9) (.tmp 11) 9, false, false, []⟩,
    ⟨.yes, (some 2), .assign (.tmp 12), true, false, []⟩] [2]) <|
  .ret

theorem c_lprints_eq : ∃ c, Tryd.f3.body = some c ∧ codeOK Tryd.f3.ntmps c = true ∧ comp Tryd.prog (ann 3) c = erase c_lprints := ⟨_, rfl, by kernel_rfl, by kernel_rfl⟩

theorem tree_lprints (l : List Tok) : fnT Xlp c_lprints Tryd.f3.results.toList [.d (.sl 4 (l.map encTok))] [] = (
    .br false
 (.leaf (.d (.bool false), []))
 (.br (decide ((100 : Int) < ((l.map encTok).length : Int)))
 (.leaf (.d (.bool true), []))
 (.opt (unL unTok (l.map encTok)) fun l1 => .br (decide ((l1.length : Int) ≤ 100000 ∧ ((prS l1).length : Int) ≤ 70368744177664) && l1.all inR)
 (.opt (unToks (l.map encTok)) fun l2 => .br (decide ((l2.length : Int) ≤ 100000 ∧ ((prS l2).length : Int) ≤ 70368744177664) && l2.all inR)
 (.leaf (.d (.bool (decide ((prS l1) = (prS l2)))), []))
 (.fail))
 (.fail))) : Tr (AV × Hp)) := by kernel_rfl

theorem ok_lprints : FnOK Tryd.prog gl 3 lprintsT := by
  refine fn_of (X := Xlp) (xok_Xlp 3) Tryd.func3 c_lprints_eq (by kernel_rfl) (by simp only [Sums, c_lprints, and_true]) ?_
  intro xs H o h
  unfold lprintsT at h
  split at h
  · obtain ⟨l, hl, hh⟩ := Tr.opt_some h
    obtain rfl := unToks_inv hl
    rw [tree_lprints]
    rcases Tr.br_some hh with ⟨h1, h2⟩ | ⟨_, h2⟩
    · obtain rfl := Tr.leaf_some h2
      refine (Tr.run_no rfl).trans ?_
      by_cases hz : (100 : Int) < ((l.map encTok).length : Int)
      · exact Tr.dec_yes hz rfl
      refine Tr.dec_no hz ?_
      rw [List.length_map] at hz
      have h3 : (decide ((l.length : Int) ≤ 100000 ∧ ((prS l).length : Int) ≤ 70368744177664) && l.all inR) = true := by
        rcases Bool.or_eq_true _ _ ▸ h1 with h | h
        · exact absurd (of_decide_eq_true h) hz
        · exact h
      refine Tr.opt_to hl ?_
      rw [Tr.run_yes h3]
      refine Tr.opt_to hl ?_
      rw [Tr.run_yes h3]
      simp [Tr.run_leaf]
    · exact Tr.fail_some h2
  · exact Tr.fail_some h

end Go.AI.TD

/- TokenPrints: its argument, read, and how long its text is. -/
namespace Go.AI
open Go Go.Deep
set_option linter.unusedVariables false
set_option linter.unusedSimpArgs false
section
variable {H : Type} {enc : TypeId × Value → H} {P : Program} {w : World} {base : Nat} {spare : Nat → Bool} {held : Bool}

/-- A slice argument whose elements read as they should, and what it reads as. -/
theorem open_rowD {α : Type} [Inhabited α] {t e : TypeId} {sz : Nat} {en : α → DV} (hsz : ∀ y, (en y).cells.length = sz) (ht : P.underlying t = some (.slice e)) (hc : P.cellsOf e = sz) {v : Value} {d : DataW H} {ps : List MemPlace} {rch : Go.Reach} {b0 : Nat} {Q : α → DataW H → Prop}
    (hok : Value.okWide P w rch b0 t v)
    (he : ∀ (n : Nat) (cs : List Value) (x : DataW H × List MemPlace), DataW.trod enc P w base spare held n e cs = some x → ∃ y : α, All2 (CR (full w)) (en y).cells cs ∧ Q y x.1)
    (h : DataW.Trod enc P w base spare held t v d ps) : ∃ l : List α, CR (full w) (.sl sz (l.map en)) v ∧ ((l = [] ∧ d = .nil) ∨ ∃ D sp, d = .slice ((List.range l.length).map D) sp ∧ ∀ i y, l[i]? = some y → Q y (D i)) := by
  have hv : Cell.ok P w rch b0 t v := by
    have := hok
    unfold Value.okWide at this
    rw [ht] at this
    simp only at this
    unfold Cell.okWide at this
    rw [ht] at this
    exact this
  obtain ⟨fuel, h⟩ := h
  rcases open_slice ht h with ⟨h0, hd0⟩ | ⟨a, len, cap, m, n, D, Pl, h0, hb, hl, hm, hmm, hd0, hx⟩
  · refine ⟨[], ?_, .inl ⟨rfl, by cases hd0; rfl⟩⟩
    cases v <;> first | (simp [Value.cells] at h0; done) | skip
    case agg cs => unfold Cell.ok at hv; rw [ht] at hv; exact hv.elim
    case slice o len cap =>
      simp [Value.cells] at h0
      obtain ⟨rfl, rfl, rfl⟩ := h0
      exact .nil sz
  · cases v <;> first | (simp [Value.cells] at h0; done) | skip
    case agg cs => unfold Cell.ok at hv; rw [ht] at hv; exact hv.elim
    case slice o len' cap' =>
      simp [Value.cells] at h0
      obtain ⟨rfl, rfl, rfl⟩ := h0
      unfold Cell.ok at hv
      rw [ht] at hv
      have hsp : a.spot = none := hv.2.2.2.1
      have hlm : len' ≤ m := by rw [hmm]; split <;> omega
      have hy : ∀ i, i < len' → ∃ y : α, (∀ (j : Nat) (c : DV), (en y).cells[j]? = some c → ∃ u, full w a.block (a.off + i * sz + j) = some u ∧ CR (full w) c u) ∧ Q y (D i) := by
        intro i hi
        obtain ⟨cs', h1, h2⟩ := hx i (by omega)
        obtain ⟨y, hy, hq⟩ := he _ _ _ h2
        refine ⟨y, fun j c hj => ?_, hq⟩
        obtain ⟨u, hu, hcu⟩ := hy.get j hj
        refine ⟨u, ?_, hcu⟩
        obtain ⟨_, hlen, hcell⟩ := World.cells?_some h1
        rw [hc] at hlen hcell
        have hj2 : j < sz := by
          have := (List.getElem?_eq_some_iff.1 hu).1
          omega
        have h3 := hcell j hj2
        rw [hu, add_add, add_eq hsp] at h3
        have := full_cell h3
        simpa [Nat.add_assoc] using this
      obtain ⟨f, hf⟩ := choose_lt hy
      have hlen : ((List.range len').map f |>.map en).length = len' := by simp
      have key := CR.of_SlR (Φ := full w) (sz := sz) (xs := ((List.range len').map f).map en) (a := a) (cap := cap') ⟨hsp, fun i x hx => by
        have hi : i < len' := by have := (List.getElem?_eq_some_iff.1 hx).1; simpa using this
        simp [hi] at hx
        subst hx
        exact ⟨hsz _, (hf i hi).1⟩⟩ (by rw [hlen]; exact hl)
      rw [hlen] at key
      refine ⟨_, key, .inr ⟨D, (List.range (m - len')).map fun j => D (len' + j), by cases hd0; simp, fun i y hi => ?_⟩⟩
      have hi2 : i < len' := by have := (List.getElem?_eq_some_iff.1 hi).1; simpa using this
      simp [hi2] at hi
      subst hi
      exact (hf i hi2).2
end
end Go.AI
namespace Go.AI.TD
open Go Go.Proofs Go.Proofs.YtkkmdjkahdglhaaDoor
set_option maxRecDepth 100000
set_option linter.unusedVariables false
set_option linter.unusedSimpArgs false

instance : Inhabited Tok := ⟨⟨0, [], 0, 0⟩⟩
/-- A token among the arguments, and how much it holds. -/
def TokQ {H : Type} (y : Tok) (d : DataW H) : Prop := inR y = true ∧ y.text.length ≤ Rows.uptoBulk d
theorem elemTok {H : Type} {enc : TypeId × Value → H} {w : World} {base : Nat} {spare : Nat → Bool} {held : Bool} (n : Nat) (cs : List Value) (x : DataW H × List MemPlace) (h : DataW.trod enc Tryd.prog w base spare held n 38 cs = some x) :
    ∃ y : Tok, AI.All2 (AI.CR (AI.full w)) (encTok y).cells cs ∧ TokQ y x.1 := by
  obtain ⟨xs, m, _, hx, hlen, hxl, hf⟩ := DataW.trod_struct Tryd.underlying38 h
  have h38 : Tryd.prog.cellsOf 38 = 4 := by kernel_rfl
  have h9 : Tryd.prog.cellsOf 9 = 1 := by kernel_rfl
  have h3 : Tryd.prog.cellsOf 3 = 1 := by kernel_rfl
  rw [h38] at hlen
  match cs, hlen, xs, hxl with
  | [c0, c1, c2, c3], _, [x0, x1, x2, x3], _ =>
    have f0 := hf 0 _ rfl
    have f1 := hf 1 _ rfl
    have f2 := hf 2 _ rfl
    have f3 := hf 3 _ rfl
    simp only [h9, h3, List.drop, List.take, List.getElem?_cons_zero, List.getElem?_cons_succ] at f0 f1 f2 f3
    obtain ⟨k0, e0, _⟩ := DataW.trod_int Tryd.underlying3 f0
    obtain ⟨s, e1, b1, _⟩ := DataW.trod_string Tryd.underlying9 f1
    obtain ⟨k2, e2, _, w2⟩ := DataW.trod_int Tryd.underlying3 f2
    obtain ⟨k3, e3, _⟩ := DataW.trod_int Tryd.underlying3 f3
    cases e0; cases e1; cases e2; cases e3
    refine ⟨⟨k0, s.data.toList, k2, k3⟩, .cons (.int _ _) (.cons (.str _ _ rfl) (.cons (.int _ _) (.cons (.int _ _) .nil))), ?_, ?_⟩
    · simp [Lit.wf, IntKind.min, IntKind.max, IntKind.bits, IntKind.signed] at w2
      simp [inR]; omega
    · subst hx
      subst b1
      simp only [List.map_cons, List.map_nil, Rows.uptoBulk, Rows.uptoBulkAll]
      omega

def tw : List Tok → Nat
  | [] => 0
  | t :: r => t.text.length + tw r
theorem tw_le {H : Type} : ∀ (l : List Tok) (D : Nat → DataW H), (∀ i y, l[i]? = some y → TokQ y (D i)) → tw l ≤ Rows.uptoBulkAll ((List.range l.length).map D)
  | [], _, _ => Nat.zero_le _
  | t :: r, D, h => by
    have h1 := tw_le r (fun i => D (i + 1)) fun i y hi => h (i + 1) y (by simpa using hi)
    have h2 := (h 0 t rfl).2
    rw [List.length_cons, List.range_succ_eq_map, List.map_cons, List.map_map]
    simp only [tw, Rows.uptoBulkAll]
    have e : (D ∘ Nat.succ) = fun i => D (i + 1) := rfl
    rw [e]
    omega
theorem all_in {H : Type} {l : List Tok} {D : Nat → DataW H} (h : ∀ i y, l[i]? = some y → TokQ y (D i)) : l.all inR = true := by
  rw [List.all_eq_true]
  intro t ht
  obtain ⟨i, hi⟩ := List.getElem?_of_mem ht
  exact (h i t hi).1
theorem prT_le {t : Tok} (h : inR t = true) : (prT t).length ≤ t.text.length + 19 := by
  have hv : t.value ≤ 9223372036854775807 := by
    have : -9223372036854775808 ≤ t.value ∧ t.value ≤ 9223372036854775807 := of_decide_eq_true h
    exact this.2
  unfold prT
  split
  · omega
  · split
    · rw [← decimal_itoa]
      unfold decimal
      split
      · simp
      · have := dec_len 19 t.value.toNat (by omega)
        omega
    · simp
theorem prR_le : ∀ (l : List Tok) (n : Nat), l.all inR = true → (prR n l).length ≤ tw l + 20 * l.length
  | [], _, _ => by simp [prR]
  | t :: r, n, h => by
    simp only [List.all_cons, Bool.and_eq_true] at h
    have h1 := prT_le h.1
    have h2 := prR_le r (n + 1) h.2
    simp only [prR, tw, List.length_append, List.length_cons]
    split <;> simp <;> omega
/-- What the law's sum asks. -/
theorem prints_pre {H : Type} {l : List Tok} {d : DataW H} (h : (l = [] ∧ d = .nil) ∨ ∃ D sp, d = .slice ((List.range l.length).map D) sp ∧ ∀ i y, l[i]? = some y → TokQ y (D i)) (hb : Rows.uptoBulk d ≤ 1048576) :
    (lprintsT [.d (.sl 4 (l.map encTok))] []).run = some (.d (.bool true), []) := by
  refine Tr.opt_to (unToks_of _) ?_
  refine (Tr.run_yes ?_).trans rfl
  by_cases hl : (100 : Int) < (l.length : Int)
  · rw [decide_eq_true hl]; rfl
  · rw [decide_eq_false hl, Bool.false_or]
    rcases h with ⟨rfl, _⟩ | ⟨D, sp, rfl, hq⟩
    · simp [prS, prR]
    · have h1 := tw_le l D hq
      have h2 := all_in hq
      have h3 := prR_le l 0 h2
      have h4 : Rows.uptoBulkAll ((List.range l.length).map D) ≤ 1048576 := by
        simp only [Rows.uptoBulk] at hb
        omega
      have h5 : (prS l).length ≤ 1048576 + 2000 := by show (prR 0 l).length ≤ _; omega
      rw [h2, Bool.and_true, decide_eq_true_eq]
      omega
end Go.AI.TD
