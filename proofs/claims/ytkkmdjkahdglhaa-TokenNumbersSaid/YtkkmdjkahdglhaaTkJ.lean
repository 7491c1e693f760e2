/- The reference's Decimal, in sum; TokenNumbers, in sum. -/
import Derived.Test.YtkkmdjkahdglhaaTkI
namespace Go.AI.TK
open Go Go.Proofs
set_option maxRecDepth 100000
set_option linter.unusedVariables false
set_option linter.unusedSimpArgs false

/-- The digits of a number, none for 0. -/
def dec (n : Nat) : List UInt8 := if h : n = 0 then [] else dec (n / 10) ++ [UInt8.ofNat (48 + n % 10)]
termination_by n
decreasing_by omega

theorem dec_zero : dec 0 = [] := by rw [dec]; rfl
theorem dec_pos {n : Nat} (h : n ≠ 0) : dec n = dec (n / 10) ++ [UInt8.ofNat (48 + n % 10)] := by rw [dec, dif_neg h]
theorem dec_len : ∀ (k n : Nat), n < 10 ^ k → (dec n).length ≤ k
  | 0, n, h => by have : n = 0 := by simpa using h
                  subst this; rw [dec_zero]; simp
  | k + 1, n, h => by
    by_cases h0 : n = 0
    · subst h0; rw [dec_zero]; simp
    · rw [dec_pos h0, List.length_append]
      have := dec_len k (n / 10) (by rw [Nat.pow_succ] at h; omega)
      simp; omega
/-- A number in decimal, 0 for a negative one. -/
def decimal (n : Int) : List UInt8 := if n ≤ 0 then [48] else dec n.toNat

def decPre (n : Int) (s : List UInt8) : Prop := 0 ≤ n ∧ n ≤ 9223372036854775807 ∧ s.length + (dec n.toNat).length ≤ 100
instance (n : Int) (s : List UInt8) : Decidable (decPre n s) := by unfold decPre; infer_instance
def L_rdecimal_0 : ST → Tr (Ex × ST)
  | ⟨[(0, .d (.int .i64 n)), (3, .d (.str s))], []⟩ => .br (decide (decPre n s)) (.leaf ((.ext 0), ⟨[(3, .d (.str (dec n.toNat ++ s)))], []⟩)) .fail
  | _ => .fail

def rdecimalT : FT
  | [.d (.int .i64 n)], [] => .br (decide (n ≤ 9223372036854775807)) (.leaf (.d (.str (decimal n)), [])) .fail
  | _, _ => .fail

noncomputable abbrev Xdec : TX := ⟨Try.prog, tbl [], iso, gl, vw⟩

theorem xok_Xdec (f : Nat) : XOK Xdec (ann f) gl := XOK.of base (l := []) trivial f

def l_rdecimal_0 : CC := .seq (.seq (.region [
    ⟨.yes, (some 6), .move (.tmp 0), false, false, []⟩,
    ⟨.yes, (some 7), .binOp .gtr 3 (.tmp 6) (.const (.int .i64 (0))) 3, false, false, []⟩] [0, 3, 7]) <|
  .cond (.tmp 7)
    (.skip)
    (.exit 0)) <|
  .block 1 <| .seq (.region [
    ⟨.yes, (some 8), .move (.tmp 0), false, false, []⟩,
    ⟨.yes, (some 9), .binOp .rem 3 (.tmp 8) (.const (.int .i64 (10))) 3, false, false, []⟩,
    ⟨.yes, (some 10), .binOp .add 3 (.const (.int .i64 (48))) (.tmp 9) 3, false, false, []⟩,
    ⟨.yes, (some 11), .convert 3 5 (.tmp 10), false, false, []⟩,
    ⟨.yes, (some 12), .buildSlice 38 1 #[(0, (.tmp 11))], false, false, [(some 1)]⟩,
    ⟨.yes, (some 13), .convert 38 9 (.tmp 12), false, false, []⟩,
    ⟨.yes, (some 14), .move (.tmp 3), true, false, []⟩,
    ⟨.yes, (some 15), .binOp .add 9 (.tmp 13) (.tmp 14) 9, false, false, []⟩,
    ⟨.yes, (some 3), .assign (.tmp 15), true, false, []⟩] [0, 3]) <|
  .region [
    ⟨.yes, (some 16), .move (.tmp 0), true, false, []⟩,
    ⟨.yes, (some 17), .binOp .quo 3 (.tmp 16) (.const (.int .i64 (10))) 3, false, false, []⟩,
    ⟨.yes, (some 0), .assign (.tmp 17), true, false, []⟩] [0, 3]

/-- rollbacknet/rollbacknetref01.Decimal -/
def c_rdecimal : CC := .seq (.region [
    ⟨.yes, (some 2), .assign (.const (.string ⟨#[]⟩)), false, false, []⟩] [0]) <|
  .seq (.seq (.region [
    ⟨.yes, (some 4), .move (.tmp 0), false, false, []⟩,
    ⟨.yes, (some 5), .binOp .leq 3 (.tmp 4) (.const (.int .i64 (0))) 3, false, false, []⟩] [0, 5]) <|
  .cond (.tmp 5)
    (.seq (.region [
      ⟨.yes, (some 2), .assign (.const (.string ⟨#[48]⟩)), false, false, []⟩] [2]) <|
    .ret)
    (.skip)) <|
  .seq (.region [
    ⟨.yes, (some 3), .assign (.const (.string ⟨#[]⟩)), false, false, []⟩] [0, 3]) <|
  .seq (.block 0 <| .keep [0, 3] <| .sum L_rdecimal_0 (.loop l_rdecimal_0)) <|
  .seq (.region [
    ⟨.yes, (some 18), .move (.tmp 3), true, false, []⟩,
    ⟨.yes, (some 2), .assign (.tmp 18), true, false, []⟩] [2]) <|
  .ret

theorem c_rdecimal_eq : ∃ c, Try.f10.body = some c ∧ codeOK Try.f10.ntmps c = true ∧ comp Try.prog (ann 10) c = erase c_rdecimal := ⟨_, rfl, by kernel_rfl, by kernel_rfl⟩

theorem body_rdecimal_0 (n : Int) (s : List UInt8) : bodyT Xdec [0, 3] [2] [(0, [3])] l_rdecimal_0 ⟨[(0, .d (.int .i64 n)), (3, .d (.str s))], []⟩ = (
    .br (decide ((0 : Int) < n))
    (.br (decide ((10 : Int) = 0))
      (.fail)
      (.opt (bytesOf [(.int .u8 (IntKind.u8.wrap (IntKind.i64.wrap (48 + (Int.tmod n 10)))))]) fun b1 => .br (decide (b1.length + s.length ≤ 9223372036854775807))
        (.br (decide ((10 : Int) = 0))
          (.fail)
          (.leaf (.nrm, ⟨[(0, (.d (.int .i64 (IntKind.i64.wrap (Int.tdiv n 10))))), (3, (.d (.str (b1 ++ s))))], []⟩)))
        (.fail)))
    (.leaf ((.ext 0), ⟨[(3, (.d (.str s)))], []⟩)) : Tr (Ex × ST)) := by kernel_rfl

theorem tree_rdecimal (n : Int) : fnT Xdec c_rdecimal Try.f10.results.toList [.d (.int .i64 n)] [] = (
    .br (decide (n ≤ 0))
    (.leaf ((.d (.str [48])), []))
    (.br (decide (decPre n ([] : List UInt8)))
      (.leaf ((.d (.str (dec n.toNat ++ ([] : List UInt8)))), []))
      (.fail)) : Tr (AV × Hp)) := by kernel_rfl


theorem dec_byte (n : Nat) : bytesOf [(.int .u8 (IntKind.u8.wrap (IntKind.i64.wrap (48 + (Int.tmod (n : Int) 10)))))] = some [UInt8.ofNat (48 + n % 10)] := by
  have e : Int.tmod (n : Int) 10 = ((n % 10 : Nat) : Int) := by rw [Int.tmod_eq_emod_of_nonneg (by omega)]; omega
  have w1 : IntKind.i64.wrap (48 + ((n % 10 : Nat) : Int)) = ((48 + n % 10 : Nat) : Int) := by rw [wrap_in] <;> omega
  have w2 : IntKind.u8.wrap ((48 + n % 10 : Nat) : Int) = ((48 + n % 10 : Nat) : Int) := wrap_u8 (by omega) (by omega)
  rw [e, w1, w2]
  rfl

theorem sum_rdecimal_0 : SumOK Try.prog gl (ann 10) L_rdecimal_0 (.loop l_rdecimal_0) := by
  refine SumOK.of_inv (X := Xdec) (xok_Xdec 10) (by simp only [Sums, l_rdecimal_0, and_true]) (by kernel_rfl) (lv := [0, 3]) (rt := [2]) (xs := [(0, [3])]) (by decide)
    (fun m st r => ∃ (n : Nat) (s : List UInt8), (n : Int) ≤ 9223372036854775807 ∧ s.length + (dec n).length ≤ 100 ∧ st = ⟨[(0, .d (.int .i64 (n : Int))), (3, .d (.str s))], []⟩ ∧ r = (.ext 0, ⟨[(3, .d (.str (dec n ++ s)))], []⟩) ∧ m = n) ?_ ?_
  · intro st r h
    unfold L_rdecimal_0 at h
    split at h
    · rename_i n s
      rcases Tr.br_some h with ⟨h1, h2⟩ | ⟨_, h2⟩
      · obtain ⟨h3, h4, h5⟩ := of_decide_eq_true h1
        obtain rfl := Tr.leaf_some h2
        obtain ⟨k, rfl⟩ := Int.eq_ofNat_of_zero_le h3
        exact ⟨_, k, s, h4, h5, rfl, rfl, rfl⟩
      · exact Tr.fail_some h2
    · exact Tr.fail_some h
  · rintro n st r ⟨n', s, h1, h2, rfl, rfl, rfl⟩
    rw [body_rdecimal_0]
    by_cases h0 : n = 0
    · subst h0
      rw [dec_zero]
      exact ⟨.ext 0, _, Tr.dec_no (by decide) rfl, .inl ⟨by simp, rfl⟩⟩
    · rw [dec_pos h0] at h2 ⊢
      rw [List.length_append] at h2
      have e : Int.tdiv (n : Int) 10 = ((n / 10 : Nat) : Int) := by rw [Int.tdiv_eq_ediv_of_nonneg (by omega)]; omega
      have w : IntKind.i64.wrap ((n / 10 : Nat) : Int) = ((n / 10 : Nat) : Int) := by rw [wrap_in] <;> omega
      refine ⟨.nrm, _, Tr.dec_yes (by omega) (Tr.dec_no (by decide) (Tr.opt_to (dec_byte n) (Tr.dec_yes ?_ (Tr.dec_no (by decide) rfl)))), .inr ⟨rfl, n / 10, by omega, n / 10, [UInt8.ofNat (48 + n % 10)] ++ s, by omega, ?_, ?_, by rw [List.append_assoc], rfl⟩⟩
      · simp at h2 ⊢; omega
      · simp at h2 ⊢; omega
      · rw [e, w]

theorem ok_rdecimal : FnOK Try.prog gl 10 rdecimalT := by
  refine fn_of (X := Xdec) (xok_Xdec 10) Try.func10 c_rdecimal_eq (by kernel_rfl) (by simp only [Sums, c_rdecimal, and_true, true_and]; exact sum_rdecimal_0) ?_
  intro xs H o h
  unfold rdecimalT at h
  split at h
  · rw [tree_rdecimal]
    rcases Tr.br_some h with ⟨h1, h2⟩ | ⟨_, h2⟩
    · obtain rfl := Tr.leaf_some h2
      rename_i n
      have h1 := of_decide_eq_true h1
      unfold decimal
      refine Tr.dec_to (fun hn => by rw [if_pos hn]; rfl) (fun hn => ?_)
      have := dec_len 19 n.toNat (by omega)
      rw [if_neg hn, List.append_nil]
      exact Tr.dec_yes ⟨by omega, h1, by simp; omega⟩ rfl
    · exact Tr.fail_some h2
  · exact Tr.fail_some h


theorem accum_snoc : ∀ (l : List UInt8) (v u : Int) (b : UInt8), accum v l = some u → accum v (l ++ [b]) = if (9223372036854775807 - ((b.toNat : Int) - 48)) / 10 < u then none else some (u * 10 + ((b.toNat : Int) - 48))
  | [], v, u, b, h => by
    simp only [accum, Option.some.injEq] at h
    subst h
    simp only [List.nil_append, accum]
  | c :: l, v, u, b, h => by
    simp only [List.cons_append, accum] at h ⊢
    split
    · rename_i hc; rw [if_pos hc] at h; cases h
    · rename_i hc; rw [if_neg hc] at h; exact accum_snoc l _ u b h

theorem digit_nat (n : Nat) : ((UInt8.ofNat (48 + n % 10)).toNat : Int) = 48 + ((n % 10 : Nat) : Int) := by
  rw [UInt8.toNat_ofNat']; omega

theorem accum_dec (n : Nat) : (n : Int) ≤ 9223372036854775807 → accum 0 (dec n) = some (n : Int) := by
  induction n using Nat.strongRecOn with
  | _ n ih =>
    intro h
    by_cases h0 : n = 0
    · subst h0; rw [dec_zero]; rfl
    · rw [dec_pos h0, accum_snoc _ 0 _ _ (ih (n / 10) (by omega) (by omega)), digit_nat, if_neg (by omega)]
      congr 1; omega

theorem dec_dig (n : Nat) : (dec n).all isDig = true := by
  induction n using Nat.strongRecOn with
  | _ n ih =>
    by_cases h0 : n = 0
    · subst h0; rw [dec_zero]; rfl
    · rw [dec_pos h0, List.all_append, ih (n / 10) (by omega)]
      have := digit_nat n
      simp [isDig, isDigit]; omega

theorem dec_head (n : Nat) : n ≠ 0 → ∃ c r, dec n = c :: r ∧ c ≠ 48 := by
  induction n using Nat.strongRecOn with
  | _ n ih =>
    intro h0
    rw [dec_pos h0]
    by_cases h1 : n / 10 = 0
    · rw [h1, dec_zero]
      refine ⟨_, [], rfl, fun h => ?_⟩
      have h2 := digit_nat n
      rw [h] at h2
      have : ((48 : UInt8).toNat : Int) = 48 := rfl
      omega
    · obtain ⟨c, r, h2, h3⟩ := ih (n / 10) (by omega) h1
      exact ⟨c, r ++ [_], by rw [h2]; rfl, h3⟩

/-- What is read as a number, whatever comes behind it. -/
structure Num (p : List UInt8) (v : Int) : Prop where
  ne : p ≠ []
  dig : p.all isDig = true
  acc : accum 0 p = some v
  head : p.head? = some 48 → p = [48]
  len : p.length ≤ 20

theorem num_decimal {n : Int} (h : n ≤ 9223372036854775807) : Num (decimal n) (if n < 0 then 0 else n) := by
  unfold decimal
  by_cases h0 : n ≤ 0
  · rw [if_pos h0]
    refine ⟨by simp, rfl, ?_, fun _ => rfl, by simp⟩
    have : (if n < 0 then (0 : Int) else n) = 0 := by split <;> omega
    rw [this]; rfl
  · rw [if_neg h0]
    obtain ⟨k, rfl⟩ := Int.eq_ofNat_of_zero_le (show 0 ≤ n by omega)
    obtain ⟨c, r, h2, h3⟩ := dec_head k (by omega)
    rw [Int.toNat_natCast]
    refine ⟨by rw [h2]; simp, dec_dig k, ?_, fun hh => ?_, ?_⟩
    · rw [accum_dec k h]; congr 1
    · rw [h2] at hh; simp at hh; exact absurd hh h3
    · have := dec_len 19 k (by omega); omega

theorem takeWhile_all {p : UInt8 → Bool} : ∀ {l r : List UInt8}, l.all p = true → pre p (l ++ r) = l.length + pre p r
  | [], r, _ => by simp
  | b :: l, r, h => by
    simp only [List.all_cons, Bool.and_eq_true] at h
    rw [List.cons_append, pre_yes h.1, takeWhile_all h.2, List.length_cons]; omega

theorem Num.numLen {p q : List UInt8} {v : Int} (h : Num p v) (hq : ∀ b r, q = b :: r → isDig b = false) : Go.AI.TK.numLen (p ++ q) = p.length := by
  obtain ⟨c, r, rfl⟩ : ∃ c r, p = c :: r := by cases p with
    | nil => exact absurd rfl h.ne
    | cons c r => exact ⟨c, r, rfl⟩
  unfold Go.AI.TK.numLen lead
  by_cases hc : c = 48
  · subst hc
    have := h.head rfl
    simp only [List.cons.injEq, true_and] at this
    subst this
    simp
  · rw [if_neg (by simp; exact hc)]
    have hd := h.dig
    simp only [List.all_cons, Bool.and_eq_true] at hd
    have hq0 : pre isDig q = 0 := by
      cases q with
      | nil => rfl
      | cons b q' => exact pre_no (hq b q' rfl)
    rw [List.cons_append, List.drop_one, List.tail_cons, takeWhile_all hd.2, hq0, List.length_cons]; omega

theorem dig_not_let {c : UInt8} (h : isDig c = true) : isLet c = false := by
  have := dig_in h
  simp [isLet, isLetter]; omega
theorem dig_not_blank {c : UInt8} (h : isDig c = true) : isBlank c = false ∧ ¬ (c.toNat : Int) = 35 := by
  have := dig_in h
  simp [isBlank]; omega

theorem Num.one {p q : List UInt8} {v : Int} (h : Num p v) (hq : ∀ b r, q = b :: r → isDig b = false ∧ isLet b = true) : oneRes (p ++ q) = if q = [] then ⟨2, [], v, p.length, 0⟩ else ⟨0, [], 0, 0, 1⟩ := by
  have hn := h.numLen (q := q) fun b r e => (hq b r e).1
  have hd := h.dig
  have ha := h.acc
  obtain ⟨c, r, rfl⟩ : ∃ c r, p = c :: r := by cases p with
    | nil => exact absurd rfl h.ne
    | cons c r => exact ⟨c, r, rfl⟩
  simp only [List.all_cons, Bool.and_eq_true] at hd
  have e : oneRes (c :: r ++ q) = numRes (c :: r ++ q) := by simp [oneRes, dig_not_let hd.1, hd.1]
  rw [e]; unfold numRes; rw [hn]
  cases q with
  | nil =>
    rw [List.append_nil, if_pos rfl, List.take_length, ha]
    rw [if_neg]; simp [wordAt]
  | cons b q' =>
    have hw : wordAt (c :: r ++ b :: q') (c :: r).length = true := by simp [wordAt, isWord, (hq b q' rfl).2]
    rw [if_pos hw, if_neg (by simp)]

theorem Num.scan {p : List UInt8} {v : Int} (h : Num p v) : Go.AI.TK.scan p = ([⟨2, [], v, 0⟩], 0, 0) := by
  have ho := h.one (q := []) (fun b r e => by cases e)
  have hd := h.dig
  have hl := h.len
  obtain ⟨c, r, rfl⟩ : ∃ c r, p = c :: r := by cases p with
    | nil => exact absurd rfl h.ne
    | cons c r => exact ⟨c, r, rfl⟩
  simp only [List.all_cons, Bool.and_eq_true] at hd
  rw [List.append_nil, if_pos rfl] at ho
  have hb := dig_not_blank hd.1
  have hs : scanF ((c :: r).length + 1) (c :: r) 0 = ([⟨2, [], v, 0⟩], 0, 0) := by
    rw [scanF_tok hb.1 hb.2 (by rw [ho]), ho]
    simp only [Int.toNat_natCast]
    rw [List.drop_length, List.length_cons, scanF_nil]
  unfold Go.AI.TK.scan
  rw [if_neg (by simp at hl ⊢; omega), hs]; rfl

theorem Num.scanBad {p q : List UInt8} {v : Int} (h : Num p v) {b : UInt8} (hq : isDig b = false ∧ isLet b = true) (hl : q.length ≤ 20) : Go.AI.TK.scan (32 :: (p ++ b :: q)) = ([], 1, 1) := by
  have ho := h.one (q := b :: q) (fun b' r e => by cases e; exact hq)
  have hd := h.dig
  have hl1 := h.len
  obtain ⟨c, r, rfl⟩ : ∃ c r, p = c :: r := by cases p with
    | nil => exact absurd rfl h.ne
    | cons c r => exact ⟨c, r, rfl⟩
  simp only [List.all_cons, Bool.and_eq_true] at hd
  rw [if_neg (by simp)] at ho
  have hb := dig_not_blank hd.1
  have hs : scanF ((32 :: (c :: r ++ b :: q)).length + 1) (32 :: (c :: r ++ b :: q)) 0 = ([], 1, 1) := by
    rw [scanF_blank (by decide), List.length_cons, List.cons_append, scanF_err hb.1 hb.2 (by rw [← List.cons_append, ho]; decide), ← List.cons_append, ho]; rfl
  unfold Go.AI.TK.scan
  rw [if_neg (by simp at hl hl1 ⊢; omega), hs]; rfl

theorem Num.scanZero {p : List UInt8} {v : Int} (h : Num p v) : (Go.AI.TK.scan (48 :: p)).2.2 = 1 := by
  have hd := h.dig
  have hl1 := h.len
  obtain ⟨c, r, rfl⟩ : ∃ c r, p = c :: r := by cases p with
    | nil => exact absurd rfl h.ne
    | cons c r => exact ⟨c, r, rfl⟩
  simp only [List.all_cons, Bool.and_eq_true] at hd
  have ho : oneRes (48 :: c :: r) = ⟨0, [], 0, 0, 1⟩ := by
    have e : oneRes (48 :: c :: r) = numRes (48 :: c :: r) := by simp [oneRes, show isLet 48 = false by decide, show isDig 48 = true by decide]
    rw [e]; unfold numRes
    have hn : Go.AI.TK.numLen (48 :: c :: r) = 1 := by simp [Go.AI.TK.numLen, lead]
    rw [hn, if_pos]
    simp [wordAt, isWord, hd.1]
  have hs : scanF ((48 :: c :: r).length + 1) (48 :: c :: r) 0 = ([], 0, 1) := by
    rw [scanF_err (by decide) (by decide) (by rw [ho]; decide), ho]
  unfold Go.AI.TK.scan
  rw [if_neg (by simp at hl1 ⊢; omega), hs]; rfl

theorem scan_big : (scan ([57, 50, 50, 51, 51, 55, 50, 48, 51, 54, 56, 53, 52, 55, 55, 53, 56, 48, 56] : List UInt8)).2.2 = 3 := by kernel_rfl
def lnumbersT : FT
  | [.d (.int .i64 n), .d (.int .u8 m)], [] => .br (decide (n ≤ 9223372036854775807 ∧ 0 ≤ m)) (.leaf (.d (.bool true), [])) .fail
  | _, _ => .fail

noncomputable abbrev Xlnumbers : TX := ⟨Try.prog, tbl [(6, awakeT), (7, scanT), (10, rdecimalT)], iso, gl, vw⟩

theorem xok_Xlnumbers (f : Nat) : XOK Xlnumbers (ann f) gl := XOK.of base (l := [(6, awakeT), (7, scanT), (10, rdecimalT)]) ⟨ok_awake, ok_scan, ok_rdecimal, trivial⟩ f

/-- rollbacknet/rollbacknetlaw01.TokenNumbers -/
def c_lnumbers : CC := .seq (.region [
    ⟨.yes, (some 4), .assign (.const (.bool false)), false, false, []⟩] [0, 1]) <|
  .seq (.seq (.region [
    ⟨.yes, (some 18), .call ⟨.value (.func 6), #[], #[]⟩, false, false, []⟩,
    ⟨.yes, (some 19), .unOp .not 4 (.tmp 18), false, false, []⟩] [0, 1, 19]) <|
  .cond (.tmp 19)
    (.seq (.region [
      ⟨.yes, (some 4), .assign (.const (.bool false)), false, false, []⟩] [4]) <|
    .ret)
    (.skip)) <|
  .seq (.region [
    ⟨.yes, (some 20), .move (.tmp 0), false, false, []⟩,
    ⟨.yes, (some 21), .call ⟨.value (.func 10), #[(.tmp 20)], #[3]⟩, false, false, []⟩,
    ⟨.yes, (some 5), .assign (.tmp 21), true, false, []⟩] [0, 1, 5]) <|
  .seq (.region [
    ⟨.yes, (some 23), .move (.tmp 5), false, false, []⟩,
    ⟨.yes, (some 24), .call ⟨.value (.func 7), #[(.tmp 23)], #[9]⟩, false, false, []⟩,
    ⟨.yes, (some 22), .move (.tmp 24), true, false, []⟩,
    ⟨.yes, (some 25), .extract (.tmp 22) 0, false, false, [(some 4)]⟩,
    ⟨.yes, (some 26), .extract (.tmp 22) 1, false, false, []⟩,
    ⟨.yes, (some 27), .extract (.tmp 22) 2, false, false, []⟩,
    ⟨.yes, (some 6), .assign (.tmp 25), true, false, [(some 4)]⟩,
    ⟨.yes, (some 7), .assign (.tmp 26), true, false, []⟩,
    ⟨.yes, (some 8), .assign (.tmp 27), true, false, []⟩] [0, 1, 5, 6, 8]) <|
  .seq (.seq (.region [
    ⟨.yes, (some 28), .move (.tmp 8), true, false, []⟩,
    ⟨.yes, (some 29), .binOp .neq 24 (.tmp 28) (.const (.int .i64 (0))) 24, false, false, []⟩,
    ⟨.yes, (some 30), .move (.tmp 29), true, false, []⟩,
    ⟨(.on 30 false), (some 31), .move (.tmp 6), false, false, [(some 4)]⟩,
    ⟨(.on 30 false), (some 32), .call ⟨.builtin .len, #[(.tmp 31)], #[23]⟩, false, false, []⟩,
    ⟨(.on 30 false), (some 33), .binOp .neq 3 (.tmp 32) (.const (.int .i64 (1))) 3, false, false, []⟩,
    ⟨.yes, (some 34), .pick (.tmp 30) (.const (.bool true)) (.tmp 33), false, false, []⟩,
    ⟨.yes, (some 35), .move (.tmp 34), true, false, []⟩,
    ⟨(.on 35 false), (some 36), .move (.tmp 6), false, false, [(some 4)]⟩,
    ⟨(.on 35 false), (some 37), .indexAddr 23 (.tmp 36) (.const (.int .i64 (0))), false, false, []⟩,
    ⟨(.on 35 false), (some 38), .fieldAddr 31 (.tmp 37) 0, false, false, []⟩,
    ⟨(.on 35 false), (some 39), .load 3 (.tmp 38), false, false, []⟩,
    ⟨(.on 35 false), (some 40), .binOp .neq 3 (.tmp 39) (.const (.int .i64 (2))) 3, false, false, []⟩,
    ⟨.yes, (some 41), .pick (.tmp 35) (.const (.bool true)) (.tmp 40), false, false, []⟩,
    ⟨.yes, (some 42), .move (.tmp 41), true, false, []⟩,
    ⟨(.on 42 false), (some 43), .move (.tmp 6), true, false, [(some 4)]⟩,
    ⟨(.on 42 false), (some 44), .indexAddr 23 (.tmp 43) (.const (.int .i64 (0))), false, false, []⟩,
    ⟨(.on 42 false), (some 45), .fieldAddr 31 (.tmp 44) 2, false, false, []⟩,
    ⟨(.on 42 false), (some 46), .load 3 (.tmp 45), false, false, []⟩,
    ⟨(.on 42 false), (some 47), .move (.tmp 0), true, false, []⟩,
    ⟨(.on 42 false), (some 48), .call ⟨.builtin .max, #[(.tmp 47), (.const (.int .i64 (0)))], #[3, 3]⟩, false, false, []⟩,
    ⟨(.on 42 false), (some 49), .binOp .neq 3 (.tmp 46) (.tmp 48) 3, false, false, []⟩,
    ⟨.yes, (some 50), .pick (.tmp 42) (.const (.bool true)) (.tmp 49), false, false, []⟩] [1, 5, 50]) <|
  .cond (.tmp 50)
    (.seq (.region [
      ⟨.yes, (some 4), .assign (.const (.bool false)), false, false, []⟩] [4]) <|
    .ret)
    (.skip)) <|
  .seq (.region [
    ⟨.yes, (some 52), .call ⟨.value (.func 7), #[(.const (.string ⟨#[57, 50, 50, 51, 51, 55, 50, 48, 51, 54, 56, 53, 52, 55, 55, 53, 56, 48, 56]⟩))], #[9]⟩, false, false, []⟩,
    ⟨.yes, (some 51), .move (.tmp 52), true, false, []⟩,
    ⟨.yes, (some 53), .extract (.tmp 51) 0, false, false, [(some 4)]⟩,
    ⟨.yes, (some 54), .extract (.tmp 51) 1, false, false, []⟩,
    ⟨.yes, (some 55), .extract (.tmp 51) 2, false, false, []⟩,
    ⟨.yes, (some 9), .assign (.tmp 53), true, false, [(some 4)]⟩,
    ⟨.yes, (some 10), .assign (.tmp 54), true, false, []⟩,
    ⟨.yes, (some 11), .assign (.tmp 55), true, false, []⟩] [1, 5, 11]) <|
  .seq (.region [
    ⟨.yes, (some 57), .move (.tmp 5), false, false, []⟩,
    ⟨.yes, (some 58), .binOp .add 9 (.const (.string ⟨#[32]⟩)) (.tmp 57) 9, false, false, []⟩,
    ⟨.yes, (some 59), .buildSlice 32 3 #[(0, (.const (.string ⟨#[120]⟩))), (1, (.const (.string ⟨#[95]⟩))), (2, (.const (.string ⟨#[65, 49]⟩)))], false, false, [(some 1)]⟩,
    ⟨.yes, (some 60), .move (.tmp 1), true, false, []⟩,
    ⟨.yes, (some 61), .binOp .rem 5 (.tmp 60) (.const (.int .u8 (3))) 5, false, false, []⟩,
    ⟨.yes, (some 62), .indexAddr 32 (.tmp 59) (.tmp 61), false, false, []⟩,
    ⟨.yes, (some 63), .load 9 (.tmp 62), false, false, []⟩,
    ⟨.yes, (some 64), .binOp .add 9 (.tmp 58) (.tmp 63) 9, false, false, []⟩,
    ⟨.yes, (some 65), .call ⟨.value (.func 7), #[(.tmp 64)], #[9]⟩, false, false, []⟩,
    ⟨.yes, (some 56), .move (.tmp 65), true, false, []⟩,
    ⟨.yes, (some 66), .extract (.tmp 56) 0, false, false, [(some 4)]⟩,
    ⟨.yes, (some 67), .extract (.tmp 56) 1, false, false, []⟩,
    ⟨.yes, (some 68), .extract (.tmp 56) 2, false, false, []⟩,
    ⟨.yes, (some 12), .assign (.tmp 66), true, false, [(some 4)]⟩,
    ⟨.yes, (some 13), .assign (.tmp 67), true, false, []⟩,
    ⟨.yes, (some 14), .assign (.tmp 68), true, false, []⟩] [5, 11, 13, 14]) <|
  .seq (.region [
    ⟨.yes, (some 70), .move (.tmp 5), true, false, []⟩,
    ⟨.yes, (some 71), .binOp .add 9 (.const (.string ⟨#[48]⟩)) (.tmp 70) 9, false, false, []⟩,
    ⟨.yes, (some 72), .call ⟨.value (.func 7), #[(.tmp 71)], #[9]⟩, false, false, []⟩,
    ⟨.yes, (some 69), .move (.tmp 72), true, false, []⟩,
    ⟨.yes, (some 73), .extract (.tmp 69) 0, false, false, [(some 4)]⟩,
    ⟨.yes, (some 74), .extract (.tmp 69) 1, false, false, []⟩,
    ⟨.yes, (some 75), .extract (.tmp 69) 2, false, false, []⟩,
    ⟨.yes, (some 15), .assign (.tmp 73), true, false, [(some 4)]⟩,
    ⟨.yes, (some 16), .assign (.tmp 74), true, false, []⟩,
    ⟨.yes, (some 17), .assign (.tmp 75), true, false, []⟩] [11, 13, 14, 17]) <|
  .seq (.region [
    ⟨.yes, (some 76), .move (.tmp 11), true, false, []⟩,
    ⟨.yes, (some 77), .binOp .eql 24 (.tmp 76) (.const (.int .i64 (3))) 24, false, false, []⟩,
    ⟨.yes, (some 78), .move (.tmp 77), true, false, []⟩,
    ⟨(.on 78 true), (some 79), .move (.tmp 14), true, false, []⟩,
    ⟨(.on 78 true), (some 80), .binOp .eql 24 (.tmp 79) (.const (.int .i64 (1))) 24, false, false, []⟩,
    ⟨.yes, (some 81), .pick (.tmp 78) (.tmp 80) (.const (.bool false)), false, false, []⟩,
    ⟨.yes, (some 82), .move (.tmp 81), true, false, []⟩,
    ⟨(.on 82 true), (some 83), .move (.tmp 13), true, false, []⟩,
    ⟨(.on 82 true), (some 84), .binOp .eql 3 (.tmp 83) (.const (.int .i64 (1))) 3, false, false, []⟩,
    ⟨.yes, (some 85), .pick (.tmp 82) (.tmp 84) (.const (.bool false)), false, false, []⟩,
    ⟨.yes, (some 86), .move (.tmp 85), true, false, []⟩,
    ⟨(.on 86 true), (some 87), .move (.tmp 17), true, false, []⟩,
    ⟨(.on 86 true), (some 88), .binOp .eql 24 (.tmp 87) (.const (.int .i64 (1))) 24, false, false, []⟩,
    ⟨.yes, (some 89), .pick (.tmp 86) (.tmp 88) (.const (.bool false)), false, false, []⟩,
    ⟨.yes, (some 4), .assign (.tmp 89), true, false, []⟩] [4]) <|
  .ret

theorem c_lnumbers_eq : ∃ c, Try.f4.body = some c ∧ codeOK Try.f4.ntmps c = true ∧ comp Try.prog (ann 4) c = erase c_lnumbers := ⟨_, rfl, by kernel_rfl, by kernel_rfl⟩

theorem tree_lnumbers (n m : Int) : fnT Xlnumbers c_lnumbers Try.f4.results.toList [.d (.int .i64 n), .d (.int .u8 m)] [] = (
    .br false
    (.leaf ((.d (.bool false)), []))
    (.br (decide (n ≤ 9223372036854775807))
      (.br (!decide (((scan (decimal n)).2.2) = 0))
        (.leaf ((.d (.bool false)), []))
        (.br (!decide ((((scan (decimal n)).1.map encTok).length : Int) = 1))
          (.leaf ((.d (.bool false)), []))
          (.br (decide ((0 : Int) ≤ 0))
            (.opt ((((scan (decimal n)).1.map encTok)[0]?).bind unTok) fun y1 => .br (!decide (y1.kind = 2))
              (.leaf ((.d (.bool false)), []))
              (.br (decide ((0 : Int) ≤ 0))
                (.opt ((((scan (decimal n)).1.map encTok)[0]?).bind unTok) fun y2 => .br (!decide (y2.value = (if n < 0 then 0 else n)))
                  (.leaf ((.d (.bool false)), []))
                  (.br (decide (([32] : List UInt8).length + (decimal n).length ≤ 9223372036854775807))
                    (.br (decide ((3 : Int) = 0))
                      (.fail)
                      (.br (decide ((0 : Int) ≤ (Int.tmod m 3)))
                        (.opt ((([(.str [120]), (.str [95]), (.str [65, 49])] : List DV)[(Int.toNat (Int.tmod m 3))]?).bind unStr) fun y3 => .br (decide (([32] ++ (decimal n) : List UInt8).length + y3.length ≤ 9223372036854775807))
                          (.br (decide (([48] : List UInt8).length + (decimal n).length ≤ 9223372036854775807))
                            (.br (decide (((scan ([57, 50, 50, 51, 51, 55, 50, 48, 51, 54, 56, 53, 52, 55, 55, 53, 56, 48, 56] : List UInt8)).2.2) = 3))
                              (.br (decide (((scan (([32] ++ (decimal n)) ++ y3)).2.2) = 1))
                                (.br (decide (((scan (([32] ++ (decimal n)) ++ y3)).2.1) = 1))
                                  (.leaf ((.d (.bool (decide (((scan ([48] ++ (decimal n))).2.2) = 1)))), []))
                                  (.leaf ((.d (.bool false)), [])))
                                (.leaf ((.d (.bool false)), [])))
                              (.leaf ((.d (.bool false)), [])))
                            (.fail))
                          (.fail))
                        (.fail)))
                    (.fail)))
                (.fail)))
            (.fail))))
      (.fail)) : Tr (AV × Hp)) := by kernel_rfl

theorem ok_lnumbers : FnOK Try.prog gl 4 lnumbersT := by
  refine fn_of (X := Xlnumbers) (xok_Xlnumbers 4) Try.func4 c_lnumbers_eq (by kernel_rfl) (by simp only [Sums, c_lnumbers, and_true]) ?_
  intro xs H o h
  unfold lnumbersT at h
  split at h
  · rw [tree_lnumbers]
    rcases Tr.br_some h with ⟨h1, h2⟩ | ⟨_, h2⟩
    · obtain rfl := Tr.leaf_some h2
      rename_i n m
      obtain ⟨h3, h4⟩ := of_decide_eq_true h1
      have hN := num_decimal h3
      have hl := hN.len
      have hv : ∀ (y : List UInt8), y = [120] ∨ y = [95] ∨ y = [65, 49] → scan ([32] ++ decimal n ++ y) = ([], 1, 1) := fun y hy => by
        rcases hy with rfl | rfl | rfl
        · exact hN.scanBad (b := 120) (q := []) (by decide) (by simp)
        · exact hN.scanBad (b := 95) (q := []) (by decide) (by simp)
        · exact hN.scanBad (b := 65) (q := [49]) (by decide) (by simp)
      have e : Int.tmod m 3 = m % 3 := Int.tmod_eq_emod_of_nonneg h4
      rw [Tr.run_no rfl]
      refine Tr.dec_yes h3 ?_
      rw [hN.scan]
      rw [Tr.run_no (by simp), Tr.run_no (by simp)]
      refine Tr.dec_yes (by omega) (Tr.opt_to rfl ?_)
      rw [Tr.run_no (by simp)]
      refine Tr.dec_yes (by omega) (Tr.opt_to rfl ?_)
      rw [Tr.run_no (by simp)]
      refine Tr.dec_yes (by simp; omega) (Tr.dec_no (by decide) (Tr.dec_yes (by omega) ?_))
      obtain ⟨y, hy, hs⟩ : ∃ y, (([(.str [120]), (.str [95]), (.str [65, 49])] : List DV)[(Int.toNat (Int.tmod m 3))]?).bind unStr = some y ∧ (y = [120] ∨ y = [95] ∨ y = [65, 49]) := by
        rw [e]
        have h5 : m % 3 = 0 ∨ m % 3 = 1 ∨ m % 3 = 2 := by omega
        rcases h5 with h5 | h5 | h5 <;> rw [h5]
        · exact ⟨_, rfl, .inl rfl⟩
        · exact ⟨_, rfl, .inr (.inl rfl)⟩
        · exact ⟨_, rfl, .inr (.inr rfl)⟩
      have hyl : y.length ≤ 2 := by rcases hs with rfl | rfl | rfl <;> simp
      refine Tr.opt_to hy ?_
      refine Tr.dec_yes (by simp; omega) (Tr.dec_yes (by simp; omega) (Tr.dec_yes scan_big ?_))
      rw [hv y hs]
      refine Tr.dec_yes rfl (Tr.dec_yes rfl ?_)
      have := hN.scanZero
      rw [show [48] ++ decimal n = 48 :: decimal n from rfl, this]; rfl
    · exact Tr.fail_some h2
  · exact Tr.fail_some h

end Go.AI.TK
