/- token.number, in sum. -/
import Derived.Test.YtkkmdjkahdglhaaTkB
namespace Go.AI.TK
open Go Go.Proofs
set_option maxRecDepth 10000
set_option linter.unusedVariables false
set_option linter.unusedSimpArgs false

structure TR where
  kd : Int
  tx : List UInt8
  vl : Int
  ln : Int
  er : Int

/-- How many digits come, if the first one is no zero. -/
def lead (s r : List UInt8) : Nat := if s.head? = some 48 then 0 else pre isDig r
def numLen (s : List UInt8) : Nat := 1 + lead s (s.drop 1)
def wordAt (s : List UInt8) (n : Nat) : Bool := match s[n]? with | some b => isWord b | none => false

def accum : Int → List UInt8 → Option Int
  | v, [] => some v
  | v, b :: r => if (9223372036854775807 - ((b.toNat : Int) - 48)) / 10 < v then none else accum (v * 10 + ((b.toNat : Int) - 48)) r

def numRes (s : List UInt8) : TR :=
  if wordAt s (numLen s) = true then ⟨0, [], 0, 0, 1⟩ else
  match accum 0 (s.take (numLen s)) with
  | none => ⟨0, [], 0, 0, 3⟩
  | some v => ⟨2, [], v, numLen s, 0⟩

def numPre (s : List UInt8) : Bool := decide ((s.length : Int) ≤ big) && (match s with | c :: _ => isDig c | [] => false)
def accPre (p : List UInt8) (m i v : Int) : Prop := m = p.length ∧ 0 ≤ i ∧ i ≤ m ∧ (p.length : Int) ≤ big ∧ 0 ≤ v ∧ v ≤ 9223372036854775807 ∧ p.all isDig = true
instance (p : List UInt8) (m i v : Int) : Decidable (accPre p m i v) := by unfold accPre; infer_instance

/-- The bytes of a list of bytes. -/
def unB : List DV → Option (List UInt8)
  | [] => some []
  | .int .u8 n :: r => if 0 ≤ n ∧ n < 256 then (unB r).map (UInt8.ofNat n.toNat :: ·) else none
  | _ => none
theorem unB_of (p : List UInt8) : unB (ofBytes p) = some p := by
  induction p with
  | nil => rfl
  | cons b p ih =>
    have : unB (ofBytes (b :: p)) = if 0 ≤ (b.toNat : Int) ∧ (b.toNat : Int) < 256 then (unB (ofBytes p)).map (UInt8.ofNat ((b.toNat : Int)).toNat :: ·) else none := rfl
    have hb := b.toNat_lt
    rw [this, ih, if_pos (by omega)]
    simp
theorem unB_inv : ∀ {xs : List DV} {p : List UInt8}, unB xs = some p → xs = ofBytes p := by
  intro xs
  induction xs with
  | nil => intro p h; simp [unB] at h; subst h; rfl
  | cons x xs ih =>
    intro p h
    unfold unB at h
    split at h
    · rename_i heq; cases heq
    · rename_i n r heq
      injection heq with h1 h2
      subst h2; subst h1
      split at h
      · rename_i hn
        cases hb : unB xs with
        | none => rw [hb] at h; simp at h
        | some q =>
          rw [hb] at h; simp at h; subst h
          rw [ih hb]
          have : ((UInt8.ofNat n.toNat).toNat : Int) = n := by
            rw [UInt8.toNat_ofNat']; omega
          show _ = DV.int .u8 _ :: ofBytes q
          rw [this]
      · simp at h
    · simp at h
theorem bytesOf_ofBytes (p : List UInt8) : bytesOf (ofBytes p) = some p := by
  induction p with
  | nil => rfl
  | cons b p ih =>
    have : bytesOf (ofBytes (b :: p)) = (bytesOf (ofBytes p)).map (UInt8.ofNat ((b.toNat : Int)).toNat :: ·) := rfl
    rw [this, ih]
    simp
theorem ofBytes_len (p : List UInt8) : (ofBytes p).length = p.length := by simp [ofBytes]
theorem ofBytes_at (p : List UInt8) (i : Nat) : ((ofBytes p)[i]?).bind (unInt .u8) = (p[i]?).map fun b => (b.toNat : Int) := by
  simp only [ofBytes, List.getElem?_map]
  cases p[i]? <;> rfl
def L_number_0 : ST → Tr (Ex × ST)
  | ⟨[(0, .d (.str s)), (2, (.box [(.d (.int .i64 0)), (.d (.str [])), (.d (.int .i64 0)), (.d (.int .i64 0))])), (5, .d (.int .i64 n))], []⟩ => .br (decide (1 ≤ n ∧ n ≤ s.length ∧ (s.length : Int) ≤ big)) (.leaf ((.ext 0), ⟨[(0, .d (.str s)), (2, (.box [(.d (.int .i64 0)), (.d (.str [])), (.d (.int .i64 0)), (.d (.int .i64 0))])), (5, .d (.int .i64 (n + (lead s (s.drop n.toNat) : Int))))], []⟩)) .fail
  | _ => .fail

def L_number_1 : ST → Tr (Ex × ST)
  | ⟨[(2, (.box [(.d (.int .i64 0)), (.d (.str [])), (.d (.int .i64 0)), (.d (.int .i64 0))])), (5, .d (.int .i64 n)), (6, .d (.int .i64 v)), (47, .d (.sl 1 xs)), (48, .d (.int .i64 m)), (49, .d (.int .i64 i))], []⟩ => .opt (unB xs) fun p => .br (decide (accPre p m i v)) (.br ((accum v (p.drop i.toNat)).isNone) (.leaf (.ret, ⟨[(2, (.box [(.d (.int .i64 0)), (.d (.str [])), (.d (.int .i64 0)), (.d (.int .i64 0))])), (3, .d (.int .i64 0)), (4, .d (.int .i64 3))], []⟩)) (.opt (accum v (p.drop i.toNat)) fun u => (.leaf ((.ext 2), ⟨[(2, (.box [(.d (.int .i64 0)), (.d (.str [])), (.d (.int .i64 0)), (.d (.int .i64 0))])), (5, .d (.int .i64 n)), (6, .d (.int .i64 u))], []⟩)))) .fail
  | _ => .fail

def numberT : FT
  | [.d (.str s)], [] => .br (numPre s) (.leaf ((.tup [.agg [.d (.int .i64 (numRes s).kd), .d (.str (numRes s).tx), .d (.int .i64 (numRes s).vl), .d (.int .i64 0)], .d (.int .i64 (numRes s).ln), .d (.int .i64 (numRes s).er)]), [])) .fail
  | _, _ => .fail

noncomputable abbrev Xnumber : TX := ⟨Try.prog, tbl [(19, letterT), (23, digitT)], iso, gl, vw⟩

theorem xok_Xnumber (f : Nat) : XOK Xnumber (ann f) gl := XOK.of base (l := [(19, letterT), (23, digitT)]) ⟨ok_letter, ok_digit, trivial⟩ f

def l_number_0 : CC := .seq (.seq (.region [
    ⟨.yes, (some 10), .move (.tmp 0), false, false, []⟩,
    ⟨.yes, (some 11), .index 9 (.tmp 10) (.const (.int .i64 (0))), false, false, []⟩,
    ⟨.yes, (some 12), .binOp .neq 5 (.tmp 11) (.const (.int .u8 (48))) 5, false, false, []⟩,
    ⟨.yes, (some 13), .move (.tmp 12), true, false, []⟩,
    ⟨(.on 13 true), (some 14), .move (.tmp 5), false, false, []⟩,
    ⟨(.on 13 true), (some 15), .move (.tmp 0), false, false, []⟩,
    ⟨(.on 13 true), (some 16), .call ⟨.builtin .len, #[(.tmp 15)], #[9]⟩, false, false, []⟩,
    ⟨(.on 13 true), (some 17), .binOp .lss 3 (.tmp 14) (.tmp 16) 3, false, false, []⟩,
    ⟨.yes, (some 18), .pick (.tmp 13) (.tmp 17) (.const (.bool false)), false, false, []⟩,
    ⟨.yes, (some 19), .move (.tmp 18), true, false, []⟩,
    ⟨(.on 19 true), (some 20), .move (.tmp 0), false, false, []⟩,
    ⟨(.on 19 true), (some 21), .move (.tmp 5), false, false, []⟩,
    ⟨(.on 19 true), (some 22), .index 9 (.tmp 20) (.tmp 21), false, false, []⟩,
    ⟨(.on 19 true), (some 23), .call ⟨.value (.func 23), #[(.tmp 22)], #[5]⟩, false, false, []⟩,
    ⟨.yes, (some 24), .pick (.tmp 19) (.tmp 23) (.const (.bool false)), false, false, []⟩] [0, 2, 5, 24]) <|
  .cond (.tmp 24)
    (.skip)
    (.exit 0)) <|
  .block 1 <| .region [
    ⟨.yes, (some 25), .move (.tmp 5), true, false, []⟩,
    ⟨.yes, (some 26), .binOp .add 3 (.tmp 25) (.const (.int .i64 (1))) 3, false, false, []⟩,
    ⟨.yes, (some 5), .assign (.tmp 26), true, false, []⟩] [0, 2, 5]

def l_number_1 : CC := .seq (.region [
    ⟨.yes, (some 50), .binOp .lss 3 (.tmp 49) (.tmp 48) 3, false, false, []⟩] [2, 5, 6, 47, 48, 49, 50]) <|
  .seq (.cond (.tmp 50)
    (.skip)
    (.exit 2)) <|
  .seq (.block 3 <| .seq (.region [
    ⟨.yes, (some 51), .indexAddr 38 (.tmp 47) (.tmp 49), false, false, []⟩,
    ⟨.yes, (some 52), .load 5 (.tmp 51), false, false, []⟩,
    ⟨.yes, (some 8), .assign (.tmp 52), true, false, []⟩] [2, 5, 6, 8, 47, 48, 49]) <|
  .seq (.region [
    ⟨.yes, (some 53), .move (.tmp 8), true, false, []⟩,
    ⟨.yes, (some 54), .binOp .sub 5 (.tmp 53) (.const (.int .u8 (48))) 5, false, false, []⟩,
    ⟨.yes, (some 55), .convert 5 3 (.tmp 54), false, false, []⟩,
    ⟨.yes, (some 9), .assign (.tmp 55), true, false, []⟩] [2, 5, 6, 9, 47, 48, 49]) <|
  .seq (.seq (.region [
    ⟨.yes, (some 56), .move (.tmp 6), false, false, []⟩,
    ⟨.yes, (some 57), .move (.tmp 9), false, false, []⟩,
    ⟨.yes, (some 58), .binOp .sub 3 (.const (.int .i64 (9223372036854775807))) (.tmp 57) 3, false, false, []⟩,
    ⟨.yes, (some 59), .binOp .quo 3 (.tmp 58) (.const (.int .i64 (10))) 3, false, false, []⟩,
    ⟨.yes, (some 60), .binOp .gtr 3 (.tmp 56) (.tmp 59) 3, false, false, []⟩] [2, 5, 6, 9, 47, 48, 49, 60]) <|
  .cond (.tmp 60)
    (.seq (.region [
      ⟨.yes, (some 61), .build 31 #[], false, false, []⟩,
      ⟨.yes, none, .store 31 (.tmp 2) (.tmp 61), true, false, []⟩,
      ⟨.yes, (some 3), .assign (.const (.int .i64 (0))), false, false, []⟩,
      ⟨.yes, (some 4), .assign (.const (.int .i64 (3))), false, false, []⟩] [2, 3, 4]) <|
    .ret)
    (.skip)) <|
  .region [
    ⟨.yes, (some 62), .move (.tmp 6), true, false, []⟩,
    ⟨.yes, (some 63), .binOp .mul 3 (.tmp 62) (.const (.int .i64 (10))) 3, false, false, []⟩,
    ⟨.yes, (some 64), .move (.tmp 9), true, false, []⟩,
    ⟨.yes, (some 65), .binOp .add 3 (.tmp 63) (.tmp 64) 3, false, false, []⟩,
    ⟨.yes, (some 6), .assign (.tmp 65), true, false, []⟩] [2, 5, 6, 47, 48, 49]) <|
  .region [
    ⟨.yes, (some 66), .binOp .add 3 (.tmp 49) (.const (.int .i64 (1))) 3, false, false, []⟩,
    ⟨.yes, (some 49), .move (.tmp 66), true, false, []⟩] [2, 5, 6, 47, 48, 49]

/-- rollbacknet/token.number -/
def c_number : CC := .seq (.region [
    ⟨.yes, (some 2), .alloc 31, false, false, []⟩,
    ⟨.yes, (some 3), .assign (.const (.int .i64 (0))), false, false, []⟩,
    ⟨.yes, (some 4), .assign (.const (.int .i64 (0))), false, false, []⟩] [0, 2]) <|
  .seq (.region [
    ⟨.yes, (some 5), .assign (.const (.int .i64 (1))), false, false, []⟩] [0, 2, 5]) <|
  .seq (.block 0 <| .keep [0, 2, 5] <| .sum L_number_0 (.loop l_number_0)) <|
  .seq (.seq (.region [
    ⟨.yes, (some 27), .move (.tmp 5), false, false, []⟩,
    ⟨.yes, (some 28), .move (.tmp 0), false, false, []⟩,
    ⟨.yes, (some 29), .call ⟨.builtin .len, #[(.tmp 28)], #[9]⟩, false, false, []⟩,
    ⟨.yes, (some 30), .binOp .lss 3 (.tmp 27) (.tmp 29) 3, false, false, []⟩,
    ⟨.yes, (some 31), .move (.tmp 30), true, false, []⟩,
    ⟨(.on 31 true), (some 32), .move (.tmp 0), false, false, []⟩,
    ⟨(.on 31 true), (some 33), .move (.tmp 5), false, false, []⟩,
    ⟨(.on 31 true), (some 34), .index 9 (.tmp 32) (.tmp 33), false, false, []⟩,
    ⟨(.on 31 true), (some 35), .call ⟨.value (.func 19), #[(.tmp 34)], #[5]⟩, false, false, []⟩,
    ⟨(.on 31 true), (some 36), .move (.tmp 35), true, false, []⟩,
    ⟨(.on 36 false), (some 37), .move (.tmp 0), false, false, []⟩,
    ⟨(.on 36 false), (some 38), .move (.tmp 5), false, false, []⟩,
    ⟨(.on 36 false), (some 39), .index 9 (.tmp 37) (.tmp 38), false, false, []⟩,
    ⟨(.on 36 false), (some 40), .call ⟨.value (.func 23), #[(.tmp 39)], #[5]⟩, false, false, []⟩,
    ⟨(.on 31 true), (some 41), .pick (.tmp 36) (.const (.bool true)) (.tmp 40), false, false, []⟩,
    ⟨.yes, (some 42), .pick (.tmp 31) (.tmp 41) (.const (.bool false)), false, false, []⟩] [0, 2, 5, 42]) <|
  .cond (.tmp 42)
    (.seq (.region [
      ⟨.yes, (some 43), .build 31 #[], false, false, []⟩,
      ⟨.yes, none, .store 31 (.tmp 2) (.tmp 43), true, false, []⟩,
      ⟨.yes, (some 3), .assign (.const (.int .i64 (0))), false, false, []⟩,
      ⟨.yes, (some 4), .assign (.const (.int .i64 (1))), false, false, []⟩] [2, 3, 4]) <|
    .ret)
    (.skip)) <|
  .seq (.region [
    ⟨.yes, (some 6), .assign (.const (.int .i64 (0))), false, false, []⟩] [0, 2, 5, 6]) <|
  .seq (.seq (.region [
    ⟨.yes, (some 44), .move (.tmp 0), true, false, []⟩,
    ⟨.yes, (some 45), .move (.tmp 5), false, false, []⟩,
    ⟨.yes, (some 46), .slice 9 (.tmp 44) none (some (.tmp 45)) none, false, false, []⟩,
    ⟨.yes, (some 47), .convert 9 38 (.tmp 46), false, false, [(some 1)]⟩,
    ⟨.yes, (some 48), .call ⟨.builtin .len, #[(.tmp 47)], #[38]⟩, false, false, []⟩,
    ⟨.yes, (some 49), .move (.const (.int .i64 (0))), false, false, []⟩] [2, 5, 6, 47, 48, 49]) <|
  .block 2 <| .keep [2, 5, 6, 47, 48, 49] <| .sum L_number_1 (.loop l_number_1)) <|
  .seq (.region [
    ⟨.yes, (some 67), .move (.tmp 6), true, false, []⟩,
    ⟨.yes, (some 68), .build 31 #[(0, (.const (.int .i64 (2)))), (2, (.tmp 67))], true, false, []⟩,
    ⟨.yes, (some 69), .move (.tmp 5), true, false, []⟩,
    ⟨.yes, none, .store 31 (.tmp 2) (.tmp 68), true, false, []⟩,
    ⟨.yes, (some 3), .assign (.tmp 69), true, false, []⟩,
    ⟨.yes, (some 4), .assign (.const (.int .i64 (0))), false, false, []⟩] [2, 3, 4]) <|
  .ret

theorem c_number_eq : ∃ c, Try.f24.body = some c ∧ codeOK Try.f24.ntmps c = true ∧ comp Try.prog (ann 24) c = erase c_number := ⟨_, rfl, by kernel_rfl, by kernel_rfl⟩

theorem body_number_0 (s : List UInt8) (n : Int) : bodyT Xnumber [0, 2, 5] [2, 3, 4] [(0, [0, 2, 5])] l_number_0 ⟨[(0, .d (.str s)), (2, (.box [(.d (.int .i64 0)), (.d (.str [])), (.d (.int .i64 0)), (.d (.int .i64 0))])), (5, .d (.int .i64 n))], []⟩ = (
    .br (decide ((0 : Int) ≤ 0))
    (.opt (s[0]?) fun b1 => .br (!decide ((b1.toNat : Int) = 48))
      (.br (decide (n < (s.length : Int)))
        (.br (decide ((0 : Int) ≤ n))
          (.opt (s[(Int.toNat n)]?) fun b2 => .br (isDigit (b2.toNat : Int))
            (.leaf (.nrm, ⟨[(0, (.d (.str s))), (2, (.box [(.d (.int .i64 0)), (.d (.str [])), (.d (.int .i64 0)), (.d (.int .i64 0))])), (5, (.d (.int .i64 (IntKind.i64.wrap (n + 1)))))], []⟩))
            (.leaf ((.ext 0), ⟨[(0, (.d (.str s))), (2, (.box [(.d (.int .i64 0)), (.d (.str [])), (.d (.int .i64 0)), (.d (.int .i64 0))])), (5, (.d (.int .i64 n)))], []⟩)))
          (.fail))
        (.leaf ((.ext 0), ⟨[(0, (.d (.str s))), (2, (.box [(.d (.int .i64 0)), (.d (.str [])), (.d (.int .i64 0)), (.d (.int .i64 0))])), (5, (.d (.int .i64 n)))], []⟩)))
      (.leaf ((.ext 0), ⟨[(0, (.d (.str s))), (2, (.box [(.d (.int .i64 0)), (.d (.str [])), (.d (.int .i64 0)), (.d (.int .i64 0))])), (5, (.d (.int .i64 n)))], []⟩)))
    (.fail) : Tr (Ex × ST)) := by kernel_rfl

theorem body_number_1 (p : List UInt8) (n v m i : Int) : bodyT Xnumber [2, 5, 6, 47, 48, 49] [2, 3, 4] [(2, [2, 5, 6])] l_number_1 ⟨[(2, (.box [(.d (.int .i64 0)), (.d (.str [])), (.d (.int .i64 0)), (.d (.int .i64 0))])), (5, .d (.int .i64 n)), (6, .d (.int .i64 v)), (47, .d (.sl 1 (ofBytes p))), (48, .d (.int .i64 m)), (49, .d (.int .i64 i))], []⟩ = (
    .br (decide (i < m))
    (.br (decide ((0 : Int) ≤ i))
      (.opt (((ofBytes p)[(Int.toNat i)]?).bind (unInt .u8)) fun y1 => .br (decide ((10 : Int) = 0))
        (.fail)
        (.br (decide ((IntKind.i64.wrap (Int.tdiv (IntKind.i64.wrap (9223372036854775807 - (IntKind.i64.wrap (IntKind.u8.wrap (y1 - 48))))) 10)) < v))
          (.leaf (.ret, ⟨[(2, (.box [(.d (.int .i64 0)), (.d (.str [])), (.d (.int .i64 0)), (.d (.int .i64 0))])), (3, (.d (.int .i64 0))), (4, (.d (.int .i64 3)))], []⟩))
          (.leaf (.nrm, ⟨[(2, (.box [(.d (.int .i64 0)), (.d (.str [])), (.d (.int .i64 0)), (.d (.int .i64 0))])), (5, (.d (.int .i64 n))), (6, (.d (.int .i64 (IntKind.i64.wrap ((IntKind.i64.wrap (v * 10)) + (IntKind.i64.wrap (IntKind.u8.wrap (y1 - 48)))))))), (47, (.d (.sl 1 (ofBytes p)))), (48, (.d (.int .i64 m))), (49, (.d (.int .i64 (IntKind.i64.wrap (i + 1)))))], []⟩))))
      (.fail))
    (.leaf ((.ext 2), ⟨[(2, (.box [(.d (.int .i64 0)), (.d (.str [])), (.d (.int .i64 0)), (.d (.int .i64 0))])), (5, (.d (.int .i64 n))), (6, (.d (.int .i64 v)))], []⟩)) : Tr (Ex × ST)) := by kernel_rfl

theorem tree_number (s : List UInt8) : fnT Xnumber c_number Try.f24.results.toList [.d (.str s)] [] = (
    .br (decide (1 ≤ (1 : Int) ∧ (1 : Int) ≤ s.length ∧ (s.length : Int) ≤ big))
    (.br (decide (((1 : Int) + (lead s (s.drop (1 : Int).toNat) : Int)) < (s.length : Int)))
      (.br (decide ((0 : Int) ≤ ((1 : Int) + (lead s (s.drop (1 : Int).toNat) : Int))))
        (.opt (s[(Int.toNat ((1 : Int) + (lead s (s.drop (1 : Int).toNat) : Int)))]?) fun b1 => .br (isLetter (b1.toNat : Int))
          (.leaf ((.tup [(.agg [(.d (.int .i64 0)), (.d (.str [])), (.d (.int .i64 0)), (.d (.int .i64 0))]), (.d (.int .i64 0)), (.d (.int .i64 1))]), []))
          (.br (decide ((0 : Int) ≤ ((1 : Int) + (lead s (s.drop (1 : Int).toNat) : Int))))
            (.opt (s[(Int.toNat ((1 : Int) + (lead s (s.drop (1 : Int).toNat) : Int)))]?) fun b2 => .br (isDigit (b2.toNat : Int))
              (.leaf ((.tup [(.agg [(.d (.int .i64 0)), (.d (.str [])), (.d (.int .i64 0)), (.d (.int .i64 0))]), (.d (.int .i64 0)), (.d (.int .i64 1))]), []))
              (.br (decide ((0 : Int) ≤ 0 ∧ (0 : Int) ≤ ((1 : Int) + (lead s (s.drop (1 : Int).toNat) : Int)) ∧ ((1 : Int) + (lead s (s.drop (1 : Int).toNat) : Int)) ≤ (s.length : Int)))
                (.opt (unB (ofBytes (List.drop 0 (List.take (Int.toNat ((1 : Int) + (lead s (s.drop (1 : Int).toNat) : Int))) s)))) fun p3 => .br (decide (accPre p3 ((ofBytes (List.drop 0 (List.take (Int.toNat ((1 : Int) + (lead s (s.drop (1 : Int).toNat) : Int))) s))).length : Int) (0 : Int) (0 : Int)))
                  (.br ((accum (0 : Int) (p3.drop (0 : Int).toNat)).isNone)
                    (.leaf ((.tup [(.agg [(.d (.int .i64 0)), (.d (.str [])), (.d (.int .i64 0)), (.d (.int .i64 0))]), (.d (.int .i64 0)), (.d (.int .i64 3))]), []))
                    (.opt (accum (0 : Int) (p3.drop (0 : Int).toNat)) fun u4 => .leaf ((.tup [(.agg [(.d (.int .i64 2)), (.d (.str [])), (.d (.int .i64 u4)), (.d (.int .i64 0))]), (.d (.int .i64 ((1 : Int) + (lead s (s.drop (1 : Int).toNat) : Int)))), (.d (.int .i64 0))]), [])))
                  (.fail))
                (.fail)))
            (.fail)))
        (.fail))
      (.br (decide ((0 : Int) ≤ 0 ∧ (0 : Int) ≤ ((1 : Int) + (lead s (s.drop (1 : Int).toNat) : Int)) ∧ ((1 : Int) + (lead s (s.drop (1 : Int).toNat) : Int)) ≤ (s.length : Int)))
        (.opt (unB (ofBytes (List.drop 0 (List.take (Int.toNat ((1 : Int) + (lead s (s.drop (1 : Int).toNat) : Int))) s)))) fun p5 => .br (decide (accPre p5 ((ofBytes (List.drop 0 (List.take (Int.toNat ((1 : Int) + (lead s (s.drop (1 : Int).toNat) : Int))) s))).length : Int) (0 : Int) (0 : Int)))
          (.br ((accum (0 : Int) (p5.drop (0 : Int).toNat)).isNone)
            (.leaf ((.tup [(.agg [(.d (.int .i64 0)), (.d (.str [])), (.d (.int .i64 0)), (.d (.int .i64 0))]), (.d (.int .i64 0)), (.d (.int .i64 3))]), []))
            (.opt (accum (0 : Int) (p5.drop (0 : Int).toNat)) fun u6 => .leaf ((.tup [(.agg [(.d (.int .i64 2)), (.d (.str [])), (.d (.int .i64 u6)), (.d (.int .i64 0))]), (.d (.int .i64 ((1 : Int) + (lead s (s.drop (1 : Int).toNat) : Int)))), (.d (.int .i64 0))]), [])))
          (.fail))
        (.fail)))
    (.fail) : Tr (AV × Hp)) := by kernel_rfl


theorem wrap_u8 {n : Int} (h0 : 0 ≤ n) (h1 : n < 256) : IntKind.u8.wrap n = n := by
  simp [IntKind.wrap, IntKind.bits, IntKind.signed, IntKind.max]
  omega
theorem dig_in {b : UInt8} (h : isDig b = true) : 48 ≤ (b.toNat : Int) ∧ (b.toNat : Int) ≤ 57 := by simpa [isDig, isDigit] using h

abbrev ztok : AV := .box [.d (.int .i64 0), .d (.str []), .d (.int .i64 0), .d (.int .i64 0)]

theorem byte_ne {c : UInt8} {n : Nat} (hn : n < 256) (h : c ≠ UInt8.ofNat n) : ¬ ((c.toNat : Int) = n) := fun e => h (by
  apply UInt8.toNat_inj.1
  rw [UInt8.toNat_ofNat']; omega)

theorem sum_number_0 : SumOK Try.prog gl (ann 24) L_number_0 (.loop l_number_0) := by
  refine SumOK.of_inv (X := Xnumber) (xok_Xnumber 24) (by simp only [Sums, l_number_0, and_true]) (by kernel_rfl) (lv := [0, 2, 5]) (rt := [2, 3, 4]) (xs := [(0, [0, 2, 5])]) (by decide)
    (fun m st r => ∃ (s : List UInt8) (n : Nat), 1 ≤ n ∧ n ≤ s.length ∧ (s.length : Int) ≤ big ∧ st = ⟨[(0, .d (.str s)), (2, ztok), (5, .d (.int .i64 (n : Int)))], []⟩ ∧ r = (.ext 0, ⟨[(0, .d (.str s)), (2, ztok), (5, .d (.int .i64 ((n : Int) + (lead s (s.drop n) : Int))))], []⟩) ∧ m = s.length - n) ?_ ?_
  · intro st r h
    unfold L_number_0 at h
    split at h
    · rename_i s n
      rcases Tr.br_some h with ⟨h1, h2⟩ | ⟨_, h2⟩
      · obtain ⟨h3, h4, h5⟩ := of_decide_eq_true h1
        obtain rfl := Tr.leaf_some h2
        obtain ⟨k, rfl⟩ := Int.eq_ofNat_of_zero_le (show 0 ≤ n by omega)
        exact ⟨_, s, k, by omega, by omega, h5, rfl, by simp, rfl⟩
      · exact Tr.fail_some h2
    · exact Tr.fail_some h
  · rintro m st r ⟨s, n, h0, h1, h2, rfl, rfl, rfl⟩
    rw [body_number_0]
    have hw : n < s.length → IntKind.i64.wrap ((n : Int) + 1) = ((n + 1 : Nat) : Int) := fun h => by unfold big at h2; rw [wrap_in] <;> omega
    obtain ⟨c, hc⟩ : ∃ c, s[0]? = some c := ⟨s[0], List.getElem?_eq_getElem (by omega)⟩
    have hh : s.head? = some c := by rw [List.head?_eq_getElem?]; exact hc
    by_cases hz : c = 48
    · subst hz
      refine ⟨.ext 0, _, ?_, .inl ⟨by simp, rfl⟩⟩
      simp [Tr.run_br, Tr.run_leaf, Tr.run_opt_, hc, lead, hh]
    · have hz' : ¬ ((c.toNat : Int) = 48) := byte_ne (n := 48) (by decide) hz
      have hld : ∀ r, lead s r = pre isDig r := fun r => by unfold lead; rw [if_neg]; rw [hh]; intro h; exact hz (Option.some.inj h)
      cases hb : s[n]? with
      | none =>
        have hl : s.length ≤ n := by simpa using hb
        have he : s.drop n = [] := List.drop_eq_nil_of_le hl
        have h3 : ¬ ((n : Int) < s.length) := by omega
        refine ⟨.ext 0, _, ?_, .inl ⟨by simp, rfl⟩⟩
        simp [Tr.run_br, Tr.run_leaf, Tr.run_opt_, hc, hz', h3, hld, he, pre_nil]
      | some b =>
        have hl := at_len hb
        have h3 : ((n : Int) < s.length) := by omega
        cases hp : isDig b with
        | true =>
          have h5 : isDigit (b.toNat : Int) = true := hp
          refine ⟨.nrm, ⟨[(0, .d (.str s)), (2, ztok), (5, .d (.int .i64 ((n + 1 : Nat) : Int)))], []⟩, ?_, .inr ⟨rfl, _, ?_, s, n + 1, by omega, by omega, h2, rfl, ?_, rfl⟩⟩
          · simp [Tr.run_br, Tr.run_leaf, Tr.run_opt_, hc, hz', h3, hb, h5, hw hl]
          · omega
          · rw [hld, hld, pre_at_yes hb hp]; simp; omega
        | false =>
          have h5 : isDigit (b.toNat : Int) = false := hp
          refine ⟨.ext 0, _, ?_, .inl ⟨by simp, rfl⟩⟩
          rw [hld, pre_at_no hb hp]
          simp [Tr.run_br, Tr.run_leaf, Tr.run_opt_, hc, hz', h3, hb, h5]

theorem sum_number_1 : SumOK Try.prog gl (ann 24) L_number_1 (.loop l_number_1) := by
  refine SumOK.of_inv (X := Xnumber) (xok_Xnumber 24) (by simp only [Sums, l_number_1, and_true]) (by kernel_rfl) (lv := [2, 5, 6, 47, 48, 49]) (rt := [2, 3, 4]) (xs := [(2, [2, 5, 6])]) (by decide)
    (fun m st r => ∃ (p : List UInt8) (n v : Int) (i : Nat), i ≤ p.length ∧ (p.length : Int) ≤ big ∧ 0 ≤ v ∧ v ≤ 9223372036854775807 ∧ p.all isDig = true ∧
      st = ⟨[(2, ztok), (5, .d (.int .i64 n)), (6, .d (.int .i64 v)), (47, .d (.sl 1 (ofBytes p))), (48, .d (.int .i64 (p.length : Int))), (49, .d (.int .i64 (i : Int)))], []⟩ ∧
      r = (match accum v (p.drop i) with
        | none => (.ret, ⟨[(2, ztok), (3, .d (.int .i64 0)), (4, .d (.int .i64 3))], []⟩)
        | some u => (.ext 2, ⟨[(2, ztok), (5, .d (.int .i64 n)), (6, .d (.int .i64 u))], []⟩)) ∧ m = p.length - i) ?_ ?_
  · intro st r h
    unfold L_number_1 at h
    split at h
    · rename_i n v xs m i
      obtain ⟨p, hp, h'⟩ := Tr.opt_some h
      obtain rfl := unB_inv hp
      rcases Tr.br_some h' with ⟨h1, h2⟩ | ⟨_, h2⟩
      · obtain ⟨rfl, h3, h4, h5, h6, h7, h8⟩ := of_decide_eq_true h1
        obtain ⟨k, rfl⟩ := Int.eq_ofNat_of_zero_le h3
        refine ⟨_, p, n, v, k, by omega, h5, h6, h7, h8, rfl, ?_, rfl⟩
        simp only [Int.ofNat_eq_natCast, Int.toNat_natCast] at h2
        cases ha : accum v (p.drop k) with
        | none => rw [ha] at h2; exact (Tr.leaf_some h2).symm
        | some u => rw [ha] at h2; exact (Tr.leaf_some h2).symm
      · exact Tr.fail_some h2
    · exact Tr.fail_some h
  · rintro m st r ⟨p, n, v, i, h1, h2, h3, h4, h5, rfl, rfl, rfl⟩
    rw [body_number_1]
    unfold big at h2
    cases hb : p[i]? with
    | none =>
      have hl : p.length ≤ i := by simpa using hb
      have he : p.drop i = [] := List.drop_eq_nil_of_le hl
      have h6 : ¬ ((i : Int) < p.length) := by omega
      rw [he]
      refine ⟨.ext 2, _, ?_, .inl ⟨by simp, rfl⟩⟩
      simp [Tr.run_br, Tr.run_leaf, h6]
    | some b =>
      have hl := at_len hb
      have h6 : ((i : Int) < p.length) := by omega
      have hd := dig_in ((List.all_eq_true.1 h5) b (List.mem_of_getElem? hb))
      have w1 : IntKind.u8.wrap ((b.toNat : Int) - 48) = (b.toNat : Int) - 48 := wrap_u8 (by omega) (by omega)
      have w2 : IntKind.i64.wrap ((b.toNat : Int) - 48) = (b.toNat : Int) - 48 := wrap_in (by omega) (by omega)
      have w3 : IntKind.i64.wrap (9223372036854775807 - ((b.toNat : Int) - 48)) = 9223372036854775807 - ((b.toNat : Int) - 48) := wrap_in (by omega) (by omega)
      have w4 : Int.tdiv (9223372036854775807 - ((b.toNat : Int) - 48)) 10 = (9223372036854775807 - ((b.toNat : Int) - 48)) / 10 := Int.tdiv_eq_ediv_of_nonneg (by omega)
      have w5 : IntKind.i64.wrap ((9223372036854775807 - ((b.toNat : Int) - 48)) / 10) = (9223372036854775807 - ((b.toNat : Int) - 48)) / 10 := wrap_in (by omega) (by omega)
      have w6 : IntKind.i64.wrap ((i : Int) + 1) = ((i + 1 : Nat) : Int) := by rw [wrap_in] <;> omega
      rw [drop_at hb]
      simp only [Tr.run_br, Tr.run_leaf, Tr.run_opt_, ofBytes_at, Int.toNat_natCast, hb, Option.map_some, w1, w2, w3, w4, w5, w6, decide_eq_true_eq, h6, if_true, if_false, show ¬ ((10 : Int) = 0) by decide, show (0 : Int) ≤ (i : Int) by omega]
      by_cases hv : (9223372036854775807 - ((b.toNat : Int) - 48)) / 10 < v
      · rw [if_pos hv]
        exact ⟨.ret, _, rfl, .inl ⟨by simp, by simp only [accum, if_pos hv]⟩⟩
      · rw [if_neg hv]
        have w7 : IntKind.i64.wrap (v * 10) = v * 10 := wrap_in (by omega) (by omega)
        have w8 : IntKind.i64.wrap (v * 10 + ((b.toNat : Int) - 48)) = v * 10 + ((b.toNat : Int) - 48) := wrap_in (by omega) (by omega)
        refine ⟨.nrm, _, rfl, .inr ⟨rfl, p.length - (i + 1), by omega, p, n, v * 10 + ((b.toNat : Int) - 48), i + 1, by omega, by unfold big; omega, by omega, by omega, h5, ?_, ?_, rfl⟩⟩
        · rw [w7, w8]
        · simp only [accum, if_neg hv]

theorem lead_le {s : List UInt8} (h : 1 ≤ s.length) : numLen s ≤ s.length := by
  unfold numLen lead
  split
  · omega
  · have := pre_le isDig (s.drop 1)
    rw [List.length_drop] at this; omega

theorem take_digs {s : List UInt8} {c : UInt8} {r : List UInt8} (hs : s = c :: r) (hc : isDig c = true) : (s.take (numLen s)).all isDig = true := by
  subst hs
  simp only [numLen, List.drop_one, List.tail_cons, Nat.add_comm 1, List.take_succ_cons, List.all_cons, hc, Bool.true_and]
  unfold lead
  split
  · rfl
  · have : r.take (pre isDig r) = r.takeWhile isDig := by
      have := List.takeWhile_prefix (l := r) isDig
      rw [List.prefix_iff_eq_take] at this
      exact this.symm
    rw [this]
    exact List.all_takeWhile

theorem num_fin (s : List UInt8) (n : Nat) : (Tr.run (.br ((accum 0 (s.take n)).isNone)
      (.leaf ((AV.tup [.agg [.d (.int .i64 0), .d (.str []), .d (.int .i64 0), .d (.int .i64 0)], .d (.int .i64 0), .d (.int .i64 3)]), ([] : Hp)))
      (.opt (accum 0 (s.take n)) fun u4 => .leaf ((AV.tup [.agg [.d (.int .i64 2), .d (.str []), .d (.int .i64 u4), .d (.int .i64 0)], .d (.int .i64 n), .d (.int .i64 0)]), ([] : Hp))))) =
    let r : TR := match accum 0 (s.take n) with | none => ⟨0, [], 0, 0, 3⟩ | some v => ⟨2, [], v, n, 0⟩
    some ((AV.tup [.agg [.d (.int .i64 r.kd), .d (.str r.tx), .d (.int .i64 r.vl), .d (.int .i64 0)], .d (.int .i64 r.ln), .d (.int .i64 r.er)]), ([] : Hp)) := by
  cases accum 0 (s.take n) <;> rfl

theorem ok_number : FnOK Try.prog gl 24 numberT := by
  refine fn_of (X := Xnumber) (xok_Xnumber 24) Try.func24 c_number_eq (by kernel_rfl) (by simp only [Sums, c_number, and_true, true_and]; exact ⟨sum_number_0, sum_number_1⟩) ?_
  intro xs H o h
  unfold numberT at h
  split at h
  · rw [tree_number]
    rcases Tr.br_some h with ⟨h1, h2⟩ | ⟨_, h2⟩
    · obtain rfl := Tr.leaf_some h2
      rename_i s
      simp only [numPre, Bool.and_eq_true, decide_eq_true_eq] at h1
      obtain ⟨h3, h4⟩ := h1
      cases s with
      | nil => cases h4
      | cons c r =>
        have hl : numLen (c :: r) ≤ (c :: r).length := lead_le (by simp)
        have hd := take_digs (s := c :: r) rfl h4
        have e : ((1 : Int) + (lead (c :: r) ((c :: r).drop (1 : Int).toNat) : Int)) = (numLen (c :: r) : Int) := by simp [numLen]
        rw [e]
        have hp : accPre ((c :: r).take (numLen (c :: r))) ((ofBytes ((c :: r).take (numLen (c :: r)))).length : Int) 0 0 := by
          refine ⟨by rw [ofBytes_len], by omega, by omega, ?_, by omega, by omega, hd⟩
          rw [List.length_take]; unfold big at *; omega
        generalize hs : c :: r = s at *
        generalize hn : numLen s = n at *
        have h1 : (1 : Int) ≤ s.length := by rw [← hs]; simp; omega
        have h0 : (n : Int) ≤ s.length := by omega
        have hres := num_fin s n
        simp only at hres
        cases hb : s[n]? with
        | none =>
          have hge : ¬ ((n : Int) < s.length) := by have : s.length ≤ n := by simpa using hb
                                                    omega
          have hw : wordAt s n = false := by simp [wordAt, hb]
          simp only [Tr.run_br, Tr.run_leaf, Tr.run_opt_, hge, h1, h3, h0, hp, decide_eq_true_eq, if_true, if_false, Int.toNat_natCast, List.drop_zero, unB_of, and_self, Int.le_refl, true_and, show (0 : Int) ≤ (n : Int) by omega, numRes, hn, hw, Bool.false_eq_true, show (0 : Int).toNat = 0 by rfl] at hres ⊢
          exact hres
        | some b =>
          have hlt : ((n : Int) < s.length) := by have := at_len hb; omega
          cases hbl : isLetter (b.toNat : Int) with
          | true =>
            have hw : wordAt s n = true := by simp [wordAt, hb, isWord, isLet, hbl]
            simp only [Tr.run_br, Tr.run_leaf, Tr.run_opt_, hlt, h1, h3, h0, decide_eq_true_eq, if_true, if_false, Int.toNat_natCast, and_self, Int.le_refl, true_and, show (0 : Int) ≤ (n : Int) by omega, numRes, hn, hw, hb, hbl]
          | false =>
            cases hbd : isDigit (b.toNat : Int) with
            | true =>
              have hw : wordAt s n = true := by simp [wordAt, hb, isWord, isDig, hbd]
              simp only [Tr.run_br, Tr.run_leaf, Tr.run_opt_, hlt, h1, h3, h0, decide_eq_true_eq, if_true, if_false, Int.toNat_natCast, and_self, Int.le_refl, true_and, show (0 : Int) ≤ (n : Int) by omega, numRes, hn, hw, hb, hbl, hbd, Bool.false_eq_true]
            | false =>
              have hw : wordAt s n = false := by simp [wordAt, hb, isWord, isLet, isDig, hbl, hbd]
              simp only [Tr.run_br, Tr.run_leaf, Tr.run_opt_, hlt, h1, h3, h0, hp, decide_eq_true_eq, if_true, if_false, Int.toNat_natCast, List.drop_zero, unB_of, and_self, Int.le_refl, true_and, show (0 : Int) ≤ (n : Int) by omega, numRes, hn, hw, hb, hbl, hbd, Bool.false_eq_true, show (0 : Int).toNat = 0 by rfl] at hres ⊢
              exact hres
    · exact Tr.fail_some h2
  · exact Tr.fail_some h

end Go.AI.TK
