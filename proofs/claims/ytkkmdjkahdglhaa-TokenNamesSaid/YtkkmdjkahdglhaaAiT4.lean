import Derived.Test.YtkkmdjkahdglhaaAiT3
namespace Go.AI.T3
open Go Go.Proofs
set_option linter.unusedVariables false
set_option linter.unusedSimpArgs false

noncomputable abbrev F (k f : Nat) (xs : List AV) (H : Hp) := callF Try.prog iso (fun _ => none) ann k f xs H

def chkB (r : Option (AV × Hp)) (b : Bool) : Bool := match r with | some (.d (.bool x), []) => x == b | _ => false
theorem chkB_spec {r : Option (AV × Hp)} {b : Bool} (h : chkB r b = true) : r = some (.d (.bool b), []) := by
  unfold chkB at h
  split at h
  · rename_i x; simp at h; rw [h]
  · simp at h

theorem byteAll {p : Nat → Bool} (h : (List.range 256).all p = true) (b : UInt8) : p b.toNat = true :=
  (List.all_eq_true.1 h) _ (List.mem_range.2 b.toNat_lt)

def isLetter (n : Nat) : Bool := (decide (97 ≤ n) && decide (n ≤ 122)) || (decide (65 ≤ n) && decide (n ≤ 90)) || decide (n = 95)
def isDigit (n : Nat) : Bool := decide (48 ≤ n) && decide (n ≤ 57)

theorem letter_all (k : Nat) : ((List.range 256).all fun n => chkB (F (k + 1) 19 [.d (.int .u8 n)] []) (isLetter n)) = true := by kernel_rfl
theorem digit_all (k : Nat) : ((List.range 256).all fun n => chkB (F (k + 1) 23 [.d (.int .u8 n)] []) (isDigit n)) = true := by kernel_rfl
theorem letter_eq (k : Nat) (b : UInt8) : F (k + 1) 19 [.d (.int .u8 b.toNat)] [] = some (.d (.bool (isLetter b.toNat)), []) := chkB_spec (byteAll (letter_all k) b)
theorem digit_eq (k : Nat) (b : UInt8) : F (k + 1) 23 [.d (.int .u8 b.toNat)] [] = some (.d (.bool (isDigit b.toNat)), []) := chkB_spec (byteAll (digit_all k) b)
end Go.AI.T3
