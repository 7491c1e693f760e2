/- The drawn bytes, in sum. -/
import Derived.Test.YtkkmdjkahdglhaaDoorTdO
import Derived.Test.YtkkmdjkahdglhaaDoorTdRow
import Derived.Test.YtkkmdjkahdglhaaDoorAxPoke
import Derived.OpenShut
namespace Go.AI.TD
open Go Go.Proofs
set_option maxRecDepth 10000
set_option linter.unusedVariables false
set_option linter.unusedSimpArgs false

def unU8 : DV → Option UInt8
  | .int .u8 n => if 0 ≤ n ∧ n < 256 then some (UInt8.ofNat n.toNat) else none
  | _ => none
def encU8 (b : UInt8) : DV := .int .u8 (b.toNat : Int)
theorem unU8_enc (b : UInt8) : unU8 (encU8 b) = some b := by
  have h := b.toNat_lt
  simp [unU8, encU8]
  omega
theorem unU8_ok : ∀ x y, unU8 x = some y → x = encU8 y := by
  intro x y h
  unfold unU8 at h
  split at h
  · rename_i n
    split at h
    · rename_i hn
      obtain rfl := Option.some.inj h
      unfold encU8
      congr 1
      rw [UInt8.toNat_ofNat_of_lt' (by show n.toNat < 256; omega)]
      omega
    · simp at h
  · simp at h

/-- A draw. -/
def nx (n : Nat) : List UInt8 → Nat × List UInt8
  | [] => (0, [])
  | b :: r => (b.toNat % n, r)
def atOf (s r : List UInt8) : Int := (s.length : Int) - r.length
theorem nx_lt {n : Nat} (h : 0 < n) (r : List UInt8) : (nx n r).1 < n := by
  cases r with
  | nil => exact h
  | cons b r => exact Nat.mod_lt _ h
theorem nx_suf (n : Nat) (r : List UInt8) : (nx n r).2 <:+ r := by
  cases r with
  | nil => exact List.suffix_refl _
  | cons b r => exact List.suffix_cons b r

def leftT : FT
  | [.hp 0 0], [[.d (.sl 1 xs), .d (.int .i64 a)]] => .leaf (.d (.bool (decide (a < xs.length))), [[.d (.sl 1 xs), .d (.int .i64 a)]])
  | _, _ => .fail

noncomputable abbrev Xs0 : TX := ⟨Tryd.prog, tbl [], iso, gl, vw⟩

theorem xok_Xs0 (f : Nat) : XOK Xs0 (ann f) gl := XOK.of base (l := []) trivial f

/-- (*rollbacknet/rollbacknetmake.Codes).Left -/
def c_left : CC := .seq (.region [
    ⟨.yes, (some 2), .assign (.const (.bool false)), false, false, []⟩] [0]) <|
  .seq (.drawn ⟨[10], [], [2]⟩ [
    ⟨(some 3), .move (.tmp 0), 32, "make.go:26", #[], none⟩,
    ⟨(some 4), .nilCheck (.tmp 3), 0, "make.go:26", #[⟨0, .data⟩], none⟩,
    ⟨(some 5), .fieldAddr 54 (.tmp 4) 1, 0, "make.go:26", #[⟨1, .data⟩], none⟩,
    ⟨(some 6), .load 3 (.tmp 5), 3, "make.go:26", #[⟨2, .data⟩], none⟩,
    ⟨(some 7), .move (.tmp 0), 32, "make.go:26", #[], none⟩,
    ⟨(some 8), .nilCheck (.tmp 7), 0, "make.go:26", #[⟨4, .data⟩], none⟩,
    ⟨(some 9), .fieldAddr 54 (.tmp 8) 0, 0, "make.go:26", #[⟨5, .data⟩], none⟩,
    ⟨(some 10), .load 31 (.tmp 9), 31, "make.go:26", #[⟨6, .data⟩], none⟩,
    ⟨(some 11), .call ⟨.builtin .len, #[(.tmp 10)], #[31]⟩, 3, "make.go:26", #[⟨7, .data⟩], none⟩,
    ⟨(some 12), .binOp .lss 3 (.tmp 6) (.tmp 11) 3, 4, "make.go:26", #[⟨3, .data⟩, ⟨8, .data⟩], none⟩,
    ⟨(some 2), .assign (.tmp 12), 4, "make.go:26", #[⟨9, .data⟩, ⟨0, .phase⟩, ⟨1, .phase⟩, ⟨2, .phase⟩, ⟨3, .phase⟩, ⟨4, .phase⟩, ⟨5, .phase⟩, ⟨6, .phase⟩, ⟨7, .phase⟩, ⟨8, .phase⟩, ⟨9, .phase⟩], none⟩]) <|
  .ret

theorem c_left_eq : ∃ c, Tryd.f23.body = some c ∧ codeOK Tryd.f23.ntmps c = true ∧ comp Tryd.prog (ann 23) c = erase c_left := ⟨_, rfl, by kernel_rfl, by kernel_rfl⟩

theorem tree_left (xs : List DV) (a : Int) : fnT Xs0 c_left Tryd.f23.results.toList [.hp 0 0] [[.d (.sl 1 xs), .d (.int .i64 a)]] = (
    .leaf (.d (.bool (decide (a < (xs.length : Int)))), [[.d (.sl 1 xs), .d (.int .i64 a)]]) : Tr (AV × Hp)) := by kernel_rfl

theorem ok_left : FnOK Tryd.prog gl 23 leftT := by
  refine fn_of (X := Xs0) (xok_Xs0 23) Tryd.func23 c_left_eq (by kernel_rfl) (by simp only [Sums, c_left, and_true]) ?_
  intro xs H o h
  unfold leftT at h
  split at h
  · rename_i xs a
    rw [tree_left]
    exact h
  · exact Tr.fail_some h

def nextT : FT
  | [.hp 0 0, .d (.int .i64 n)], [[.d (.sl 1 xs), .d (.int .i64 a)]] => .opt (unL unU8 xs) fun s => .br (decide (0 ≤ a ∧ a ≤ s.length ∧ (s.length : Int) ≤ 100000 ∧ 0 < n ∧ n ≤ 256)) (.leaf (.d (.int .i64 ((nx n.toNat (s.drop a.toNat)).1 : Int)), [[.d (.sl 1 xs), .d (.int .i64 (atOf s (nx n.toNat (s.drop a.toNat)).2))]])) .fail
  | _, _ => .fail

noncomputable abbrev Xsn : TX := ⟨Tryd.prog, tbl [(23, leftT)], iso, gl, vw⟩

theorem xok_Xsn (f : Nat) : XOK Xsn (ann f) gl := XOK.of base (l := [(23, leftT)]) ⟨ok_left, trivial⟩ f

/-- (*rollbacknet/rollbacknetmake.Codes).Next -/
def c_next : CC := .seq (.region [
    ⟨.yes, (some 4), .assign (.const (.int .i64 (0))), false, false, []⟩] [0, 1]) <|
  .seq (.seq (.region [
    ⟨.yes, (some 5), .move (.tmp 0), false, false, []⟩,
    ⟨.yes, (some 6), .call ⟨.value (.func 23), #[(.tmp 5)], #[32]⟩, false, false, []⟩,
    ⟨.yes, (some 7), .unOp .not 4 (.tmp 6), false, false, []⟩] [0, 1, 7]) <|
  .cond (.tmp 7)
    (.seq (.region [
      ⟨.yes, (some 4), .assign (.const (.int .i64 (0))), false, false, []⟩] [4]) <|
    .ret)
    (.skip)) <|
  .seq (.region [
    ⟨.yes, (some 8), .move (.tmp 0), false, false, []⟩,
    ⟨.yes, (some 9), .nilCheck (.tmp 8), false, false, []⟩,
    ⟨.yes, (some 10), .fieldAddr 54 (.tmp 9) 1, false, false, []⟩,
    ⟨.yes, (some 11), .load 3 (.tmp 10), false, false, []⟩,
    ⟨.yes, (some 12), .binOp .add 3 (.tmp 11) (.const (.int .i64 (1))) 3, false, false, []⟩,
    ⟨.yes, (some 13), .nilCheck (.tmp 8), false, false, []⟩,
    ⟨.yes, (some 14), .fieldAddr 54 (.tmp 13) 1, false, false, []⟩,
    ⟨.yes, none, .store 3 (.tmp 14) (.tmp 12), true, false, []⟩] [0, 1]) <|
  .seq (.drawn ⟨[12, 14], [], [4]⟩ [
    ⟨(some 15), .move (.tmp 0), 32, "make.go:34", #[], none⟩,
    ⟨(some 16), .nilCheck (.tmp 15), 0, "make.go:34", #[⟨0, .data⟩], none⟩,
    ⟨(some 17), .fieldAddr 54 (.tmp 16) 0, 0, "make.go:34", #[⟨1, .data⟩], none⟩,
    ⟨(some 18), .load 31 (.tmp 17), 31, "make.go:34", #[⟨2, .data⟩], none⟩,
    ⟨(some 19), .move (.tmp 0), 32, "make.go:34", #[], none⟩,
    ⟨(some 20), .nilCheck (.tmp 19), 0, "make.go:34", #[⟨4, .data⟩], none⟩,
    ⟨(some 21), .fieldAddr 54 (.tmp 20) 1, 0, "make.go:34", #[⟨5, .data⟩], none⟩,
    ⟨(some 22), .load 3 (.tmp 21), 3, "make.go:34", #[⟨6, .data⟩], none⟩,
    ⟨(some 23), .binOp .sub 3 (.tmp 22) (.const (.int .i64 (1))) 3, 3, "make.go:34", #[⟨7, .data⟩], none⟩,
    ⟨(some 24), .indexAddr 31 (.tmp 18) (.tmp 23), 0, "make.go:34", #[⟨3, .data⟩, ⟨8, .data⟩], none⟩,
    ⟨(some 25), .load 5 (.tmp 24), 5, "make.go:34", #[⟨9, .data⟩], none⟩,
    ⟨(some 26), .convert 5 3 (.tmp 25), 3, "make.go:34", #[⟨10, .data⟩], none⟩,
    ⟨(some 27), .move (.tmp 1), 3, "make.go:34", #[], none⟩,
    ⟨(some 28), .binOp .rem 3 (.tmp 26) (.tmp 27) 3, 3, "make.go:34", #[⟨11, .data⟩, ⟨12, .data⟩], none⟩,
    ⟨(some 4), .assign (.tmp 28), 3, "make.go:34", #[⟨13, .data⟩, ⟨0, .phase⟩, ⟨1, .phase⟩, ⟨2, .phase⟩, ⟨3, .phase⟩, ⟨4, .phase⟩, ⟨5, .phase⟩, ⟨6, .phase⟩, ⟨7, .phase⟩, ⟨8, .phase⟩, ⟨9, .phase⟩, ⟨10, .phase⟩, ⟨11, .phase⟩, ⟨12, .phase⟩, ⟨13, .phase⟩], none⟩]) <|
  .ret

theorem c_next_eq : ∃ c, Tryd.f14.body = some c ∧ codeOK Tryd.f14.ntmps c = true ∧ comp Tryd.prog (ann 14) c = erase c_next := ⟨_, rfl, by kernel_rfl, by kernel_rfl⟩

theorem tree_next (xs : List DV) (n a : Int) : fnT Xsn c_next Tryd.f14.results.toList [.hp 0 0, .d (.int .i64 n)] [[.d (.sl 1 xs), .d (.int .i64 a)]] = (
    .br (!(decide (a < xs.length)))
 (.leaf (.d (.int .i64 0), [[.d (.sl 1 xs), .d (.int .i64 a)]]))
 (.br (decide ((0 : Int) ≤ (IntKind.i64.wrap ((IntKind.i64.wrap (a + 1)) - 1))))
 (.opt ((xs[(Int.toNat (IntKind.i64.wrap ((IntKind.i64.wrap (a + 1)) - 1)))]?).bind (unInt .u8)) fun y1 => .br (decide (n = 0))
 (.fail)
 (.leaf (.d (.int .i64 (Int.tmod (IntKind.i64.wrap (y1)) n)), [[.d (.sl 1 xs), .d (.int .i64 (IntKind.i64.wrap (a + 1)))]])))
 (.fail)) : Tr (AV × Hp)) := by kernel_rfl


theorem at_u8 {s : List UInt8} {i : Nat} {b : UInt8} (h : s[i]? = some b) : ((s.map encU8)[i]?).bind (unInt .u8) = some (b.toNat : Int) := by
  simp [h, encU8, unInt]

theorem ok_next : FnOK Tryd.prog gl 14 nextT := by
  refine fn_of (X := Xsn) (xok_Xsn 14) Tryd.func14 c_next_eq (by kernel_rfl) (by simp only [Sums, c_next, and_true]) ?_
  intro xs H o h
  unfold nextT at h
  split at h
  · rename_i n xs a
    rw [tree_next]
    obtain ⟨s, hs, h⟩ := Tr.opt_some h
    obtain rfl := unL_inv unU8_ok hs
    rcases Tr.br_some h with ⟨h1, h2⟩ | ⟨_, h2⟩
    · obtain ⟨⟨h3, h4, h5⟩, h6, h7⟩ : (0 ≤ a ∧ a ≤ s.length ∧ (s.length : Int) ≤ 100000) ∧ 0 < n ∧ n ≤ 256 := by
        have := of_decide_eq_true h1
        omega
      obtain rfl := Tr.leaf_some h2
      obtain ⟨k, rfl⟩ := Int.eq_ofNat_of_zero_le h3
      obtain ⟨m, rfl⟩ := Int.eq_ofNat_of_zero_le (Int.le_of_lt h6)
      simp only [Int.toNat_natCast, List.length_map]
      cases hb : s[k]? with
      | none =>
        have hl : s.length ≤ k := by simpa using hb
        have he : s.drop k = [] := List.drop_eq_nil_of_le hl
        have hk : (k : Int) = s.length := by omega
        have h9 : ¬ ((k : Int) < s.length) := by omega
        simp [Tr.run_br, Tr.run_leaf, h9, he, nx, atOf, hk]
      | some b =>
        have hl := (List.getElem?_eq_some_iff.1 hb).1
        have h9 : (k : Int) < s.length := by omega
        have hd : s.drop k = b :: s.drop (k + 1) := by
          rw [List.drop_eq_getElem_cons hl]; congr 1; exact (List.getElem?_eq_some_iff.1 hb).2
        have w1 : IntKind.i64.wrap ((k : Int) + 1) = (k : Int) + 1 := by rw [wrap_in] <;> omega
        have w2 : IntKind.i64.wrap ((k : Int) + 1 - 1) = (k : Int) := by rw [wrap_in] <;> omega
        have hbn := b.toNat_lt
        have w3 : IntKind.i64.wrap (b.toNat : Int) = (b.toNat : Int) := by rw [wrap_in] <;> omega
        have w4 : Int.tmod (b.toNat : Int) (m : Int) = ((b.toNat % m : Nat) : Int) := rfl
        have h10 : atOf s (s.drop (k + 1)) = (k : Int) + 1 := by simp [atOf]; omega
        rw [w1, w2, hd]
        refine Tr.run_no (by simp [h9]) |>.trans (Tr.dec_yes h3 (Tr.opt_to (at_u8 hb) (Tr.dec_no (by omega) ?_)))
        rw [w3, w4]
        simp only [nx, h10]
        rfl
    · exact Tr.fail_some h2
  · exact Tr.fail_some h

def newT : FT
  | [.d (.sl 1 xs), .d (.int .i64 m)], [] => .opt (unL unU8 xs) fun s => .br (decide (0 ≤ m)) (.leaf (.hp 0 0, [[.d (.sl 1 ((s.take m.toNat).map encU8)), .d (.int .i64 0)]])) .fail
  | _, _ => .fail

noncomputable abbrev Xs1 : TX := ⟨Tryd.prog, tbl [], iso, gl, vw⟩

theorem xok_Xs1 (f : Nat) : XOK Xs1 (ann f) gl := XOK.of base (l := []) trivial f

/-- rollbacknet/rollbacknetmake.New -/
def c_new : CC := .seq (.region [
    ⟨.yes, (some 4), .assign (.const (.pointer none)), false, false, []⟩] [0, 1]) <|
  .seq (.seq (.region [
    ⟨.yes, (some 5), .move (.tmp 0), false, false, [(some 1)]⟩,
    ⟨.yes, (some 6), .call ⟨.builtin .len, #[(.tmp 5)], #[31]⟩, false, false, []⟩,
    ⟨.yes, (some 7), .move (.tmp 1), false, false, []⟩,
    ⟨.yes, (some 8), .binOp .gtr 3 (.tmp 6) (.tmp 7) 3, false, false, []⟩] [0, 1, 8]) <|
  .cond (.tmp 8)
    (.region [
      ⟨.yes, (some 9), .move (.tmp 0), true, false, [(some 1)]⟩,
      ⟨.yes, (some 10), .move (.tmp 1), true, false, []⟩,
      ⟨.yes, (some 11), .slice 31 (.tmp 9) none (some (.tmp 10)) none, false, false, [(some 1)]⟩,
      ⟨.yes, (some 0), .assign (.tmp 11), true, false, [(some 1)]⟩] [0])
    (.skip)) <|
  .seq (.region [
    ⟨.yes, (some 12), .move (.tmp 0), true, false, [(some 1)]⟩,
    ⟨.yes, (some 13), .build 54 #[(0, (.tmp 12))], true, false, [(some 1), none]⟩,
    ⟨.yes, (some 14), .box 54 (.tmp 13), true, true, []⟩,
    ⟨.yes, (some 4), .assign (.tmp 14), false, false, []⟩] [4, 14]) <|
  .ret

theorem c_new_eq : ∃ c, Tryd.f13.body = some c ∧ codeOK Tryd.f13.ntmps c = true ∧ comp Tryd.prog (ann 13) c = erase c_new := ⟨_, rfl, by kernel_rfl, by kernel_rfl⟩

theorem tree_new (xs : List DV) (m : Int) : fnT Xs1 c_new Tryd.f13.results.toList [.d (.sl 1 xs), .d (.int .i64 m)] [] = (
    .br (decide (m < (xs.length : Int)))
 (.br (decide ((0 : Int) ≤ 0 ∧ (0 : Int) ≤ m ∧ m ≤ (xs.length : Int)))
 (.leaf (.hp 0 0, [[.d (.sl 1 (List.drop 0 (List.take (Int.toNat m) xs))), .d (.int .i64 0)]]))
 (.fail))
 (.leaf (.hp 0 0, [[.d (.sl 1 xs), .d (.int .i64 0)]])) : Tr (AV × Hp)) := by kernel_rfl

theorem ok_new : FnOK Tryd.prog gl 13 newT := by
  refine fn_of (X := Xs1) (xok_Xs1 13) Tryd.func13 c_new_eq (by kernel_rfl) (by simp only [Sums, c_new, and_true]) ?_
  intro xs H o h
  unfold newT at h
  split at h
  · rename_i xs m
    rw [tree_new]
    obtain ⟨s, hs, h0⟩ := Tr.opt_some h
    obtain rfl := unL_inv unU8_ok hs
    rcases Tr.br_some h0 with ⟨h1, h2⟩ | ⟨_, h2⟩
    · have h3 := of_decide_eq_true h1
      obtain rfl := Tr.leaf_some h2
      obtain ⟨k, rfl⟩ := Int.eq_ofNat_of_zero_le h3
      by_cases h4 : (k : Int) < ((s.map encU8).length : Int)
      · refine Tr.dec_yes h4 (Tr.dec_yes ⟨by omega, h3, by omega⟩ ?_)
        simp [Tr.run_leaf, List.map_take]
      · refine Tr.dec_no h4 ?_
        have h5 : s.length ≤ k := by simp at h4; omega
        simp [Tr.run_leaf, List.take_of_length_le h5]
    · exact Tr.fail_some h2
  · exact Tr.fail_some h

end Go.AI.TD

/- TokenBlanks: its trees. -/
namespace Go.AI.TD
open Go Go.Proofs
set_option maxRecDepth 100000
set_option linter.unusedVariables false
set_option linter.unusedSimpArgs false

/-- The seven blanks. -/
def fills : List (List UInt8) := [[32], [10], [9, 32], [32, 35, 32, 110, 111, 116, 101, 59, 32, 53, 32, 64, 10], [13, 10], [35, 10], [32, 32]]
/-- The tokens, and the blanks that are drawn. -/
def weaveC : List Tok → List UInt8 → List (Tok × List UInt8)
  | [], _ => []
  | t :: r, c => (t, fills.getD (nx 7 c).1 []) :: weaveC r (nx 7 c).2
def endC : List Tok → List UInt8 → List UInt8
  | [], c => c
  | _ :: r, c => endC r (nx 7 c).2
def blPre (l : List Tok) (c : List UInt8) (q : List (List UInt8)) (o : List UInt8) (len n a : Int) : Prop :=
  q = fills ∧ len = l.length ∧ (l.length : Int) ≤ 4096 ∧ 0 ≤ n ∧ n ≤ l.length ∧ l.all inR = true ∧ 0 ≤ a ∧ a ≤ c.length ∧ (c.length : Int) ≤ 200 ∧ ((o ++ weave (weaveC (l.drop n.toNat) (c.drop a.toNat))).length : Int) ≤ 100000
instance (l : List Tok) (c : List UInt8) (q : List (List UInt8)) (o : List UInt8) (len n a : Int) : Decidable (blPre l c q o len n a) := by unfold blPre; infer_instance
noncomputable abbrev Xbl : TX := ⟨Tryd.prog, tbl [(8, awakeT), (11, scanT), (9, printT), (12, rsameT), (13, newT), (14, nextT)], iso, gl, vw⟩

theorem xok_Xbl (f : Nat) : XOK Xbl (ann f) gl := XOK.of base (l := [(8, awakeT), (11, scanT), (9, printT), (12, rsameT), (13, newT), (14, nextT)]) ⟨ok_awake, ok_scan, ok_print, ok_rsame, ok_new, ok_next, trivial⟩ f

def L_lblanks_0 : ST → Tr (Ex × ST)
  | ⟨[(5, .d (.sl 4 xs)), (8, .hp 0 0), (9, .osl 1 fs), (10, .d (.str o)), (39, .d (.int .i64 len)), (40, .d (.int .i64 n))], [[.d (.sl 1 cs), .d (.int .i64 a)]]⟩ => .opt (unToks xs) fun l => .opt (unL unU8 cs) fun c => .opt (unL unStr fs) fun q => .br (decide (blPre l c q o len n a)) (.leaf ((.ext 0), ⟨[(5, .d (.sl 4 xs)), (10, .d (.str (o ++ weave (weaveC (l.drop n.toNat) (c.drop a.toNat)))))], [[.d (.sl 1 cs), .d (.int .i64 (atOf c (endC (l.drop n.toNat) (c.drop a.toNat))))]]⟩)) .fail
  | _ => .fail

def l_lblanks_0 : CC := .seq (.region [
    ⟨.yes, (some 41), .binOp .lss 3 (.tmp 40) (.tmp 39) 3, false, false, []⟩] [5, 8, 9, 10, 39, 40, 41]) <|
  .seq (.cond (.tmp 41)
    (.skip)
    (.exit 0)) <|
  .seq (.block 1 <| .seq (.region [
    ⟨.yes, (some 42), .move (.tmp 40), false, false, []⟩,
    ⟨.yes, (some 11), .assign (.tmp 42), true, false, []⟩] [5, 8, 9, 10, 11, 39, 40]) <|
  .region [
    ⟨.yes, (some 43), .move (.tmp 10), true, false, []⟩,
    ⟨.yes, (some 44), .move (.tmp 5), false, false, [(some 4)]⟩,
    ⟨.yes, (some 45), .move (.tmp 11), false, false, []⟩,
    ⟨.yes, (some 46), .move (.tmp 11), true, false, []⟩,
    ⟨.yes, (some 47), .binOp .add 3 (.tmp 46) (.const (.int .i64 (1))) 3, false, false, []⟩,
    ⟨.yes, (some 48), .slice 22 (.tmp 44) (some (.tmp 45)) (some (.tmp 47)) none, false, false, [(some 4)]⟩,
    ⟨.yes, (some 49), .call ⟨.value (.func 9), #[(.tmp 48)], #[22]⟩, false, false, []⟩,
    ⟨.yes, (some 50), .move (.tmp 9), false, false, [(some 1)]⟩,
    ⟨.yes, (some 51), .move (.tmp 8), false, false, []⟩,
    ⟨.yes, (some 52), .call ⟨.value (.func 14), #[(.tmp 51), (.const (.int .i64 (7)))], #[32, 3]⟩, false, false, []⟩,
    ⟨.yes, (some 53), .indexAddr 34 (.tmp 50) (.tmp 52), false, false, []⟩,
    ⟨.yes, (some 54), .load 9 (.tmp 53), false, false, []⟩,
    ⟨.yes, (some 55), .binOp .add 9 (.tmp 49) (.tmp 54) 9, false, false, []⟩,
    ⟨.yes, (some 56), .binOp .add 9 (.tmp 43) (.tmp 55) 9, false, false, []⟩,
    ⟨.yes, (some 10), .assign (.tmp 56), true, false, []⟩] [5, 8, 9, 10, 39, 40]) <|
  .region [
    ⟨.yes, (some 57), .binOp .add 3 (.tmp 40) (.const (.int .i64 (1))) 3, false, false, []⟩,
    ⟨.yes, (some 40), .move (.tmp 57), true, false, []⟩] [5, 8, 9, 10, 39, 40]

/-- rollbacknet/rollbacknetlaw01.TokenBlanks -/
def c_lblanks : CC := .seq (.region [
    ⟨.yes, (some 4), .assign (.const (.bool false)), false, false, []⟩] [0, 1]) <|
  .seq (.seq (.region [
    ⟨.yes, (some 15), .call ⟨.value (.func 8), #[], #[]⟩, false, false, []⟩,
    ⟨.yes, (some 16), .unOp .not 4 (.tmp 15), false, false, []⟩] [0, 1, 16]) <|
  .cond (.tmp 16)
    (.seq (.region [
      ⟨.yes, (some 4), .assign (.const (.bool false)), false, false, []⟩] [4]) <|
    .ret)
    (.skip)) <|
  .seq (.region [
    ⟨.yes, (some 18), .move (.tmp 0), false, false, []⟩,
    ⟨.yes, (some 19), .call ⟨.value (.func 11), #[(.tmp 18)], #[9]⟩, false, false, []⟩,
    ⟨.yes, (some 17), .move (.tmp 19), true, false, []⟩,
    ⟨.yes, (some 20), .extract (.tmp 17) 0, false, false, [(some 4)]⟩,
    ⟨.yes, (some 21), .extract (.tmp 17) 1, false, false, []⟩,
    ⟨.yes, (some 22), .extract (.tmp 17) 2, false, false, []⟩,
    ⟨.yes, (some 5), .assign (.tmp 20), true, false, [(some 4)]⟩,
    ⟨.yes, (some 6), .assign (.tmp 21), true, false, []⟩,
    ⟨.yes, (some 7), .assign (.tmp 22), true, false, []⟩] [0, 1, 5, 7]) <|
  .seq (.seq (.region [
    ⟨.yes, (some 23), .move (.tmp 7), true, false, []⟩,
    ⟨.yes, (some 24), .binOp .neq 26 (.tmp 23) (.const (.int .i64 (0))) 26, false, false, []⟩,
    ⟨.yes, (some 25), .move (.tmp 24), true, false, []⟩,
    ⟨(.on 25 false), (some 26), .move (.tmp 0), true, false, []⟩,
    ⟨(.on 25 false), (some 27), .call ⟨.builtin .len, #[(.tmp 26)], #[9]⟩, false, false, []⟩,
    ⟨(.on 25 false), (some 28), .binOp .gtr 3 (.tmp 27) (.const (.int .i64 (400))) 3, false, false, []⟩,
    ⟨.yes, (some 29), .pick (.tmp 25) (.const (.bool true)) (.tmp 28), false, false, []⟩] [1, 5, 29]) <|
  .cond (.tmp 29)
    (.seq (.region [
      ⟨.yes, (some 4), .assign (.const (.bool true)), false, false, []⟩] [4]) <|
    .ret)
    (.skip)) <|
  .seq (.region [
    ⟨.yes, (some 30), .move (.tmp 1), true, false, [(some 1)]⟩,
    ⟨.yes, (some 31), .call ⟨.value (.func 13), #[(.tmp 30), (.const (.int .i64 (200)))], #[31, 3]⟩, false, false, []⟩,
    ⟨.yes, (some 8), .assign (.tmp 31), true, false, []⟩] [5, 8]) <|
  .seq (.region [
    ⟨.yes, (some 32), .buildSlice 34 7 #[(0, (.const (.string ⟨#[32]⟩))), (1, (.const (.string ⟨#[10]⟩))), (2, (.const (.string ⟨#[9, 32]⟩))), (3, (.const (.string ⟨#[32, 35, 32, 110, 111, 116, 101, 59, 32, 53, 32, 64, 10]⟩))), (4, (.const (.string ⟨#[13, 10]⟩))), (5, (.const (.string ⟨#[35, 10]⟩))), (6, (.const (.string ⟨#[32, 32]⟩)))], false, false, [(some 1)]⟩,
    ⟨.yes, (some 9), .assign (.tmp 32), true, false, [(some 1)]⟩] [5, 8, 9]) <|
  .seq (.region [
    ⟨.yes, (some 33), .move (.tmp 9), false, false, [(some 1)]⟩,
    ⟨.yes, (some 34), .move (.tmp 8), false, false, []⟩,
    ⟨.yes, (some 35), .call ⟨.value (.func 14), #[(.tmp 34), (.const (.int .i64 (7)))], #[32, 3]⟩, false, false, []⟩,
    ⟨.yes, (some 36), .indexAddr 34 (.tmp 33) (.tmp 35), false, false, []⟩,
    ⟨.yes, (some 37), .load 9 (.tmp 36), false, false, []⟩,
    ⟨.yes, (some 10), .assign (.tmp 37), true, false, []⟩] [5, 8, 9, 10]) <|
  .seq (.seq (.region [
    ⟨.yes, (some 38), .move (.tmp 5), false, false, [(some 4)]⟩,
    ⟨.yes, (some 39), .call ⟨.builtin .len, #[(.tmp 38)], #[22]⟩, false, false, []⟩,
    ⟨.yes, (some 40), .move (.const (.int .i64 (0))), false, false, []⟩] [5, 8, 9, 10, 39, 40]) <|
  .block 0 <| .keep [5, 8, 9, 10, 39, 40] <| .sum L_lblanks_0 (.loop l_lblanks_0)) <|
  .seq (.region [
    ⟨.yes, (some 59), .move (.tmp 10), true, false, []⟩,
    ⟨.yes, (some 60), .call ⟨.value (.func 11), #[(.tmp 59)], #[9]⟩, false, false, []⟩,
    ⟨.yes, (some 58), .move (.tmp 60), true, false, []⟩,
    ⟨.yes, (some 61), .extract (.tmp 58) 0, false, false, [(some 4)]⟩,
    ⟨.yes, (some 62), .extract (.tmp 58) 1, false, false, []⟩,
    ⟨.yes, (some 63), .extract (.tmp 58) 2, false, false, []⟩,
    ⟨.yes, (some 12), .assign (.tmp 61), true, false, [(some 4)]⟩,
    ⟨.yes, (some 13), .assign (.tmp 62), true, false, []⟩,
    ⟨.yes, (some 14), .assign (.tmp 63), true, false, []⟩] [5, 12, 14]) <|
  .seq (.region [
    ⟨.yes, (some 64), .move (.tmp 14), true, false, []⟩,
    ⟨.yes, (some 65), .binOp .eql 26 (.tmp 64) (.const (.int .i64 (0))) 26, false, false, []⟩,
    ⟨.yes, (some 66), .move (.tmp 65), true, false, []⟩,
    ⟨(.on 66 true), (some 67), .move (.tmp 5), true, false, [(some 4)]⟩,
    ⟨(.on 66 true), (some 68), .move (.tmp 12), true, false, [(some 4)]⟩,
    ⟨(.on 66 true), (some 69), .call ⟨.value (.func 12), #[(.tmp 67), (.tmp 68)], #[22, 22]⟩, false, false, []⟩,
    ⟨.yes, (some 70), .pick (.tmp 66) (.tmp 69) (.const (.bool false)), false, false, []⟩,
    ⟨.yes, (some 4), .assign (.tmp 70), true, false, []⟩] [4]) <|
  .ret

theorem c_lblanks_eq : ∃ c, Tryd.f5.body = some c ∧ codeOK Tryd.f5.ntmps c = true ∧ comp Tryd.prog (ann 5) c = erase c_lblanks := ⟨_, rfl, by kernel_rfl, by kernel_rfl⟩

theorem body_lblanks_0 (l : List Tok) (c o : List UInt8) (len n a : Int) : bodyT Xbl [5, 8, 9, 10, 39, 40] [4] [(0, [5, 10])] l_lblanks_0 ⟨[(5, .d (.sl 4 (l.map encTok))), (8, .hp 0 0), (9, .osl 1 (fills.map .str)), (10, .d (.str o)), (39, .d (.int .i64 len)), (40, .d (.int .i64 n))], [[.d (.sl 1 (c.map encU8)), .d (.int .i64 a)]]⟩ = (
    .br (decide (n < len))
 (.br (decide ((0 : Int) ≤ n ∧ n ≤ (IntKind.i64.wrap (n + 1)) ∧ (IntKind.i64.wrap (n + 1)) ≤ ((l.map encTok).length : Int)))
 (.opt (unL unTok (List.drop (Int.toNat n) (List.take (Int.toNat (IntKind.i64.wrap (n + 1))) (l.map encTok)))) fun l1 => .br (decide ((l1.length : Int) ≤ 100000 ∧ ((prS l1).length : Int) ≤ 70368744177664) && l1.all inR)
 (.opt (unL unU8 (c.map encU8)) fun s2 => .br (decide (0 ≤ a ∧ a ≤ s2.length ∧ (s2.length : Int) ≤ 100000 ∧ 0 < (7 : Int) ∧ (7 : Int) ≤ 256))
 (.br (decide ((0 : Int) ≤ ((nx (7 : Int).toNat (s2.drop a.toNat)).1 : Int)))
 (.opt (((fills.map .str)[(Int.toNat ((nx (7 : Int).toNat (s2.drop a.toNat)).1 : Int))]?).bind unStr) fun y3 => .br (decide ((prS l1).length + y3.length ≤ 9223372036854775807))
 (.br (decide (o.length + ((prS l1) ++ y3).length ≤ 9223372036854775807))
 (.leaf (.nrm, ⟨[(5, .d (.sl 4 (l.map encTok))), (8, .hp 0 0), (9, .osl 1 (fills.map .str)), (10, .d (.str (o ++ ((prS l1) ++ y3)))), (39, .d (.int .i64 len)), (40, .d (.int .i64 (IntKind.i64.wrap (n + 1))))], [[.d (.sl 1 (c.map encU8)), .d (.int .i64 (atOf s2 (nx (7 : Int).toNat (s2.drop a.toNat)).2))]]⟩))
 (.fail))
 (.fail))
 (.fail))
 (.fail))
 (.fail))
 (.fail))
 (.leaf ((.ext 0), ⟨[(5, .d (.sl 4 (l.map encTok))), (10, .d (.str o))], [[.d (.sl 1 (c.map encU8)), .d (.int .i64 a)]]⟩)) : Tr (Ex × ST)) := by kernel_rfl

theorem tree_lblanks (s : List UInt8) (xs : List DV) : fnT Xbl c_lblanks Tryd.f5.results.toList [.d (.str s), .d (.sl 1 xs)] [] = (
    .br false
 (.leaf (.d (.bool false), []))
 (.br (!decide (((scan s).2.2) = 0))
 (.leaf (.d (.bool true), []))
 (.br (decide ((400 : Int) < (s.length : Int)))
 (.leaf (.d (.bool true), []))
 (.opt (unL unU8 xs) fun s1 => .br (decide (0 ≤ (200 : Int)))
 (.opt (unL unU8 ((s1.take (200 : Int).toNat).map encU8)) fun s2 => .br (decide (0 ≤ (0 : Int) ∧ (0 : Int) ≤ s2.length ∧ (s2.length : Int) ≤ 100000 ∧ 0 < (7 : Int) ∧ (7 : Int) ≤ 256))
 (.br (decide ((0 : Int) ≤ ((nx (7 : Int).toNat (s2.drop (0 : Int).toNat)).1 : Int)))
 (.opt ((([(.str [32]), (.str [10]), (.str [9, 32]), (.str [32, 35, 32, 110, 111, 116, 101, 59, 32, 53, 32, 64, 10]), (.str [13, 10]), (.str [35, 10]), (.str [32, 32])] : List DV)[(Int.toNat ((nx (7 : Int).toNat (s2.drop (0 : Int).toNat)).1 : Int))]?).bind unStr) fun y3 => .opt (unToks ((scan s).1.map encTok)) fun l4 => .opt (unL unU8 ((s1.take (200 : Int).toNat).map encU8)) fun c5 => .opt (unL unStr ([(.str [32]), (.str [10]), (.str [9, 32]), (.str [32, 35, 32, 110, 111, 116, 101, 59, 32, 53, 32, 64, 10]), (.str [13, 10]), (.str [35, 10]), (.str [32, 32])] : List DV)) fun q6 => .br (decide (blPre l4 c5 q6 y3 (((scan s).1.map encTok).length : Int) (0 : Int) (atOf s2 (nx (7 : Int).toNat (s2.drop (0 : Int).toNat)).2)))
 (.br (decide (((scan (y3 ++ weave (weaveC (l4.drop (0 : Int).toNat) (c5.drop (atOf s2 (nx (7 : Int).toNat (s2.drop (0 : Int).toNat)).2).toNat)))).2.2) = 0))
 (.opt (unToks ((scan s).1.map encTok)) fun a7 => .opt (unToks ((scan (y3 ++ weave (weaveC (l4.drop (0 : Int).toNat) (c5.drop (atOf s2 (nx (7 : Int).toNat (s2.drop (0 : Int).toNat)).2).toNat)))).1.map encTok)) fun b8 => .br (decide ((a7.length : Int) ≤ big))
 (.leaf (.d (.bool (sameToks a7 b8)), [[.d (.sl 1 ((s1.take (200 : Int).toNat).map encU8)), .d (.int .i64 (atOf c5 (endC (l4.drop (0 : Int).toNat) (c5.drop (atOf s2 (nx (7 : Int).toNat (s2.drop (0 : Int).toNat)).2).toNat))))]]))
 (.fail))
 (.leaf (.d (.bool false), [[.d (.sl 1 ((s1.take (200 : Int).toNat).map encU8)), .d (.int .i64 (atOf c5 (endC (l4.drop (0 : Int).toNat) (c5.drop (atOf s2 (nx (7 : Int).toNat (s2.drop (0 : Int).toNat)).2).toNat))))]])))
 (.fail))
 (.fail))
 (.fail))
 (.fail)))) : Tr (AV × Hp)) := by kernel_rfl

end Go.AI.TD

/- TokenBlanks in sum. -/
namespace Go.AI.TD
open Go Go.Proofs
set_option maxRecDepth 100000
set_option linter.unusedVariables false
set_option linter.unusedSimpArgs false

theorem fill_ok : ∀ (k : Nat), k < 7 → ∃ b f, fills[k]? = some (b :: f) ∧ safeB b = true ∧ Skip (b :: f) ∧ (b :: f).length ≤ 13
  | 0, _ => ⟨_, _, rfl, by decide, skip_blank (by decide) skip_nil, by decide⟩
  | 1, _ => ⟨_, _, rfl, by decide, skip_blank (by decide) skip_nil, by decide⟩
  | 2, _ => ⟨_, _, rfl, by decide, skip_blank (by decide) (skip_blank (by decide) skip_nil), by decide⟩
  | 3, _ => ⟨_, _, rfl, by decide, skip_blank (by decide) (skip_note (n := [32, 110, 111, 116, 101, 59, 32, 53, 32, 64]) (f := []) (by decide) (skip_blank (by decide) skip_nil)), by decide⟩
  | 4, _ => ⟨_, _, rfl, by decide, skip_blank (by decide) (skip_blank (by decide) skip_nil), by decide⟩
  | 5, _ => ⟨_, _, rfl, by decide, skip_note (n := []) (f := []) (by decide) (skip_blank (by decide) skip_nil), by decide⟩
  | 6, _ => ⟨_, _, rfl, by decide, skip_blank (by decide) (skip_blank (by decide) skip_nil), by decide⟩
  | k + 7, h => absurd h (by omega)
theorem fill_getD {k : Nat} {x : List UInt8} (h : fills[k]? = some x) : fills.getD k [] = x := by
  rw [List.getD_eq_getElem?_getD, h]; rfl
theorem fill_at {k : Nat} {x : List UInt8} (h : fills[k]? = some x) : ((fills.map DV.str)[k]?).bind unStr = some x := by
  rw [List.getElem?_map, h]; rfl

/-- How long a drawn blank is. -/
theorem fill_len (c : List UInt8) {x : List UInt8} (h : fills[(nx 7 c).1]? = some x) : x.length + 12 * (nx 7 c).2.length ≤ 1 + 12 * c.length := by
  cases c with
  | nil =>
    have : x = [32] := Option.some.inj (h.symm.trans rfl)
    subst this; simp [nx]
  | cons b r =>
    obtain ⟨_, _, h1, _, _, h2⟩ := fill_ok (nx 7 (b :: r)).1 (nx_lt (by decide) _)
    obtain rfl := Option.some.inj (h.symm.trans h1)
    have : (nx 7 (b :: r)).2 = r := rfl
    rw [this]
    simp only [List.length_cons] at h2 ⊢
    omega

theorem unStr_ok : ∀ x y, unStr x = some y → x = DV.str y := by
  intro x y h
  unfold unStr at h
  split at h
  · obtain rfl := Option.some.inj h; rfl
  · simp at h

def tot : List Tok → Nat
  | [] => 0
  | t :: r => (prT t).length + tot r
theorem Chain.tot : ∀ {l : List Tok} {s : List UInt8} {i : Int}, Chain s i l → i ≤ s.length → ((TD.tot l : Nat) : Int) ≤ s.length - i
  | [], s, i, _, hi => by simp [TD.tot]; omega
  | t :: r, s, i, ⟨h1, h2, h3, h4, h5, h6⟩, hi => by
    have := Chain.tot h6 h2
    simp only [TD.tot]; omega
theorem weaveC_len : ∀ (l : List Tok) (c : List UInt8), (weave (weaveC l c)).length ≤ tot l + l.length + 12 * c.length
  | [], c => by simp [weaveC, weave]
  | t :: r, c => by
    obtain ⟨b, f, h1, _, _, _⟩ := fill_ok (nx 7 c).1 (nx_lt (by decide) c)
    have h2 := fill_len c h1
    have h3 := weaveC_len r (nx 7 c).2
    simp only [weaveC, weave, fill_getD h1, List.length_append, tot] at h2 h3 ⊢
    simp only [List.length_cons] at h2 ⊢
    omega
theorem weaveC_map : ∀ (l : List Tok) (c : List UInt8), (weaveC l c).map (·.1) = l
  | [], _ => rfl
  | t :: r, c => by rw [weaveC, List.map_cons, weaveC_map r]
theorem weaveC_apart : ∀ (l : List Tok) (c : List UInt8), (∀ t ∈ l, Good t) → Apart (weaveC l c)
  | [], _, _ => trivial
  | t :: r, c, h => by
    obtain ⟨b, f, h1, h2, h3, _⟩ := fill_ok (nx 7 c).1 (nx_lt (by decide) c)
    rw [weaveC, fill_getD h1]
    exact ⟨h t (by simp), h3, .inr ⟨b, rfl, h2⟩, weaveC_apart r _ fun x hx => h x (List.mem_cons_of_mem _ hx)⟩

theorem drop_atOf {c r : List UInt8} (h : r <:+ c) : c.drop (c.length - r.length) = r := by
  obtain ⟨p, rfl⟩ := h
  rw [List.length_append, show p.length + r.length - r.length = p.length by omega, List.drop_left]
theorem atOf_eq {c r : List UInt8} (h : r.length ≤ c.length) : atOf c r = ((c.length - r.length : Nat) : Int) := by unfold atOf; omega

theorem sum_lblanks_0 : SumOK Tryd.prog gl (ann 5) L_lblanks_0 (.loop l_lblanks_0) := by
  refine SumOK.range (X := Xbl) (xok_Xbl 5) (by simp only [Sums, l_lblanks_0, and_true]) (by kernel_rfl) (lv := [5, 8, 9, 10, 39, 40]) (rt := [4]) (xs := [(0, [5, 10])]) (by decide) unTok_enc
    (fun (z : List UInt8 × List UInt8 × Nat) (l : List Tok) n => ⟨[(5, .d (.sl 4 (l.map encTok))), (8, .hp 0 0), (9, .osl 1 (fills.map .str)), (10, .d (.str z.2.1)), (39, .d (.int .i64 (l.length : Int))), (40, .d (.int .i64 (n : Int)))], [[.d (.sl 1 (z.1.map encU8)), .d (.int .i64 (z.2.2 : Int))]]⟩)
    (fun z l n => (l.length : Int) ≤ 4096 ∧ l.all inR = true ∧ z.2.2 ≤ z.1.length ∧ z.1.length ≤ 200 ∧ ((z.2.1 ++ weave (weaveC (l.drop n) (z.1.drop z.2.2))).length : Int) ≤ 100000)
    (fun z l n r => (.ext 0, ⟨[(5, .d (.sl 4 (l.map encTok))), (10, .d (.str (z.2.1 ++ weave (weaveC r (z.1.drop z.2.2)))))], [[.d (.sl 1 (z.1.map encU8)), .d (.int .i64 (atOf z.1 (endC r (z.1.drop z.2.2))))]]⟩)) ?_ ?_ ?_
  · intro st r h
    unfold L_lblanks_0 at h
    split at h
    · rename_i xs fs o len n cs a
      obtain ⟨l, hl, h1⟩ := Tr.opt_some h
      obtain ⟨c, hc, h1⟩ := Tr.opt_some h1
      obtain ⟨q, hq, h1⟩ := Tr.opt_some h1
      rcases Tr.br_some h1 with ⟨h2, h3⟩ | ⟨_, h3⟩
      · obtain ⟨rfl, rfl, h4, h5, h6, h7, h8, h9, h10, h11⟩ := of_decide_eq_true h2
        obtain ⟨k, rfl⟩ := Int.eq_ofNat_of_zero_le h5
        obtain ⟨m, rfl⟩ := Int.eq_ofNat_of_zero_le h8
        simp only [Int.ofNat_eq_natCast, Int.toNat_natCast] at h3 h11 h9
        have e1 := unToks_inv hl
        have e2 := unL_inv unU8_ok hc
        have e3 : fs = fills.map .str := unL_inv unStr_ok hq
        refine ⟨(c, o, m), l, k, by rw [e1, e2, e3], by omega, ⟨h4, h7, by show m ≤ c.length; omega, by show c.length ≤ 200; omega, h11⟩, ?_⟩
        rw [← e1, ← e2]
        exact (Tr.leaf_some h3).symm
      · exact Tr.fail_some h3
    · exact Tr.fail_some h
  · rintro ⟨c, o, a⟩ l n ⟨h1, h2, h3, h4, h5⟩ hn hv
    dsimp only at h1 h2 h3 h4 h5 ⊢
    rw [body_lblanks_0]
    refine ⟨.ext 0, _, Tr.dec_no (by omega) rfl, by simp, ?_⟩
    have : atOf c (c.drop a) = (a : Int) := by unfold atOf; rw [List.length_drop]; omega
    simp only [weaveC, weave, endC, List.append_nil, this]
  · rintro ⟨c, o, a⟩ l n v ⟨h1, h2, h3, h4, h5⟩ hn hv hb
    dsimp only at h1 h2 h3 h4 h5 ⊢
    right
    rw [body_lblanks_0]
    obtain ⟨b, f, g1, g2, g3, g4⟩ := fill_ok (nx 7 (c.drop a)).1 (nx_lt (by decide) _)
    have hsuf : (nx 7 (c.drop a)).2 <:+ c := (nx_suf 7 _).trans (List.drop_suffix a c)
    have hsl := hsuf.length_le
    have hin : inR v = true := by
      have := List.all_eq_true.1 h2 v (List.mem_of_getElem? hv)
      exact this
    rw [toks_at hv] at h5
    simp only [weaveC, weave, fill_getD g1, List.length_append] at h5
    have hw : IntKind.i64.wrap ((n : Int) + 1) = ((n + 1 : Nat) : Int) := by rw [wrap_in] <;> omega
    have hre : (o ++ (prT v ++ (b :: f))) ++ weave (weaveC (l.drop (n + 1)) (nx 7 (c.drop a)).2) = o ++ (prT v ++ ((b :: f) ++ weave (weaveC (l.drop (n + 1)) (nx 7 (c.drop a)).2))) := by
      simp only [List.append_assoc]
    refine ⟨(c, o ++ (prT v ++ (b :: f)), c.length - (nx 7 (c.drop a)).2.length), ?_, ⟨h1, h2, by dsimp only; omega, h4, ?_⟩, ?_⟩
    · simp only [hw, Int.toNat_natCast, List.length_map, sub_at hv, unL_map unU8_enc, show (7 : Int).toNat = 7 from rfl, fill_at g1]
      refine Tr.dec_yes (by omega) (Tr.dec_yes (by omega) (Tr.opt_to rfl ?_))
      simp only [prS_one]
      rw [Tr.run_yes (by simp [hin]; omega)]
      refine Tr.opt_to rfl (Tr.dec_yes (by omega) (Tr.dec_yes (by omega) (Tr.opt_to (y := b :: f) (fill_at g1) (Tr.dec_yes (by omega) (Tr.dec_yes (by rw [List.length_append]; omega) ?_)))))
      rw [atOf_eq hsl]; rfl
    · dsimp only
      rw [drop_atOf hsuf, hre]
      simp only [List.length_append]
      exact h5
    · dsimp only
      rw [drop_atOf hsuf, hre]
      simp only [weaveC, weave, endC, fill_getD g1]

def lblanksT : FT
  | [.d (.str s), .d (.sl 1 xs)], [] => .opt (unL unU8 xs) fun c => .br (decide ((scan s).2.2 = 0 ∧ (s.length : Int) ≤ 400)) (.leaf (.d (.bool true), [[.d (.sl 1 ((c.take 200).map encU8)), .d (.int .i64 (atOf (c.take 200) (endC (scan s).1 (nx 7 (c.take 200)).2)))]])) (.leaf (.d (.bool true), []))
  | _, _ => .fail

theorem ok_lblanks : FnOK Tryd.prog gl 5 lblanksT := by
  refine fn_of (X := Xbl) (xok_Xbl 5) Tryd.func5 c_lblanks_eq (by kernel_rfl) (by simp only [Sums, c_lblanks, and_true, true_and]; exact sum_lblanks_0) ?_
  intro xs H o h
  unfold lblanksT at h
  split at h
  · rename_i s xs
    rw [tree_lblanks]
    obtain ⟨c, hc, h⟩ := Tr.opt_some h
    refine (Tr.run_no rfl).trans ?_
    by_cases h0 : (scan s).2.2 = 0
    · rw [Tr.run_no (by simp [h0])]
      by_cases hz : (400 : Int) < (s.length : Int)
      · rw [Tr.run_no (by simp; omega)] at h
        obtain rfl := Tr.leaf_some h
        exact Tr.dec_yes hz rfl
      rw [Tr.run_yes (by simp [h0]; omega)] at h
      obtain rfl := Tr.leaf_some h
      refine Tr.dec_no hz (Tr.opt_to hc (Tr.dec_yes (by omega) (Tr.opt_to (unL_map unU8_enc _) ?_)))
      rw [show (200 : Int).toNat = 200 from rfl, show (7 : Int).toNat = 7 from rfl, show (0 : Int).toNat = 0 from rfl]
      generalize hd : c.take 200 = d
      have hdl : d.length ≤ 200 := by rw [← hd, List.length_take]; omega
      obtain ⟨b, f, g1, g2, g3, g4⟩ := fill_ok (nx 7 d).1 (nx_lt (by decide) _)
      have hfl := fill_len d g1
      have hsuf := nx_suf 7 d
      have hsl := hsuf.length_le
      have hch := scan_chain h0
      have htot := hch.tot (by omega)
      have hll := (hch.length (by omega) 0).2
      have hlen := weaveC_len (scan s).1 (nx 7 d).2
      have hW : ((b :: f) ++ weave (weaveC (scan s).1 (nx 7 d).2)).length ≤ 3300 := by
        rw [List.length_append]; omega
      rw [List.drop_zero]
      refine Tr.dec_yes (by omega) (Tr.dec_yes (by omega) (Tr.opt_to (y := b :: f) ?_ (Tr.opt_to (unToks_of _) (Tr.opt_to (unL_map unU8_enc _) (Tr.opt_to (y := fills) rfl ?_)))))
      · rw [Int.toNat_natCast]; exact fill_at g1
      rw [List.drop_zero, atOf_eq hsl, Int.toNat_natCast, drop_atOf hsuf]
      refine Tr.dec_yes ⟨rfl, by rw [List.length_map], by omega, by omega, by omega, hch.all, by omega, by omega, by omega, ?_⟩ ?_
      · rw [show (0 : Int).toNat = 0 from rfl, List.drop_zero, Int.toNat_natCast, drop_atOf hsuf]; omega
      obtain ⟨k1, k2⟩ := scan_weave g3 (weaveC_apart _ (nx 7 d).2 (scan_good s)) (by omega)
      rw [weaveC_map] at k2
      refine Tr.dec_yes k1 (Tr.opt_to (unToks_of _) (Tr.opt_to (unToks_of _) (Tr.dec_yes (by unfold big; omega) ?_)))
      rw [k2]; rfl
    · rw [Tr.run_no (by simp [h0])] at h
      obtain rfl := Tr.leaf_some h
      rw [Tr.run_yes (by simp [h0])]; rfl
  · exact Tr.fail_some h

end Go.AI.TD

/- TokenBlanks: what the row takes. -/
namespace Go.AI.TD
open Go Go.Proofs
set_option maxRecDepth 100000
set_option linter.unusedVariables false
set_option linter.unusedSimpArgs false

/-- A byte among the arguments. -/
theorem elemU8 {H : Type} {enc : TypeId × Value → H} {w : World} {base : Nat} {spare : Nat → Bool} {held : Bool} (n : Nat) (cs : List Value) (x : DataW H × List MemPlace) (h : DataW.trod enc Tryd.prog w base spare held n 5 cs = some x) :
    ∃ y : UInt8, AI.All2 (AI.CR (AI.full w)) (encU8 y).cells cs := by
  obtain ⟨k, rfl, _, hw⟩ := DataW.trod_int Tryd.underlying5 h
  simp [Lit.wf, IntKind.min, IntKind.max, IntKind.bits, IntKind.signed] at hw
  obtain ⟨m, rfl⟩ := Int.eq_ofNat_of_zero_le hw.1
  have hm : m < 256 := by omega
  refine ⟨UInt8.ofNat m, ?_⟩
  have : encU8 (UInt8.ofNat m) = .int .u8 (m : Int) := by unfold encU8; rw [UInt8.toNat_ofNat_of_lt' hm]
  rw [this]
  exact .cons (.int _ _) .nil

theorem run_lblanks (s : List UInt8) (c : List UInt8) : ∃ H, (lblanksT [.d (.str s), .d (.sl 1 (c.map encU8))] []).run = some (.d (.bool true), H) := by
  have h : (lblanksT [.d (.str s), .d (.sl 1 (c.map encU8))] []).run = _ := Tr.run_opt (unL_map unU8_enc c)
  by_cases h0 : (scan s).2.2 = 0 ∧ (s.length : Int) ≤ 400
  · exact ⟨_, h.trans (Tr.dec_yes h0 rfl)⟩
  · exact ⟨_, h.trans (Tr.dec_no h0 rfl)⟩
end Go.AI.TD
