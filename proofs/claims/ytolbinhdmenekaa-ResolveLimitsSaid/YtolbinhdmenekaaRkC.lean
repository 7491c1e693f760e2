/- syntax.Check for programs without statements, in sum. -/
import Derived.Test.YtolbinhdmenekaaRkB
namespace Go.AI.RK
open Go Go.Proofs
set_option maxRecDepth 10000
set_option linter.unusedVariables false
set_option linter.unusedSimpArgs false
noncomputable abbrev X0c : TX := ⟨Try.prog, tbl [], iso, gl, vw⟩

theorem xok_X0c (f : Nat) : XOK X0c (ann f) gl := XOK.of base (l := []) trivial f

def L_depths_0 : ST → Tr (Ex × ST)
  | ⟨[(3, .d (.int .i64 d)), (6, .d (.sl 18 [])), (7, .d (.int .i64 m)), (8, .d (.int .i64 n))], []⟩ => .br (decide (m = 0 ∧ n = 0)) (.leaf ((.ext 0), ⟨[(3, .d (.int .i64 d))], []⟩)) .fail
  | _ => .fail

def L_stats_0 : ST → Tr (Ex × ST)
  | ⟨[(5, .d (.sl 18 xs)), (6, .d (.int .i64 m)), (7, .d (.int .i64 n))], []⟩ => .br (decide (m = 0 ∧ n = 0)) (.leaf ((.ext 0), ⟨[], []⟩)) .fail
  | _ => .fail

def depthsT : FT
  | [.d (.sl 18 [])], [] => .leaf (.d (.int .i64 0), [])
  | _, _ => .fail

def statsT : FT
  | [.d (.sl 18 xs)], [] => .br xs.isEmpty (.leaf (.d (.bool true), [])) .fail
  | _, _ => .fail

def l_depths_0 : CC := .seq (.region [
    ⟨.yes, (some 9), .binOp .lss 3 (.tmp 8) (.tmp 7) 3, false, false, []⟩] [3, 6, 7, 8, 9]) <|
  .seq (.cond (.tmp 9)
    (.skip)
    (.exit 0)) <|
  .seq (.block 1 <| .seq (.region [
    ⟨.yes, (some 10), .indexAddr 30 (.tmp 6) (.tmp 8), false, false, []⟩,
    ⟨.yes, (some 11), .load 58 (.tmp 10), false, false, [none, none, none, none, none, none, none, none, none, (some 6), none, none, none, none, none, (some 6), (some 18), (some 18)]⟩,
    ⟨.yes, (some 5), .alloc 58, false, false, []⟩,
    ⟨.yes, none, .store 58 (.tmp 5) (.tmp 11), true, false, []⟩] [3, 5, 6, 7, 8]) <|
  .drawn ⟨[0, 16], [], [3, 6, 7, 8]⟩ [
    ⟨(some 12), .move (.tmp 3), 3, "check.go:18", #[], none⟩,
    ⟨(some 13), .fieldAddr 58 (.tmp 5) 4, 0, "check.go:18", #[], none⟩,
    ⟨(some 14), .load 56 (.tmp 13), 56, "check.go:18", #[⟨1, .data⟩], none⟩,
    ⟨(some 15), .call ⟨.value (.func 23), #[(.tmp 14)], #[56]⟩, 3, "check.go:18", #[⟨2, .data⟩], none⟩,
    ⟨(some 16), .fieldAddr 58 (.tmp 5) 5, 0, "check.go:18", #[], none⟩,
    ⟨(some 17), .load 56 (.tmp 16), 56, "check.go:18", #[⟨4, .data⟩], none⟩,
    ⟨(some 18), .call ⟨.value (.func 23), #[(.tmp 17)], #[56]⟩, 3, "check.go:18", #[⟨5, .data⟩, ⟨3, .chain⟩], none⟩,
    ⟨(some 19), .fieldAddr 58 (.tmp 5) 6, 0, "check.go:18", #[], none⟩,
    ⟨(some 20), .load 30 (.tmp 19), 30, "check.go:18", #[⟨7, .data⟩], none⟩,
    ⟨(some 21), .call ⟨.value (.func 18), #[(.tmp 20)], #[30]⟩, 3, "check.go:18", #[⟨8, .data⟩, ⟨6, .chain⟩], none⟩,
    ⟨(some 22), .fieldAddr 58 (.tmp 5) 7, 0, "check.go:18", #[], none⟩,
    ⟨(some 23), .load 30 (.tmp 22), 30, "check.go:18", #[⟨10, .data⟩], none⟩,
    ⟨(some 24), .call ⟨.value (.func 18), #[(.tmp 23)], #[30]⟩, 3, "check.go:18", #[⟨11, .data⟩, ⟨9, .chain⟩], none⟩,
    ⟨(some 25), .call ⟨.builtin .max, #[(.tmp 15), (.tmp 18), (.tmp 21), (.tmp 24)], #[3, 3, 3, 3]⟩, 3, "check.go:18", #[⟨3, .data⟩, ⟨6, .data⟩, ⟨9, .data⟩, ⟨12, .data⟩], none⟩,
    ⟨(some 26), .binOp .add 3 (.const (.int .i64 (1))) (.tmp 25) 3, 3, "check.go:18", #[⟨13, .data⟩], none⟩,
    ⟨(some 27), .call ⟨.builtin .max, #[(.tmp 12), (.tmp 26)], #[3, 3]⟩, 3, "check.go:18", #[⟨0, .data⟩, ⟨14, .data⟩], none⟩,
    ⟨(some 3), .assign (.tmp 27), 3, "check.go:18", #[⟨15, .data⟩, ⟨12, .chain⟩, ⟨0, .phase⟩, ⟨1, .phase⟩, ⟨2, .phase⟩, ⟨3, .phase⟩, ⟨4, .phase⟩, ⟨5, .phase⟩, ⟨6, .phase⟩, ⟨7, .phase⟩, ⟨8, .phase⟩, ⟨9, .phase⟩, ⟨10, .phase⟩, ⟨11, .phase⟩, ⟨12, .phase⟩, ⟨13, .phase⟩, ⟨14, .phase⟩, ⟨15, .phase⟩], none⟩]) <|
  .region [
    ⟨.yes, (some 28), .binOp .add 3 (.tmp 8) (.const (.int .i64 (1))) 3, false, false, []⟩,
    ⟨.yes, (some 8), .move (.tmp 28), true, false, []⟩] [3, 6, 7, 8]

/-- rollbacknet/syntax.depths -/
def c_depths : CC := .seq (.region [
    ⟨.yes, (some 2), .assign (.const (.int .i64 (0))), false, false, []⟩] [0]) <|
  .seq (.region [
    ⟨.yes, (some 3), .assign (.const (.int .i64 (0))), false, false, []⟩] [0, 3]) <|
  .seq (.seq (.region [
    ⟨.yes, (some 6), .move (.tmp 0), true, false, [(some 18)]⟩,
    ⟨.yes, (some 7), .call ⟨.builtin .len, #[(.tmp 6)], #[30]⟩, false, false, []⟩,
    ⟨.yes, (some 8), .move (.const (.int .i64 (0))), false, false, []⟩] [3, 6, 7, 8]) <|
  .block 0 <| .keep [3, 6, 7, 8] <| .sum L_depths_0 (.loop l_depths_0)) <|
  .seq (.region [
    ⟨.yes, (some 29), .move (.tmp 3), true, false, []⟩,
    ⟨.yes, (some 2), .assign (.tmp 29), true, false, []⟩] [2]) <|
  .ret

theorem c_depths_eq : ∃ c, Try.f18.body = some c ∧ codeOK Try.f18.ntmps c = true ∧ comp Try.prog (ann 18) c = erase c_depths := ⟨_, rfl, by kernel_rfl, by kernel_rfl⟩

def l_stats_0 : CC := .seq (.region [
    ⟨.yes, (some 8), .binOp .lss 3 (.tmp 7) (.tmp 6) 3, false, false, []⟩] [5, 6, 7, 8]) <|
  .seq (.cond (.tmp 8)
    (.skip)
    (.exit 0)) <|
  .seq (.block 1 <| .seq (.region [
    ⟨.yes, (some 9), .indexAddr 30 (.tmp 5) (.tmp 7), false, false, []⟩,
    ⟨.yes, (some 10), .load 58 (.tmp 9), false, false, [none, none, none, none, none, none, none, none, none, (some 6), none, none, none, none, none, (some 6), (some 18), (some 18)]⟩,
    ⟨.yes, (some 4), .alloc 58, false, false, []⟩,
    ⟨.yes, none, .store 58 (.tmp 4) (.tmp 10), true, false, []⟩] [4, 5, 6, 7]) <|
  .seq (.region [
    ⟨.yes, (some 11), .load 58 (.tmp 4), false, false, [none, none, none, none, none, none, none, none, none, (some 6), none, none, none, none, none, (some 6), (some 18), (some 18)]⟩,
    ⟨.yes, (some 12), .call ⟨.value (.func 22), #[(.tmp 11)], #[58]⟩, false, false, []⟩,
    ⟨.yes, (some 13), .unOp .not 4 (.tmp 12), false, false, []⟩] [5, 6, 7, 13]) <|
  .cond (.tmp 13)
    (.seq (.region [
      ⟨.yes, (some 2), .assign (.const (.bool false)), false, false, []⟩] [2]) <|
    .ret)
    (.skip)) <|
  .region [
    ⟨.yes, (some 14), .binOp .add 3 (.tmp 7) (.const (.int .i64 (1))) 3, false, false, []⟩,
    ⟨.yes, (some 7), .move (.tmp 14), true, false, []⟩] [5, 6, 7]

/-- rollbacknet/syntax.statements -/
def c_stats : CC := .seq (.region [
    ⟨.yes, (some 2), .assign (.const (.bool false)), false, false, []⟩] [0]) <|
  .seq (.seq (.region [
    ⟨.yes, (some 5), .move (.tmp 0), true, false, [(some 18)]⟩,
    ⟨.yes, (some 6), .call ⟨.builtin .len, #[(.tmp 5)], #[30]⟩, false, false, []⟩,
    ⟨.yes, (some 7), .move (.const (.int .i64 (0))), false, false, []⟩] [5, 6, 7]) <|
  .block 0 <| .keep [5, 6, 7] <| .sum L_stats_0 (.loop l_stats_0)) <|
  .seq (.region [
    ⟨.yes, (some 2), .assign (.const (.bool true)), false, false, []⟩] [2]) <|
  .ret

theorem c_stats_eq : ∃ c, Try.f15.body = some c ∧ codeOK Try.f15.ntmps c = true ∧ comp Try.prog (ann 15) c = erase c_stats := ⟨_, rfl, by kernel_rfl, by kernel_rfl⟩

theorem body_depths_0 (d m n : Int) : bodyT X0c [3, 6, 7, 8] [2] [(0, [3])] l_depths_0 ⟨[(3, .d (.int .i64 d)), (6, .d (.sl 18 [])), (7, .d (.int .i64 m)), (8, .d (.int .i64 n))], []⟩ = (
    .br (decide (n < m))
    (.br (decide ((0 : Int) ≤ n))
      (.opt ((([] : List DV)[(Int.toNat n)]?).bind unSt) fun y1 => .fail)
      (.fail))
    (.leaf ((.ext 0), ⟨[(3, (.d (.int .i64 d)))], []⟩)) : Tr (Ex × ST)) := by kernel_rfl

theorem body_stats_0 (xs : List DV) (m n : Int) : bodyT X0c [5, 6, 7] [2] [(0, [])] l_stats_0 ⟨[(5, .d (.sl 18 xs)), (6, .d (.int .i64 m)), (7, .d (.int .i64 n))], []⟩ = (
    .br (decide (n < m))
    (.br (decide ((0 : Int) ≤ n))
      (.opt ((xs[(Int.toNat n)]?).bind unSt) fun y1 => .fail)
      (.fail))
    (.leaf ((.ext 0), ⟨[], []⟩)) : Tr (Ex × ST)) := by kernel_rfl

theorem tree_depths : fnT X0c c_depths Try.f18.results.toList [.d (.sl 18 [])] [] = (
    .br (decide ((([] : List DV).length : Int) = 0 ∧ (0 : Int) = 0))
    (.leaf ((.d (.int .i64 0)), []))
    (.fail) : Tr (AV × Hp)) := by kernel_rfl

theorem tree_stats (xs : List DV) : fnT X0c c_stats Try.f15.results.toList [.d (.sl 18 xs)] [] = (
    .br (decide ((xs.length : Int) = 0 ∧ (0 : Int) = 0))
    (.leaf ((.d (.bool true)), []))
    (.fail) : Tr (AV × Hp)) := by kernel_rfl


theorem sum_depths_0 : SumOK Try.prog gl (ann 18) L_depths_0 (.loop l_depths_0) := by
  refine SumOK.of_inv (X := X0c) (xok_X0c 18) (by simp only [Sums, l_depths_0, and_true]) (by kernel_rfl) (lv := [3, 6, 7, 8]) (rt := [2]) (xs := [(0, [3])]) (by decide)
    (fun k st r => ∃ d : Int, st = ⟨[(3, .d (.int .i64 d)), (6, .d (.sl 18 [])), (7, .d (.int .i64 0)), (8, .d (.int .i64 0))], []⟩ ∧ r = (.ext 0, ⟨[(3, .d (.int .i64 d))], []⟩)) ?_ ?_
  · intro st r h
    unfold L_depths_0 at h
    split at h
    · rename_i d m n
      rcases Tr.br_some h with ⟨h1, h2⟩ | ⟨_, h2⟩
      · obtain ⟨rfl, rfl⟩ := of_decide_eq_true h1
        exact ⟨0, d, rfl, (Tr.leaf_some h2).symm⟩
      · exact Tr.fail_some h2
    · exact Tr.fail_some h
  · rintro k st r ⟨d, rfl, rfl⟩
    rw [body_depths_0]
    exact ⟨.ext 0, _, rfl, .inl ⟨by simp, rfl⟩⟩

theorem sum_stats_0 : SumOK Try.prog gl (ann 15) L_stats_0 (.loop l_stats_0) := by
  refine SumOK.of_inv (X := X0c) (xok_X0c 15) (by simp only [Sums, l_stats_0, and_true]) (by kernel_rfl) (lv := [5, 6, 7]) (rt := [2]) (xs := [(0, [])]) (by decide)
    (fun k st r => ∃ xs, st = ⟨[(5, .d (.sl 18 xs)), (6, .d (.int .i64 0)), (7, .d (.int .i64 0))], []⟩ ∧ r = (.ext 0, ⟨[], []⟩)) ?_ ?_
  · intro st r h
    unfold L_stats_0 at h
    split at h
    · rename_i xs m n
      rcases Tr.br_some h with ⟨h1, h2⟩ | ⟨_, h2⟩
      · obtain ⟨rfl, rfl⟩ := of_decide_eq_true h1
        exact ⟨0, xs, rfl, (Tr.leaf_some h2).symm⟩
      · exact Tr.fail_some h2
    · exact Tr.fail_some h
  · rintro k st r ⟨xs, rfl, rfl⟩
    rw [body_stats_0]
    exact ⟨.ext 0, _, rfl, .inl ⟨by simp, rfl⟩⟩

/-- No name is too long to be looked at. -/
def short (l : List Var) : Bool := l.all fun v => decide ((v.name.length : Int) ≤ big)

def emptySl : DV → Bool
  | .sl 18 [] => true
  | _ => false
theorem emptySl_eq {x : DV} (h : emptySl x = true) : x = .sl 18 [] := by
  unfold emptySl at h
  split at h
  · rfl
  · simp at h

/-- What keeps a declaration from being one. -/
def badVar (v : Var) : Bool := !validB v.name || (decide (v.size < 0) || ((!decide (v.size = 0) && !decide (v.init = 0)) || decide (v.init = -9223372036854775808)))

theorem ok_depths : FnOK Try.prog gl 18 depthsT := by
  refine fn_of (X := X0c) (xok_X0c 18) Try.func18 c_depths_eq (by kernel_rfl) (by simp only [Sums, c_depths, and_true, true_and]; exact sum_depths_0) ?_
  intro xs H o h
  unfold depthsT at h
  split at h
  · rw [tree_depths]
    obtain rfl := Tr.leaf_some h
    simp [Tr.run_br, Tr.run_leaf]
  · exact Tr.fail_some h

theorem ok_stats : FnOK Try.prog gl 15 statsT := by
  refine fn_of (X := X0c) (xok_X0c 15) Try.func15 c_stats_eq (by kernel_rfl) (by simp only [Sums, c_stats, and_true, true_and]; exact sum_stats_0) ?_
  intro xs H o h
  unfold statsT at h
  split at h
  · rename_i xs
    rw [tree_stats]
    rcases Tr.br_some h with ⟨h1, h2⟩ | ⟨_, h2⟩
    · obtain rfl := Tr.leaf_some h2
      have h3 : xs = [] := by simpa using h1
      subst h3
      simp [Tr.run_br, Tr.run_leaf]
    · exact Tr.fail_some h2
  · exact Tr.fail_some h

def sdepthT : FT
  | [.agg [.d (.sl 3 xs), .d (.sl 18 []), .d (.sl 18 []), .d (.sl 18 []), .d (.sl 18 [])]], [] => .leaf (.d (.int .i64 0), [])
  | _, _ => .fail

noncomputable abbrev Xsd : TX := ⟨Try.prog, tbl [(18, depthsT)], iso, gl, vw⟩

theorem xok_Xsd (f : Nat) : XOK Xsd (ann f) gl := XOK.of base (l := [(18, depthsT)]) ⟨ok_depths, trivial⟩ f

/-- rollbacknet/syntax.Depth -/
def c_sdepth : CC := .seq (.region [
    ⟨.yes, (some 1), .box 32 (.tmp 0), true, false, []⟩,
    ⟨.yes, (some 2), .assign (.const (.int .i64 (0))), false, false, []⟩] [1]) <|
  .seq (.drawn ⟨[13], [], [2]⟩ [
    ⟨(some 3), .fieldAddr 32 (.tmp 1) 1, 0, "check.go:12", #[], none⟩,
    ⟨(some 4), .load 30 (.tmp 3), 30, "check.go:12", #[⟨0, .data⟩], none⟩,
    ⟨(some 5), .call ⟨.value (.func 18), #[(.tmp 4)], #[30]⟩, 3, "check.go:12", #[⟨1, .data⟩], none⟩,
    ⟨(some 6), .fieldAddr 32 (.tmp 1) 2, 0, "check.go:12", #[], none⟩,
    ⟨(some 7), .load 30 (.tmp 6), 30, "check.go:12", #[⟨3, .data⟩], none⟩,
    ⟨(some 8), .call ⟨.value (.func 18), #[(.tmp 7)], #[30]⟩, 3, "check.go:12", #[⟨4, .data⟩, ⟨2, .chain⟩], none⟩,
    ⟨(some 9), .fieldAddr 32 (.tmp 1) 3, 0, "check.go:12", #[], none⟩,
    ⟨(some 10), .load 30 (.tmp 9), 30, "check.go:12", #[⟨6, .data⟩], none⟩,
    ⟨(some 11), .call ⟨.value (.func 18), #[(.tmp 10)], #[30]⟩, 3, "check.go:12", #[⟨7, .data⟩, ⟨5, .chain⟩], none⟩,
    ⟨(some 12), .fieldAddr 32 (.tmp 1) 4, 0, "check.go:12", #[], none⟩,
    ⟨(some 13), .load 30 (.tmp 12), 30, "check.go:12", #[⟨9, .data⟩], none⟩,
    ⟨(some 14), .call ⟨.value (.func 18), #[(.tmp 13)], #[30]⟩, 3, "check.go:12", #[⟨10, .data⟩, ⟨8, .chain⟩], none⟩,
    ⟨(some 15), .call ⟨.builtin .max, #[(.tmp 5), (.tmp 8), (.tmp 11), (.tmp 14)], #[3, 3, 3, 3]⟩, 3, "check.go:12", #[⟨2, .data⟩, ⟨5, .data⟩, ⟨8, .data⟩, ⟨11, .data⟩], none⟩,
    ⟨(some 2), .assign (.tmp 15), 3, "check.go:12", #[⟨12, .data⟩, ⟨11, .chain⟩, ⟨0, .phase⟩, ⟨1, .phase⟩, ⟨2, .phase⟩, ⟨3, .phase⟩, ⟨4, .phase⟩, ⟨5, .phase⟩, ⟨6, .phase⟩, ⟨7, .phase⟩, ⟨8, .phase⟩, ⟨9, .phase⟩, ⟨10, .phase⟩, ⟨11, .phase⟩, ⟨12, .phase⟩], none⟩]) <|
  .ret

theorem c_sdepth_eq : ∃ c, Try.f13.body = some c ∧ codeOK Try.f13.ntmps c = true ∧ comp Try.prog (ann 13) c = erase c_sdepth := ⟨_, rfl, by kernel_rfl, by kernel_rfl⟩

theorem tree_sdepth (xs : List DV) : fnT Xsd c_sdepth Try.f13.results.toList [.agg [.d (.sl 3 xs), .d (.sl 18 []), .d (.sl 18 []), .d (.sl 18 []), .d (.sl 18 [])]] [] = (
    .leaf ((.d (.int .i64 0)), []) : Tr (AV × Hp)) := by kernel_rfl

theorem ok_sdepth : FnOK Try.prog gl 13 sdepthT := by
  refine fn_of (X := Xsd) (xok_Xsd 13) Try.func13 c_sdepth_eq (by kernel_rfl) (by simp only [Sums, c_sdepth, and_true]) ?_
  intro xs H o h
  unfold sdepthT at h
  split at h
  · rw [tree_sdepth]
    obtain rfl := Tr.leaf_some h
    rfl
  · exact Tr.fail_some h

def L_check_0 : ST → Tr (Ex × ST)
  | ⟨[(1, .box [.d (.sl 3 xs), .d (.sl 18 []), .d (.sl 18 []), .d (.sl 18 []), .d (.sl 18 [])]), (11, .d (.sl 3 ys)), (12, .d (.int .i64 m)), (13, .d (.int .i64 n))], []⟩ => .opt (unL unVar ys) fun l => .br (decide (m = l.length ∧ 0 ≤ n ∧ n ≤ m ∧ m ≤ big) && short l) (.br ((l.drop n.toNat).any badVar) (.leaf (.ret, ⟨[(2, .d (.int .i64 7))], []⟩)) (.leaf ((.ext 0), ⟨[(1, .box [.d (.sl 3 xs), .d (.sl 18 []), .d (.sl 18 []), .d (.sl 18 []), .d (.sl 18 [])])], []⟩))) .fail
  | _ => .fail

def L_check_1 : ST → Tr (Ex × ST)
  | ⟨[(50, .osl 1 zs), (51, .d (.int .i64 m)), (52, .d (.int .i64 n))], []⟩ => .br (decide (m = zs.length ∧ 0 ≤ n ∧ n ≤ m ∧ m ≤ big) && zs.all emptySl) (.leaf ((.ext 2), ⟨[], []⟩)) .fail
  | _ => .fail

noncomputable abbrev Xck : TX := ⟨Try.prog, tbl [(13, sdepthT), (14, validT), (15, statsT)], iso, gl, vw⟩

theorem xok_Xck (f : Nat) : XOK Xck (ann f) gl := XOK.of base (l := [(13, sdepthT), (14, validT), (15, statsT)]) ⟨ok_sdepth, ok_valid, ok_stats, trivial⟩ f

def l_check_0 : CC := .seq (.region [
    ⟨.yes, (some 14), .binOp .lss 3 (.tmp 13) (.tmp 12) 3, false, false, []⟩] [1, 11, 12, 13, 14]) <|
  .seq (.cond (.tmp 14)
    (.skip)
    (.exit 0)) <|
  .seq (.block 1 <| .seq (.region [
    ⟨.yes, (some 15), .indexAddr 22 (.tmp 11) (.tmp 13), false, false, []⟩,
    ⟨.yes, (some 16), .load 25 (.tmp 15), false, false, []⟩,
    ⟨.yes, (some 4), .alloc 25, false, false, []⟩,
    ⟨.yes, none, .store 25 (.tmp 4) (.tmp 16), true, false, []⟩] [1, 4, 11, 12, 13]) <|
  .seq (.region [
    ⟨.yes, (some 17), .fieldAddr 25 (.tmp 4) 0, false, false, []⟩,
    ⟨.yes, (some 18), .load 9 (.tmp 17), false, false, []⟩,
    ⟨.yes, (some 19), .call ⟨.value (.func 14), #[(.tmp 18)], #[9]⟩, false, false, []⟩,
    ⟨.yes, (some 20), .unOp .not 4 (.tmp 19), false, false, []⟩,
    ⟨.yes, (some 21), .move (.tmp 20), true, false, []⟩,
    ⟨(.on 21 false), (some 22), .fieldAddr 25 (.tmp 4) 1, false, false, []⟩,
    ⟨(.on 21 false), (some 23), .load 3 (.tmp 22), false, false, []⟩,
    ⟨(.on 21 false), (some 24), .binOp .lss 3 (.tmp 23) (.const (.int .i64 (0))) 3, false, false, []⟩,
    ⟨.yes, (some 25), .pick (.tmp 21) (.const (.bool true)) (.tmp 24), false, false, []⟩,
    ⟨.yes, (some 26), .move (.tmp 25), true, false, []⟩,
    ⟨(.on 26 false), (some 27), .fieldAddr 25 (.tmp 4) 1, false, false, []⟩,
    ⟨(.on 26 false), (some 28), .load 3 (.tmp 27), false, false, []⟩,
    ⟨(.on 26 false), (some 29), .binOp .neq 3 (.tmp 28) (.const (.int .i64 (0))) 3, false, false, []⟩,
    ⟨(.on 26 false), (some 30), .move (.tmp 29), true, false, []⟩,
    ⟨(.on 30 true), (some 31), .fieldAddr 25 (.tmp 4) 2, false, false, []⟩,
    ⟨(.on 30 true), (some 32), .load 3 (.tmp 31), false, false, []⟩,
    ⟨(.on 30 true), (some 33), .binOp .neq 3 (.tmp 32) (.const (.int .i64 (0))) 3, false, false, []⟩,
    ⟨(.on 26 false), (some 34), .pick (.tmp 30) (.tmp 33) (.const (.bool false)), false, false, []⟩,
    ⟨.yes, (some 35), .pick (.tmp 26) (.const (.bool true)) (.tmp 34), false, false, []⟩,
    ⟨.yes, (some 36), .move (.tmp 35), true, false, []⟩,
    ⟨(.on 36 false), (some 37), .fieldAddr 25 (.tmp 4) 2, false, false, []⟩,
    ⟨(.on 36 false), (some 38), .load 3 (.tmp 37), false, false, []⟩,
    ⟨(.on 36 false), (some 39), .binOp .eql 3 (.tmp 38) (.const (.int .i64 (-9223372036854775808))) 3, false, false, []⟩,
    ⟨.yes, (some 40), .pick (.tmp 36) (.const (.bool true)) (.tmp 39), false, false, []⟩] [1, 11, 12, 13, 40]) <|
  .cond (.tmp 40)
    (.seq (.region [
      ⟨.yes, (some 2), .assign (.const (.int .i64 (7))), false, false, []⟩] [2]) <|
    .ret)
    (.skip)) <|
  .region [
    ⟨.yes, (some 41), .binOp .add 3 (.tmp 13) (.const (.int .i64 (1))) 3, false, false, []⟩,
    ⟨.yes, (some 13), .move (.tmp 41), true, false, []⟩] [1, 11, 12, 13]

def l_check_1 : CC := .seq (.region [
    ⟨.yes, (some 53), .binOp .lss 3 (.tmp 52) (.tmp 51) 3, false, false, []⟩] [50, 51, 52, 53]) <|
  .seq (.cond (.tmp 53)
    (.skip)
    (.exit 2)) <|
  .seq (.block 3 <| .seq (.region [
    ⟨.yes, (some 54), .indexAddr 51 (.tmp 50) (.tmp 52), false, false, []⟩,
    ⟨.yes, (some 55), .load 30 (.tmp 54), false, false, [(some 18)]⟩,
    ⟨.yes, (some 6), .assign (.tmp 55), true, false, [(some 18)]⟩] [6, 50, 51, 52]) <|
  .seq (.region [
    ⟨.yes, (some 56), .move (.tmp 6), true, false, [(some 18)]⟩,
    ⟨.yes, (some 57), .call ⟨.value (.func 15), #[(.tmp 56)], #[30]⟩, false, false, []⟩,
    ⟨.yes, (some 58), .unOp .not 4 (.tmp 57), false, false, []⟩] [50, 51, 52, 58]) <|
  .cond (.tmp 58)
    (.seq (.region [
      ⟨.yes, (some 2), .assign (.const (.int .i64 (7))), false, false, []⟩] [2]) <|
    .ret)
    (.skip)) <|
  .region [
    ⟨.yes, (some 59), .binOp .add 3 (.tmp 52) (.const (.int .i64 (1))) 3, false, false, []⟩,
    ⟨.yes, (some 52), .move (.tmp 59), true, false, []⟩] [50, 51, 52]

/-- rollbacknet/syntax.Check -/
def c_check : CC := .seq (.region [
    ⟨.yes, (some 1), .box 32 (.tmp 0), true, false, []⟩,
    ⟨.yes, (some 2), .assign (.const (.int .i64 (0))), false, false, []⟩] [1]) <|
  .seq (.seq (.region [
    ⟨.yes, (some 7), .load 32 (.tmp 1), false, false, [(some 3), (some 18), (some 18), (some 18), (some 18)]⟩,
    ⟨.yes, (some 8), .call ⟨.value (.func 13), #[(.tmp 7)], #[32]⟩, false, false, []⟩,
    ⟨.yes, (some 9), .binOp .gtr 3 (.tmp 8) (.const (.int .i64 (16))) 3, false, false, []⟩] [1, 9]) <|
  .cond (.tmp 9)
    (.seq (.region [
      ⟨.yes, (some 2), .assign (.const (.int .i64 (6))), false, false, []⟩] [2]) <|
    .ret)
    (.skip)) <|
  .seq (.seq (.region [
    ⟨.yes, (some 10), .fieldAddr 32 (.tmp 1) 0, false, false, []⟩,
    ⟨.yes, (some 11), .load 22 (.tmp 10), false, false, [(some 3)]⟩,
    ⟨.yes, (some 12), .call ⟨.builtin .len, #[(.tmp 11)], #[22]⟩, false, false, []⟩,
    ⟨.yes, (some 13), .move (.const (.int .i64 (0))), false, false, []⟩] [1, 11, 12, 13]) <|
  .block 0 <| .keep [1, 11, 12, 13] <| .sum L_check_0 (.loop l_check_0)) <|
  .seq (.seq (.region [
    ⟨.yes, (some 42), .fieldAddr 32 (.tmp 1) 1, false, false, []⟩,
    ⟨.yes, (some 43), .load 30 (.tmp 42), false, false, [(some 18)]⟩,
    ⟨.yes, (some 44), .fieldAddr 32 (.tmp 1) 2, false, false, []⟩,
    ⟨.yes, (some 45), .load 30 (.tmp 44), false, false, [(some 18)]⟩,
    ⟨.yes, (some 46), .fieldAddr 32 (.tmp 1) 3, false, false, []⟩,
    ⟨.yes, (some 47), .load 30 (.tmp 46), false, false, [(some 18)]⟩,
    ⟨.yes, (some 48), .fieldAddr 32 (.tmp 1) 4, false, false, []⟩,
    ⟨.yes, (some 49), .load 30 (.tmp 48), false, false, [(some 18)]⟩,
    ⟨.yes, (some 50), .buildSlice 51 4 #[(0, (.tmp 43)), (1, (.tmp 45)), (2, (.tmp 47)), (3, (.tmp 49))], false, false, [(some 1)]⟩,
    ⟨.yes, (some 51), .call ⟨.builtin .len, #[(.tmp 50)], #[51]⟩, false, false, []⟩,
    ⟨.yes, (some 52), .move (.const (.int .i64 (0))), false, false, []⟩] [50, 51, 52]) <|
  .block 2 <| .keep [50, 51, 52] <| .sum L_check_1 (.loop l_check_1)) <|
  .seq (.region [
    ⟨.yes, (some 2), .assign (.const (.int .i64 (0))), false, false, []⟩] [2]) <|
  .ret

theorem c_check_eq : ∃ c, Try.f11.body = some c ∧ codeOK Try.f11.ntmps c = true ∧ comp Try.prog (ann 11) c = erase c_check := ⟨_, rfl, by kernel_rfl, by kernel_rfl⟩

theorem body_check_0 (xs ys : List DV) (m n : Int) : bodyT Xck [1, 11, 12, 13] [2] [(0, [1])] l_check_0 ⟨[(1, .box [.d (.sl 3 xs), .d (.sl 18 []), .d (.sl 18 []), .d (.sl 18 []), .d (.sl 18 [])]), (11, .d (.sl 3 ys)), (12, .d (.int .i64 m)), (13, .d (.int .i64 n))], []⟩ = (
    .br (decide (n < m))
    (.br (decide ((0 : Int) ≤ n))
      (.opt ((ys[(Int.toNat n)]?).bind unVar) fun y1 => .br (decide ((y1.name.length : Int) ≤ big))
        (.br (!(validB y1.name))
          (.leaf (.ret, ⟨[(2, (.d (.int .i64 7)))], []⟩))
          (.br (decide (y1.size < 0))
            (.leaf (.ret, ⟨[(2, (.d (.int .i64 7)))], []⟩))
            (.br (!decide (y1.size = 0))
              (.br (!decide (y1.init = 0))
                (.leaf (.ret, ⟨[(2, (.d (.int .i64 7)))], []⟩))
                (.br (decide (y1.init = (-9223372036854775808)))
                  (.leaf (.ret, ⟨[(2, (.d (.int .i64 7)))], []⟩))
                  (.leaf (.nrm, ⟨[(1, (.box [(.d (.sl 3 xs)), (.d (.sl 18 [])), (.d (.sl 18 [])), (.d (.sl 18 [])), (.d (.sl 18 []))])), (11, (.d (.sl 3 ys))), (12, (.d (.int .i64 m))), (13, (.d (.int .i64 (IntKind.i64.wrap (n + 1)))))], []⟩))))
              (.br (decide (y1.init = (-9223372036854775808)))
                (.leaf (.ret, ⟨[(2, (.d (.int .i64 7)))], []⟩))
                (.leaf (.nrm, ⟨[(1, (.box [(.d (.sl 3 xs)), (.d (.sl 18 [])), (.d (.sl 18 [])), (.d (.sl 18 [])), (.d (.sl 18 []))])), (11, (.d (.sl 3 ys))), (12, (.d (.int .i64 m))), (13, (.d (.int .i64 (IntKind.i64.wrap (n + 1)))))], []⟩))))))
        (.fail))
      (.fail))
    (.leaf ((.ext 0), ⟨[(1, (.box [(.d (.sl 3 xs)), (.d (.sl 18 [])), (.d (.sl 18 [])), (.d (.sl 18 [])), (.d (.sl 18 []))]))], []⟩)) : Tr (Ex × ST)) := by kernel_rfl

theorem body_check_1 (zs : List DV) (m n : Int) : bodyT Xck [50, 51, 52] [2] [(2, [])] l_check_1 ⟨[(50, .osl 1 zs), (51, .d (.int .i64 m)), (52, .d (.int .i64 n))], []⟩ = (
    .br (decide (n < m))
    (.br (decide ((0 : Int) ≤ n))
      (.opt ((zs[(Int.toNat n)]?).bind (unSl 18)) fun y1 => .br y1.isEmpty
        (.br false
          (.leaf (.ret, ⟨[(2, (.d (.int .i64 7)))], []⟩))
          (.leaf (.nrm, ⟨[(50, (.osl 1 zs)), (51, (.d (.int .i64 m))), (52, (.d (.int .i64 (IntKind.i64.wrap (n + 1)))))], []⟩)))
        (.fail))
      (.fail))
    (.leaf ((.ext 2), ⟨[], []⟩)) : Tr (Ex × ST)) := by kernel_rfl

theorem tree_check (xs : List DV) : fnT Xck c_check Try.f11.results.toList [.agg [.d (.sl 3 xs), .d (.sl 18 []), .d (.sl 18 []), .d (.sl 18 []), .d (.sl 18 [])]] [] = (
    .br (decide ((16 : Int) < 0))
    (.leaf ((.d (.int .i64 6)), []))
    (.opt (unL unVar xs) fun l1 => .br (decide ((xs.length : Int) = l1.length ∧ 0 ≤ (0 : Int) ∧ (0 : Int) ≤ (xs.length : Int) ∧ (xs.length : Int) ≤ big) && short l1)
      (.br ((l1.drop (0 : Int).toNat).any badVar)
        (.leaf ((.d (.int .i64 7)), []))
        (.br (decide ((([(.sl 18 []), (.sl 18 []), (.sl 18 []), (.sl 18 [])] : List DV).length : Int) = ([(.sl 18 []), (.sl 18 []), (.sl 18 []), (.sl 18 [])] : List DV).length ∧ 0 ≤ (0 : Int) ∧ (0 : Int) ≤ (([(.sl 18 []), (.sl 18 []), (.sl 18 []), (.sl 18 [])] : List DV).length : Int) ∧ (([(.sl 18 []), (.sl 18 []), (.sl 18 []), (.sl 18 [])] : List DV).length : Int) ≤ big) && ([(.sl 18 []), (.sl 18 []), (.sl 18 []), (.sl 18 [])] : List DV).all emptySl)
          (.leaf ((.d (.int .i64 0)), []))
          (.fail)))
      (.fail)) : Tr (AV × Hp)) := by kernel_rfl


def prog0 (xs : List DV) : List AV := [.d (.sl 3 xs), .d (.sl 18 []), .d (.sl 18 []), .d (.sl 18 []), .d (.sl 18 [])]

theorem validB_len {s : List UInt8} (h : ¬ (s.length : Int) ≤ big) : validB s = false := by
  have h1 : decide ((s.length : Int) ≤ 16) = false := by unfold big at h; simp; omega
  unfold validB; rw [h1]; simp

theorem sum_check_1 : SumOK Try.prog gl (ann 11) L_check_1 (.loop l_check_1) := by
  refine SumOK.of_inv (X := Xck) (xok_Xck 11) (by simp only [Sums, l_check_1, and_true]) (by kernel_rfl) (lv := [50, 51, 52]) (rt := [2]) (xs := [(2, [])]) (by decide)
    (fun k st r => ∃ (zs : List DV) (n : Nat), n ≤ zs.length ∧ (zs.length : Int) ≤ big ∧ zs.all emptySl = true ∧ st = ⟨[(50, .osl 1 zs), (51, .d (.int .i64 (zs.length : Int))), (52, .d (.int .i64 (n : Int)))], []⟩ ∧ r = (.ext 2, ⟨[], []⟩) ∧ k = zs.length - n) ?_ ?_
  · intro st r h
    unfold L_check_1 at h
    split at h
    · rename_i zs m n
      rcases Tr.br_some h with ⟨h1, h2⟩ | ⟨_, h2⟩
      · simp only [Bool.and_eq_true, decide_eq_true_eq] at h1
        obtain ⟨⟨rfl, h3, h4, h5⟩, h6⟩ := h1
        obtain ⟨k, rfl⟩ := Int.eq_ofNat_of_zero_le h3
        exact ⟨_, zs, k, by omega, h5, h6, rfl, (Tr.leaf_some h2).symm, rfl⟩
      · exact Tr.fail_some h2
    · exact Tr.fail_some h
  · rintro k st r ⟨zs, n, h1, h2, h3, rfl, rfl, rfl⟩
    rw [body_check_1]
    cases hb : zs[n]? with
    | none =>
      have hl : zs.length ≤ n := by simpa using hb
      refine ⟨.ext 2, ⟨[], []⟩, ?_, .inl ⟨by simp, rfl⟩⟩
      have h5 : ¬ ((n : Int) < zs.length) := by omega
      simp [Tr.run_br, Tr.run_leaf, h5]
    | some v =>
      have hl := at_len hb
      have h5 : ((n : Int) < zs.length) := by omega
      obtain rfl := emptySl_eq ((List.all_eq_true.1 h3) v (List.mem_of_getElem? hb))
      have h8 : IntKind.i64.wrap ((n : Int) + 1) = ((n + 1 : Nat) : Int) := by unfold big at h2; rw [wrap_in] <;> omega
      refine ⟨.nrm, ⟨[(50, .osl 1 zs), (51, .d (.int .i64 (zs.length : Int))), (52, .d (.int .i64 ((n + 1 : Nat) : Int)))], []⟩, ?_, .inr ⟨rfl, _, ?_, zs, n + 1, by omega, h2, h3, rfl, rfl, rfl⟩⟩
      · simp only [h8]
        simp [Tr.run_br, Tr.run_leaf, Tr.run_opt_, h5, hb, unSl]
      · omega

theorem sum_check_0 : SumOK Try.prog gl (ann 11) L_check_0 (.loop l_check_0) := by
  refine SumOK.of_inv (X := Xck) (xok_Xck 11) (by simp only [Sums, l_check_0, and_true]) (by kernel_rfl) (lv := [1, 11, 12, 13]) (rt := [2]) (xs := [(0, [1])]) (by decide)
    (fun k st r => ∃ (xs : List DV) (l : List Var) (n : Nat), n ≤ l.length ∧ (l.length : Int) ≤ big ∧ short l = true ∧
      st = ⟨[(1, .box (prog0 xs)), (11, .d (.sl 3 (l.map encVar))), (12, .d (.int .i64 (l.length : Int))), (13, .d (.int .i64 (n : Int)))], []⟩ ∧
      r = (bif (l.drop n).any badVar then (.ret, ⟨[(2, .d (.int .i64 7))], []⟩) else (.ext 0, ⟨[(1, .box (prog0 xs))], []⟩)) ∧ k = l.length - n) ?_ ?_
  · intro st r h
    unfold L_check_0 at h
    split at h
    · rename_i xs ys m n
      obtain ⟨l, hl, h0⟩ := Tr.opt_some h
      obtain rfl := unL_inv unVar_ok hl
      rcases Tr.br_some h0 with ⟨h1, h2⟩ | ⟨_, h2⟩
      · simp only [Bool.and_eq_true, decide_eq_true_eq] at h1
        obtain ⟨⟨rfl, h3, h4, h5⟩, h6⟩ := h1
        obtain ⟨k, rfl⟩ := Int.eq_ofNat_of_zero_le h3
        refine ⟨_, xs, l, k, by omega, h5, h6, rfl, ?_, rfl⟩
        simp only [Int.toNat_natCast] at h2
        rcases Tr.br_some h2 with ⟨hs, h8⟩ | ⟨hs, h8⟩ <;> rw [hs] <;> exact (Tr.leaf_some h8).symm
      · exact Tr.fail_some h2
    · exact Tr.fail_some h
  · rintro k st r ⟨xs, l, n, h1, h2, h3, rfl, rfl, rfl⟩
    unfold prog0
    rw [body_check_0]
    cases hb : l[n]? with
    | none =>
      have hl : l.length ≤ n := by simpa using hb
      have he : l.drop n = [] := List.drop_eq_nil_of_le hl
      refine ⟨.ext 0, ⟨[(1, .box (prog0 xs))], []⟩, ?_, .inl ⟨by simp, by rw [he]; rfl⟩⟩
      have h5 : ¬ ((n : Int) < l.length) := by omega
      simp [Tr.run_br, Tr.run_leaf, h5, prog0]
    | some v =>
      have hl := at_len hb
      have h5 : ((n : Int) < l.length) := by omega
      have h6 : (v.name.length : Int) ≤ big := by simpa using (List.all_eq_true.1 h3) v (List.mem_of_getElem? hb)
      rw [vdrop hb, List.any_cons]
      cases hbad : badVar v with
      | true =>
        refine ⟨.ret, ⟨[(2, .d (.int .i64 7))], []⟩, ?_, .inl ⟨by simp, by simp⟩⟩
        unfold badVar at hbad
        by_cases a1 : validB v.name = true
        · by_cases a2 : v.size < 0
          · simp [Tr.run_br, Tr.run_leaf, Tr.run_opt_, h5, unVar_enc, hb, h6, a1, a2]
          · by_cases a3 : v.size = 0
            · have a4 : v.init = -9223372036854775808 := by simpa [a1, a2, a3] using hbad
              simp [Tr.run_br, Tr.run_leaf, Tr.run_opt_, h5, unVar_enc, hb, h6, a1, a3, a4]
            · by_cases a5 : v.init = 0
              · simp [a1, a2, a3, a5] at hbad
              · simp [Tr.run_br, Tr.run_leaf, Tr.run_opt_, h5, unVar_enc, hb, h6, a1, a2, a3, a5]
        · simp [Tr.run_br, Tr.run_leaf, Tr.run_opt_, h5, unVar_enc, hb, h6, a1]
      | false =>
        have h8 : IntKind.i64.wrap ((n : Int) + 1) = ((n + 1 : Nat) : Int) := by unfold big at h2; rw [wrap_in] <;> omega
        refine ⟨.nrm, ⟨[(1, .box (prog0 xs)), (11, .d (.sl 3 (l.map encVar))), (12, .d (.int .i64 (l.length : Int))), (13, .d (.int .i64 ((n + 1 : Nat) : Int)))], []⟩, ?_, .inr ⟨rfl, _, ?_, xs, l, n + 1, by omega, h2, h3, rfl, rfl, rfl⟩⟩
        · unfold badVar at hbad
          simp only [Bool.or_eq_false_iff, Bool.not_eq_false', decide_eq_false_iff_not, Bool.and_eq_false_iff, decide_eq_true_eq] at hbad
          obtain ⟨a1, a2, a3, a4⟩ := hbad
          simp only [h8]
          by_cases a5 : v.size = 0
          · simp [Tr.run_br, Tr.run_leaf, Tr.run_opt_, h5, unVar_enc, hb, h6, a1, a4, a5, prog0]
          · have a6 : v.init = 0 := a3.resolve_left a5
            simp [Tr.run_br, Tr.run_leaf, Tr.run_opt_, h5, unVar_enc, hb, h6, a1, a2, a5, a6, prog0]
        · omega

/-- Check's answer. -/
def chk (l : List Var) : Int := if l.any badVar then 7 else 0
def checkT : FT
  | [.agg [.d (.sl 3 xs), .d (.sl 18 []), .d (.sl 18 []), .d (.sl 18 []), .d (.sl 18 [])]], [] => .opt (unL unVar xs) fun l => .br (decide ((l.length : Int) ≤ big) && short l) (.leaf (.d (.int .i64 (chk l)), [])) .fail
  | _, _ => .fail

theorem ok_check : FnOK Try.prog gl 11 checkT := by
  refine fn_of (X := Xck) (xok_Xck 11) Try.func11 c_check_eq (by kernel_rfl) (by simp only [Sums, c_check, and_true, true_and]; exact ⟨sum_check_0, sum_check_1⟩) ?_
  intro xs H o h
  unfold checkT at h
  split at h
  · rename_i xs
    rw [tree_check]
    obtain ⟨l, hl, h⟩ := Tr.opt_some h
    rcases Tr.br_some h with ⟨h1, h2⟩ | ⟨_, h2⟩
    · simp only [Bool.and_eq_true, decide_eq_true_eq] at h1
      obtain ⟨h3, h4⟩ := h1
      obtain rfl := Tr.leaf_some h2
      have hlen : xs.length = l.length := by rw [unL_inv unVar_ok hl, List.length_map]
      refine Tr.dec_no (by omega) ?_
      refine Tr.opt_to hl ?_
      unfold big at h3
      cases hb : l.any badVar <;> simp [Tr.run_br, Tr.run_leaf, hlen, h3, h4, chk, hb, emptySl, big]
    · exact Tr.fail_some h2
  · exact Tr.fail_some h

end Go.AI.RK
