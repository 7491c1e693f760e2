/- resolve.Resolve for programs without statements, in sum. -/
import Derived.Test.YtolbinhdmenekaaRkC
namespace Go.AI.RK
open Go Go.Proofs
set_option maxRecDepth 10000
set_option linter.unusedVariables false
set_option linter.unusedSimpArgs false

def kss (l : List Var) : List DV := l.map fun v => .str v.name
def plcOf (o : Int × Int × Bool) : AV := .agg [.d (.int .i64 o.1), .d (.int .i64 o.2.1)]
def vss (a l : List Var) : List AV := l.map fun v => plcOf (lk (lookG a v.name 0))

/-- The declarations ahead of the first one whose name was there before. -/
def pref : List Var → List Var → List Var
  | d, [] => d
  | d, v :: r => if d.any (fun u => decide (u.name = v.name)) then d else pref (d ++ [v]) r
def dupB : List Var → List Var → Bool
  | d, [] => false
  | d, v :: r => if d.any (fun u => decide (u.name = v.name)) then true else dupB (d ++ [v]) r

/-- Too many cells? -/
def many : Int → List Var → Bool
  | _, [] => false
  | a, v :: r => if 32 - a < max v.size 1 then true else many (a + max v.size 1) r
def iniOf (v : Var) : List DV := .int .i64 v.init :: List.replicate ((max v.size 1).toNat - 1) (.int .i64 0)
def ini (l : List Var) : List DV := l.flatMap iniOf

noncomputable abbrev X0d : TX := ⟨Try.prog, tbl [], iso, gl, vw⟩

theorem xok_X0d (f : Nat) : XOK X0d (ann f) gl := XOK.of base (l := []) trivial f

def L_all_0 : ST → Tr (Ex × ST)
  | ⟨[(0, .hp 1 0), (5, .osl 18 []), (9, .d (.sl 18 xs)), (10, .d (.int .i64 m)), (11, .d (.int .i64 n))], [[.mpb .str ks vs], [.mp 0, .d (.bool a), .d (.bool b)]]⟩ => .br (decide (m = 0 ∧ n = 0)) (.leaf ((.ext 0), ⟨[(5, .osl 18 [])], [[.mpb .str ks vs], [.mp 0, .d (.bool a), .d (.bool b)]]⟩)) .fail
  | _ => .fail

def allT : FT
  | [.hp 1 0, .d (.sl 18 xs)], [[.mpb .str ks vs], [.mp 0, .d (.bool a), .d (.bool b)]] => .br xs.isEmpty (.leaf (.d (.sl 18 []), [[.mpb .str ks vs], [.mp 0, .d (.bool a), .d (.bool b)]])) .fail
  | _, _ => .fail

def l_all_0 : CC := .seq (.region [
    ⟨.yes, (some 12), .binOp .lss 3 (.tmp 11) (.tmp 10) 3, false, false, []⟩] [0, 5, 9, 10, 11, 12]) <|
  .seq (.cond (.tmp 12)
    (.skip)
    (.exit 0)) <|
  .seq (.block 1 <| .seq (.region [
    ⟨.yes, (some 13), .indexAddr 30 (.tmp 9) (.tmp 11), false, false, []⟩,
    ⟨.yes, (some 14), .load 58 (.tmp 13), false, false, [none, none, none, none, none, none, none, none, none, (some 6), none, none, none, none, none, (some 6), (some 18), (some 18)]⟩,
    ⟨.yes, (some 7), .alloc 58, false, false, []⟩,
    ⟨.yes, none, .store 58 (.tmp 7) (.tmp 14), true, false, []⟩] [0, 5, 7, 9, 10, 11]) <|
  .seq (.seq (.region [
    ⟨.yes, (some 15), .fieldAddr 58 (.tmp 7) 0, false, false, []⟩,
    ⟨.yes, (some 16), .load 3 (.tmp 15), false, false, []⟩,
    ⟨.yes, (some 17), .binOp .eql 3 (.tmp 16) (.const (.int .i64 (1))) 3, false, false, []⟩,
    ⟨.yes, (some 18), .move (.tmp 17), true, false, []⟩,
    ⟨(.on 18 false), (some 19), .fieldAddr 58 (.tmp 7) 0, false, false, []⟩,
    ⟨(.on 18 false), (some 20), .load 3 (.tmp 19), false, false, []⟩,
    ⟨(.on 18 false), (some 21), .binOp .eql 3 (.tmp 20) (.const (.int .i64 (2))) 3, false, false, []⟩,
    ⟨.yes, (some 22), .pick (.tmp 18) (.const (.bool true)) (.tmp 21), false, false, []⟩] [0, 5, 7, 9, 10, 11, 22]) <|
  .cond (.tmp 22)
    (.seq (.region [
      ⟨.yes, (some 23), .move (.tmp 0), false, false, []⟩,
      ⟨.yes, (some 24), .fieldAddr 58 (.tmp 7) 1, false, false, []⟩,
      ⟨.yes, (some 25), .load 9 (.tmp 24), false, false, []⟩,
      ⟨.yes, (some 26), .fieldAddr 58 (.tmp 7) 0, false, false, []⟩,
      ⟨.yes, (some 27), .load 3 (.tmp 26), false, false, []⟩,
      ⟨.yes, (some 28), .binOp .eql 3 (.tmp 27) (.const (.int .i64 (2))) 3, false, false, []⟩,
      ⟨.yes, (some 29), .call ⟨.value (.func 16), #[(.tmp 23), (.tmp 25), (.tmp 28)], #[53, 9, 4]⟩, false, false, []⟩,
      ⟨.yes, (some 8), .alloc 46, false, false, []⟩,
      ⟨.yes, none, .store 46 (.tmp 8) (.tmp 29), true, false, []⟩] [0, 5, 7, 8, 9, 10, 11]) <|
    .drawn ⟨[5, 7], [], [0, 5, 7, 9, 10, 11]⟩ [
      ⟨(some 30), .fieldAddr 46 (.tmp 8) 0, 0, "resolve.go:81", #[], none⟩,
      ⟨(some 31), .load 3 (.tmp 30), 3, "resolve.go:81", #[⟨0, .data⟩], none⟩,
      ⟨(some 32), .fieldAddr 46 (.tmp 8) 1, 0, "resolve.go:81", #[⟨5, .gcOnly .lateStores⟩], none⟩,
      ⟨(some 33), .load 3 (.tmp 32), 3, "resolve.go:81", #[⟨2, .data⟩, ⟨5, .gcOnly .lateStores⟩], none⟩,
      ⟨(some 34), .fieldAddr 58 (.tmp 7) 2, 0, "resolve.go:81", #[⟨0, .phase⟩, ⟨1, .phase⟩, ⟨2, .textOnly .lateStores⟩, ⟨3, .textOnly .lateStores⟩], none⟩,
      ⟨none, .store 3 (.tmp 34) (.tmp 31), 0, "resolve.go:81", #[⟨4, .data⟩, ⟨1, .data⟩, ⟨0, .phase⟩, ⟨1, .phase⟩, ⟨2, .textOnly .lateStores⟩, ⟨3, .textOnly .lateStores⟩], none⟩,
      ⟨(some 35), .fieldAddr 58 (.tmp 7) 3, 0, "resolve.go:81", #[⟨0, .phase⟩, ⟨1, .phase⟩, ⟨2, .phase⟩, ⟨3, .phase⟩, ⟨4, .phase⟩, ⟨5, .phase⟩], none⟩,
      ⟨none, .store 3 (.tmp 35) (.tmp 33), 0, "resolve.go:81", #[⟨6, .data⟩, ⟨3, .data⟩, ⟨5, .chain⟩, ⟨0, .phase⟩, ⟨1, .phase⟩, ⟨2, .phase⟩, ⟨3, .phase⟩, ⟨4, .phase⟩, ⟨5, .phase⟩], none⟩])
    (.skip)) <|
  .seq (.drawn ⟨[9, 11], [], [0, 5, 7, 9, 10, 11]⟩ [
    ⟨(some 36), .move (.tmp 0), 53, "resolve.go:83", #[], none⟩,
    ⟨(some 37), .fieldAddr 58 (.tmp 7) 4, 0, "resolve.go:83", #[], none⟩,
    ⟨(some 38), .load 56 (.tmp 37), 56, "resolve.go:83", #[⟨1, .data⟩], none⟩,
    ⟨(some 39), .call ⟨.value (.func 17), #[(.tmp 36), (.tmp 38)], #[53, 56]⟩, 56, "resolve.go:83", #[⟨0, .data⟩, ⟨2, .data⟩], none⟩,
    ⟨(some 40), .move (.tmp 0), 53, "resolve.go:83", #[], none⟩,
    ⟨(some 41), .fieldAddr 58 (.tmp 7) 5, 0, "resolve.go:83", #[], none⟩,
    ⟨(some 42), .load 56 (.tmp 41), 56, "resolve.go:83", #[⟨5, .data⟩], none⟩,
    ⟨(some 43), .call ⟨.value (.func 17), #[(.tmp 40), (.tmp 42)], #[53, 56]⟩, 56, "resolve.go:83", #[⟨4, .data⟩, ⟨6, .data⟩, ⟨3, .chain⟩], none⟩,
    ⟨(some 44), .fieldAddr 58 (.tmp 7) 4, 0, "resolve.go:83", #[⟨0, .phase⟩, ⟨1, .phase⟩, ⟨2, .phase⟩, ⟨3, .phase⟩, ⟨4, .textOnly .lateStores⟩, ⟨5, .phase⟩, ⟨6, .phase⟩, ⟨7, .textOnly .lateStoresUnsure⟩], none⟩,
    ⟨none, .store 56 (.tmp 44) (.tmp 39), 0, "resolve.go:83", #[⟨8, .data⟩, ⟨3, .data⟩, ⟨7, .chain⟩, ⟨0, .phase⟩, ⟨1, .phase⟩, ⟨2, .phase⟩, ⟨3, .phase⟩, ⟨4, .textOnly .lateStores⟩, ⟨5, .phase⟩, ⟨6, .phase⟩, ⟨7, .textOnly .lateStoresUnsure⟩], none⟩,
    ⟨(some 45), .fieldAddr 58 (.tmp 7) 5, 0, "resolve.go:83", #[⟨0, .phase⟩, ⟨1, .phase⟩, ⟨2, .phase⟩, ⟨3, .phase⟩, ⟨4, .phase⟩, ⟨5, .phase⟩, ⟨6, .phase⟩, ⟨7, .phase⟩, ⟨8, .phase⟩, ⟨9, .phase⟩], none⟩,
    ⟨none, .store 56 (.tmp 45) (.tmp 43), 0, "resolve.go:83", #[⟨10, .data⟩, ⟨7, .data⟩, ⟨9, .chain⟩, ⟨0, .phase⟩, ⟨1, .phase⟩, ⟨2, .phase⟩, ⟨3, .phase⟩, ⟨4, .phase⟩, ⟨5, .phase⟩, ⟨6, .phase⟩, ⟨7, .phase⟩, ⟨8, .phase⟩, ⟨9, .phase⟩], none⟩]) <|
  .seq (.drawn ⟨[9, 11], [], [0, 5, 7, 9, 10, 11]⟩ [
    ⟨(some 46), .move (.tmp 0), 53, "resolve.go:84", #[], none⟩,
    ⟨(some 47), .fieldAddr 58 (.tmp 7) 6, 0, "resolve.go:84", #[], none⟩,
    ⟨(some 48), .load 30 (.tmp 47), 30, "resolve.go:84", #[⟨1, .data⟩], none⟩,
    ⟨(some 49), .call ⟨.value (.func 12), #[(.tmp 46), (.tmp 48)], #[53, 30]⟩, 30, "resolve.go:84", #[⟨0, .data⟩, ⟨2, .data⟩], none⟩,
    ⟨(some 50), .move (.tmp 0), 53, "resolve.go:84", #[], none⟩,
    ⟨(some 51), .fieldAddr 58 (.tmp 7) 7, 0, "resolve.go:84", #[], none⟩,
    ⟨(some 52), .load 30 (.tmp 51), 30, "resolve.go:84", #[⟨5, .data⟩], none⟩,
    ⟨(some 53), .call ⟨.value (.func 12), #[(.tmp 50), (.tmp 52)], #[53, 30]⟩, 30, "resolve.go:84", #[⟨4, .data⟩, ⟨6, .data⟩, ⟨3, .chain⟩], none⟩,
    ⟨(some 54), .fieldAddr 58 (.tmp 7) 6, 0, "resolve.go:84", #[⟨0, .phase⟩, ⟨1, .phase⟩, ⟨2, .phase⟩, ⟨3, .phase⟩, ⟨4, .textOnly .lateStores⟩, ⟨5, .phase⟩, ⟨6, .phase⟩, ⟨7, .textOnly .lateStoresUnsure⟩], none⟩,
    ⟨none, .store 30 (.tmp 54) (.tmp 49), 0, "resolve.go:84", #[⟨8, .data⟩, ⟨3, .data⟩, ⟨7, .chain⟩, ⟨0, .phase⟩, ⟨1, .phase⟩, ⟨2, .phase⟩, ⟨3, .phase⟩, ⟨4, .textOnly .lateStores⟩, ⟨5, .phase⟩, ⟨6, .phase⟩, ⟨7, .textOnly .lateStoresUnsure⟩], none⟩,
    ⟨(some 55), .fieldAddr 58 (.tmp 7) 7, 0, "resolve.go:84", #[⟨0, .phase⟩, ⟨1, .phase⟩, ⟨2, .phase⟩, ⟨3, .phase⟩, ⟨4, .phase⟩, ⟨5, .phase⟩, ⟨6, .phase⟩, ⟨7, .phase⟩, ⟨8, .phase⟩, ⟨9, .phase⟩], none⟩,
    ⟨none, .store 30 (.tmp 55) (.tmp 53), 0, "resolve.go:84", #[⟨10, .data⟩, ⟨7, .data⟩, ⟨9, .chain⟩, ⟨0, .phase⟩, ⟨1, .phase⟩, ⟨2, .phase⟩, ⟨3, .phase⟩, ⟨4, .phase⟩, ⟨5, .phase⟩, ⟨6, .phase⟩, ⟨7, .phase⟩, ⟨8, .phase⟩, ⟨9, .phase⟩], none⟩]) <|
  .region [
    ⟨.yes, (some 56), .move (.tmp 5), true, false, [(some 18)]⟩,
    ⟨.yes, (some 57), .load 58 (.tmp 7), false, false, [none, none, none, none, none, none, none, none, none, (some 6), none, none, none, none, none, (some 6), (some 18), (some 18)]⟩,
    ⟨.yes, (some 58), .buildSlice 30 1 #[(0, (.tmp 57))], false, false, [(some 18)]⟩,
    ⟨.yes, (some 59), .call ⟨.builtin .append, #[(.tmp 56), (.tmp 58)], #[30, 30]⟩, true, false, [(some 18)]⟩,
    ⟨.yes, (some 5), .assign (.tmp 59), true, false, [(some 18)]⟩] [0, 5, 9, 10, 11]) <|
  .region [
    ⟨.yes, (some 60), .binOp .add 3 (.tmp 11) (.const (.int .i64 (1))) 3, false, false, []⟩,
    ⟨.yes, (some 11), .move (.tmp 60), true, false, []⟩] [0, 5, 9, 10, 11]

/-- (*rollbacknet/resolve.resolver).all -/
def c_all : CC := .seq (.region [
    ⟨.yes, (some 4), .assign (.const (.slice none 0 0)), false, false, [(some 18)]⟩] [0, 1]) <|
  .seq (.region [
    ⟨.yes, (some 5), .assign (.const (.slice none 0 0)), false, false, [(some 18)]⟩] [0, 1, 5]) <|
  .seq (.seq (.region [
    ⟨.yes, (some 9), .move (.tmp 1), true, false, [(some 18)]⟩,
    ⟨.yes, (some 10), .call ⟨.builtin .len, #[(.tmp 9)], #[30]⟩, false, false, []⟩,
    ⟨.yes, (some 11), .move (.const (.int .i64 (0))), false, false, []⟩] [0, 5, 9, 10, 11]) <|
  .block 0 <| .keep [0, 5, 9, 10, 11] <| .sum L_all_0 (.loop l_all_0)) <|
  .seq (.region [
    ⟨.yes, (some 61), .move (.tmp 5), true, false, [(some 18)]⟩,
    ⟨.yes, (some 4), .assign (.tmp 61), true, false, [(some 18)]⟩] [4]) <|
  .ret

theorem c_all_eq : ∃ c, Try.f12.body = some c ∧ codeOK Try.f12.ntmps c = true ∧ comp Try.prog (ann 12) c = erase c_all := ⟨_, rfl, by kernel_rfl, by kernel_rfl⟩

theorem body_all_0 (xs ks : List DV) (vs : List AV) (a b : Bool) (m n : Int) : bodyT X0d [0, 5, 9, 10, 11] [4] [(0, [5])] l_all_0 ⟨[(0, .hp 1 0), (5, .osl 18 []), (9, .d (.sl 18 xs)), (10, .d (.int .i64 m)), (11, .d (.int .i64 n))], [[.mpb .str ks vs], [.mp 0, .d (.bool a), .d (.bool b)]]⟩ = (
    .br (decide (n < m))
    (.br (decide ((0 : Int) ≤ n))
      (.opt ((xs[(Int.toNat n)]?).bind unSt) fun y1 => .br (decide (y1.kind = 1))
        (.fail)
        (.br (decide (y1.kind = 2))
          (.fail)
          (.fail)))
      (.fail))
    (.leaf ((.ext 0), ⟨[(5, (.osl 18 []))], [[(.mpb .str ks vs)], [(.mp 0), (.d (.bool a)), (.d (.bool b))]]⟩)) : Tr (Ex × ST)) := by kernel_rfl

theorem tree_all (xs ks : List DV) (vs : List AV) (a b : Bool) : fnT X0d c_all Try.f12.results.toList [.hp 1 0, .d (.sl 18 xs)] [[.mpb .str ks vs], [.mp 0, .d (.bool a), .d (.bool b)]] = (
    .br (decide ((xs.length : Int) = 0 ∧ (0 : Int) = 0))
    (.leaf ((.d (.sl 18 [])), [[(.mpb .str ks vs)], [(.mp 0), (.d (.bool a)), (.d (.bool b))]]))
    (.fail) : Tr (AV × Hp)) := by kernel_rfl


theorem sum_all_0 : SumOK Try.prog gl (ann 12) L_all_0 (.loop l_all_0) := by
  refine SumOK.of_inv (X := X0d) (xok_X0d 12) (by simp only [Sums, l_all_0, and_true]) (by kernel_rfl) (lv := [0, 5, 9, 10, 11]) (rt := [4]) (xs := [(0, [5])]) (by decide)
    (fun k st r => ∃ (xs ks : List DV) (vs : List AV) (a b : Bool), st = ⟨[(0, .hp 1 0), (5, .osl 18 []), (9, .d (.sl 18 xs)), (10, .d (.int .i64 0)), (11, .d (.int .i64 0))], [[.mpb .str ks vs], [.mp 0, .d (.bool a), .d (.bool b)]]⟩ ∧ r = (.ext 0, ⟨[(5, .osl 18 [])], [[.mpb .str ks vs], [.mp 0, .d (.bool a), .d (.bool b)]]⟩)) ?_ ?_
  · intro st r h
    unfold L_all_0 at h
    split at h
    · rename_i xs m n ks vs a b
      rcases Tr.br_some h with ⟨h1, h2⟩ | ⟨_, h2⟩
      · obtain ⟨rfl, rfl⟩ := of_decide_eq_true h1
        exact ⟨0, xs, ks, vs, a, b, rfl, (Tr.leaf_some h2).symm⟩
      · exact Tr.fail_some h2
    · exact Tr.fail_some h
  · rintro k st r ⟨xs, ks, vs, a, b, rfl, rfl⟩
    rw [body_all_0]
    exact ⟨.ext 0, _, rfl, .inl ⟨by simp, rfl⟩⟩

theorem ok_all : FnOK Try.prog gl 12 allT := by
  refine fn_of (X := X0d) (xok_X0d 12) Try.func12 c_all_eq (by kernel_rfl) (by simp only [Sums, c_all, and_true, true_and]; exact sum_all_0) ?_
  intro xs H o h
  unfold allT at h
  split at h
  · rename_i xs ks vs a b
    rw [tree_all]
    rcases Tr.br_some h with ⟨h1, h2⟩ | ⟨_, h2⟩
    · obtain rfl := Tr.leaf_some h2
      have h3 : xs = [] := by simpa using h1
      subst h3
      simp [Tr.run_br, Tr.run_leaf]
    · exact Tr.fail_some h2
  · exact Tr.fail_some h

noncomputable abbrev Xrs : TX := ⟨Try.prog, tbl [(11, checkT), (7, lookupT), (12, allT)], iso, gl, vw⟩

theorem xok_Xrs (f : Nat) : XOK Xrs (ann f) gl := XOK.of base (l := [(11, checkT), (7, lookupT), (12, allT)]) ⟨ok_check, ok_lookup, ok_all, trivial⟩ f

def L_resolve_0 : ST → Tr (Ex × ST)
  | ⟨[(1, .box [.d (.sl 3 xs), .d (.sl 18 []), .d (.sl 18 []), .d (.sl 18 []), .d (.sl 18 [])]), (2, .box [.osl 1 [], .osl 18 [], .osl 18 [], .osl 18 [], .osl 18 []]), (5, .hp 1 0), (31, .d (.sl 3 ys)), (32, .d (.int .i64 m)), (33, .d (.int .i64 n))], [[.mpb .str [] []], [.mp 0, .d (.bool false), .d (.bool false)]]⟩ => .opt (unL unVar ys) fun l => .opt (unL unVar xs) fun q => .br (decide (m = l.length ∧ n = 0 ∧ m ≤ big ∧ l = q)) (.br (dupB [] l) (.leaf (.ret, ⟨[(2, .box [.osl 1 [], .osl 18 [], .osl 18 [], .osl 18 [], .osl 18 []]), (3, .d (.int .i64 2))], [[.mpb .str (kss (pref [] l)) (vss l (pref [] l))], [.mp 0, .d (.bool false), .d (.bool false)]]⟩)) (.leaf ((.ext 0), ⟨[(1, .box [.d (.sl 3 xs), .d (.sl 18 []), .d (.sl 18 []), .d (.sl 18 []), .d (.sl 18 [])]), (2, .box [.osl 1 [], .osl 18 [], .osl 18 [], .osl 18 [], .osl 18 []]), (5, .hp 1 0)], [[.mpb .str (kss (pref [] l)) (vss l (pref [] l))], [.mp 0, .d (.bool false), .d (.bool false)]]⟩))) .fail
  | _ => .fail

def L_resolve_1 : ST → Tr (Ex × ST)
  | ⟨[(1, .box [.d (.sl 3 xs), .d (.sl 18 []), .d (.sl 18 []), .d (.sl 18 []), .d (.sl 18 [])]), (2, .box [.osl 1 [], .osl 18 [], .osl 18 [], .osl 18 [], .osl 18 []]), (5, .hp 1 0), (13, .box [.osl 1 [], .osl 18 [], .osl 18 [], .osl 18 [], .osl 18 []]), (65, .d (.sl 3 ys)), (66, .d (.int .i64 m)), (67, .d (.int .i64 n))], [[.mpb .str ks vs], [.mp 0, .d (.bool false), .d (.bool false)]]⟩ => .opt (unL unVar ys) fun l => .br (decide (m = l.length ∧ n = 0 ∧ m ≤ big)) (.br (many 0 l) (.leaf (.ret, ⟨[(2, .box [.osl 1 [], .osl 18 [], .osl 18 [], .osl 18 [], .osl 18 []]), (3, .d (.int .i64 4))], [[.mpb .str ks vs], [.mp 0, .d (.bool false), .d (.bool false)]]⟩)) (.leaf ((.ext 2), ⟨[(1, .box [.d (.sl 3 xs), .d (.sl 18 []), .d (.sl 18 []), .d (.sl 18 []), .d (.sl 18 [])]), (2, .box [.osl 1 [], .osl 18 [], .osl 18 [], .osl 18 [], .osl 18 []]), (5, .hp 1 0), (13, .box [.osl 1 (ini l), .osl 18 [], .osl 18 [], .osl 18 [], .osl 18 []])], [[.mpb .str ks vs], [.mp 0, .d (.bool false), .d (.bool false)]]⟩))) .fail
  | _ => .fail

def l_resolve_0 : CC := .seq (.region [
    ⟨.yes, (some 34), .binOp .lss 3 (.tmp 33) (.tmp 32) 3, false, false, []⟩] [1, 2, 5, 31, 32, 33, 34]) <|
  .seq (.cond (.tmp 34)
    (.skip)
    (.exit 0)) <|
  .seq (.block 1 <| .seq (.region [
    ⟨.yes, (some 35), .indexAddr 22 (.tmp 31) (.tmp 33), false, false, []⟩,
    ⟨.yes, (some 36), .load 25 (.tmp 35), false, false, []⟩,
    ⟨.yes, (some 7), .alloc 25, false, false, []⟩,
    ⟨.yes, none, .store 25 (.tmp 7) (.tmp 36), true, false, []⟩] [1, 2, 5, 7, 31, 32, 33]) <|
  .seq (.seq (.region [
    ⟨.yes, (some 38), .fieldAddr 44 (.tmp 5) 0, false, false, []⟩,
    ⟨.yes, (some 39), .load 42 (.tmp 38), false, false, []⟩,
    ⟨.yes, (some 40), .fieldAddr 25 (.tmp 7) 0, false, false, []⟩,
    ⟨.yes, (some 41), .load 9 (.tmp 40), false, false, []⟩,
    ⟨.yes, (some 42), .lookup 42 (.tmp 39) (.tmp 41) true, false, false, []⟩,
    ⟨.yes, (some 37), .move (.tmp 42), true, false, []⟩,
    ⟨.yes, (some 43), .extract (.tmp 37) 0, false, false, []⟩,
    ⟨.yes, (some 44), .extract (.tmp 37) 1, false, false, []⟩,
    ⟨.yes, (some 8), .alloc 46, false, false, []⟩,
    ⟨.yes, none, .store 46 (.tmp 8) (.tmp 43), true, false, []⟩,
    ⟨.yes, (some 9), .assign (.tmp 44), true, false, []⟩] [1, 2, 5, 7, 9, 31, 32, 33]) <|
  .seq (.region [
    ⟨.yes, (some 45), .move (.tmp 9), true, false, []⟩] [1, 2, 5, 7, 31, 32, 33, 45]) <|
  .cond (.tmp 45)
    (.seq (.region [
      ⟨.yes, (some 46), .build 36 #[], false, false, [(some 1), (some 18), (some 18), (some 18), (some 18)]⟩,
      ⟨.yes, none, .store 36 (.tmp 2) (.tmp 46), true, false, []⟩,
      ⟨.yes, (some 3), .assign (.const (.int .i64 (2))), false, false, []⟩] [2, 3]) <|
    .ret)
    (.skip)) <|
  .seq (.region [
    ⟨.yes, (some 48), .fieldAddr 32 (.tmp 1) 0, false, false, []⟩,
    ⟨.yes, (some 49), .load 22 (.tmp 48), false, false, [(some 3)]⟩,
    ⟨.yes, (some 50), .fieldAddr 25 (.tmp 7) 0, false, false, []⟩,
    ⟨.yes, (some 51), .load 9 (.tmp 50), false, false, []⟩,
    ⟨.yes, (some 52), .call ⟨.value (.func 7), #[(.tmp 49), (.tmp 51)], #[22, 9]⟩, false, false, []⟩,
    ⟨.yes, (some 47), .move (.tmp 52), true, false, []⟩,
    ⟨.yes, (some 53), .extract (.tmp 47) 0, false, false, []⟩,
    ⟨.yes, (some 54), .extract (.tmp 47) 1, false, false, []⟩,
    ⟨.yes, (some 55), .extract (.tmp 47) 2, false, false, []⟩,
    ⟨.yes, (some 10), .assign (.tmp 53), true, false, []⟩,
    ⟨.yes, (some 11), .assign (.tmp 54), true, false, []⟩,
    ⟨.yes, (some 12), .assign (.tmp 55), true, false, []⟩] [1, 2, 5, 7, 10, 11, 31, 32, 33]) <|
  .region [
    ⟨.yes, (some 56), .fieldAddr 44 (.tmp 5) 0, false, false, []⟩,
    ⟨.yes, (some 57), .load 42 (.tmp 56), false, false, []⟩,
    ⟨.yes, (some 58), .fieldAddr 25 (.tmp 7) 0, false, false, []⟩,
    ⟨.yes, (some 59), .load 9 (.tmp 58), false, false, []⟩,
    ⟨.yes, (some 60), .move (.tmp 10), true, false, []⟩,
    ⟨.yes, (some 61), .move (.tmp 11), true, false, []⟩,
    ⟨.yes, (some 62), .build 46 #[(0, (.tmp 60)), (1, (.tmp 61))], true, false, []⟩,
    ⟨.yes, none, .mapUpdate 42 (.tmp 57) (.tmp 59) (.tmp 62), false, false, []⟩] [1, 2, 5, 31, 32, 33]) <|
  .region [
    ⟨.yes, (some 63), .binOp .add 3 (.tmp 33) (.const (.int .i64 (1))) 3, false, false, []⟩,
    ⟨.yes, (some 33), .move (.tmp 63), true, false, []⟩] [1, 2, 5, 31, 32, 33]

def l_resolve_1 : CC := .seq (.region [
    ⟨.yes, (some 68), .binOp .lss 3 (.tmp 67) (.tmp 66) 3, false, false, []⟩] [1, 2, 5, 13, 65, 66, 67, 68]) <|
  .seq (.cond (.tmp 68)
    (.skip)
    (.exit 2)) <|
  .seq (.block 3 <| .seq (.region [
    ⟨.yes, (some 69), .indexAddr 22 (.tmp 65) (.tmp 67), false, false, []⟩,
    ⟨.yes, (some 70), .load 25 (.tmp 69), false, false, []⟩,
    ⟨.yes, (some 15), .alloc 25, false, false, []⟩,
    ⟨.yes, none, .store 25 (.tmp 15) (.tmp 70), true, false, []⟩] [1, 2, 5, 13, 15, 65, 66, 67]) <|
  .seq (.region [
    ⟨.yes, (some 71), .fieldAddr 25 (.tmp 15) 1, false, false, []⟩,
    ⟨.yes, (some 72), .load 3 (.tmp 71), false, false, []⟩,
    ⟨.yes, (some 73), .call ⟨.builtin .max, #[(.tmp 72), (.const (.int .i64 (1)))], #[3, 3]⟩, false, false, []⟩,
    ⟨.yes, (some 16), .assign (.tmp 73), true, false, []⟩] [1, 2, 5, 13, 15, 16, 65, 66, 67]) <|
  .seq (.seq (.region [
    ⟨.yes, (some 74), .move (.tmp 16), false, false, []⟩,
    ⟨.yes, (some 75), .fieldAddr 36 (.tmp 13) 0, false, false, []⟩,
    ⟨.yes, (some 76), .load 34 (.tmp 75), false, false, [(some 1)]⟩,
    ⟨.yes, (some 77), .call ⟨.builtin .len, #[(.tmp 76)], #[34]⟩, false, false, []⟩,
    ⟨.yes, (some 78), .binOp .sub 3 (.const (.int .i64 (32))) (.tmp 77) 3, false, false, []⟩,
    ⟨.yes, (some 79), .binOp .gtr 3 (.tmp 74) (.tmp 78) 3, false, false, []⟩] [1, 2, 5, 13, 15, 16, 65, 66, 67, 79]) <|
  .cond (.tmp 79)
    (.seq (.region [
      ⟨.yes, (some 80), .build 36 #[], false, false, [(some 1), (some 18), (some 18), (some 18), (some 18)]⟩,
      ⟨.yes, none, .store 36 (.tmp 2) (.tmp 80), true, false, []⟩,
      ⟨.yes, (some 3), .assign (.const (.int .i64 (4))), false, false, []⟩] [2, 3]) <|
    .ret)
    (.skip)) <|
  .seq (.region [
    ⟨.yes, (some 81), .fieldAddr 36 (.tmp 13) 0, false, false, []⟩,
    ⟨.yes, (some 82), .load 34 (.tmp 81), true, false, [(some 1)]⟩,
    ⟨.yes, (some 83), .move (.tmp 16), false, false, []⟩,
    ⟨.yes, (some 84), .call ⟨.builtin .append, #[(.tmp 82), (.tmp 83)], #[34, 3]⟩, true, false, [(some 1)]⟩,
    ⟨.yes, (some 85), .fieldAddr 36 (.tmp 13) 0, false, false, []⟩,
    ⟨.yes, none, .store 34 (.tmp 85) (.tmp 84), true, false, []⟩] [1, 2, 5, 13, 15, 16, 65, 66, 67]) <|
  .sum (pokeF 13 16 15 [86, 87, 88, 89, 90, 91, 92, 93, 94, 95] [1, 2, 5, 13, 65, 66, 67]) (.region [
    ⟨.yes, (some 86), .fieldAddr 36 (.tmp 13) 0, false, false, []⟩,
    ⟨.yes, (some 87), .load 34 (.tmp 86), false, false, [(some 1)]⟩,
    ⟨.yes, (some 88), .fieldAddr 36 (.tmp 13) 0, false, false, []⟩,
    ⟨.yes, (some 89), .load 34 (.tmp 88), false, false, [(some 1)]⟩,
    ⟨.yes, (some 90), .call ⟨.builtin .len, #[(.tmp 89)], #[34]⟩, false, false, []⟩,
    ⟨.yes, (some 91), .move (.tmp 16), true, false, []⟩,
    ⟨.yes, (some 92), .binOp .sub 3 (.tmp 90) (.tmp 91) 3, false, false, []⟩,
    ⟨.yes, (some 93), .fieldAddr 25 (.tmp 15) 2, false, false, []⟩,
    ⟨.yes, (some 94), .load 3 (.tmp 93), false, false, []⟩,
    ⟨.yes, (some 95), .indexAddr 34 (.tmp 87) (.tmp 92), false, false, []⟩,
    ⟨.yes, none, .store 3 (.tmp 95) (.tmp 94), true, false, []⟩] [1, 2, 5, 13, 65, 66, 67])) <|
  .region [
    ⟨.yes, (some 96), .binOp .add 3 (.tmp 67) (.const (.int .i64 (1))) 3, false, false, []⟩,
    ⟨.yes, (some 67), .move (.tmp 96), true, false, []⟩] [1, 2, 5, 13, 65, 66, 67]

/-- rollbacknet/resolve.Resolve -/
def c_resolve : CC := .seq (.region [
    ⟨.yes, (some 1), .box 32 (.tmp 0), true, false, []⟩,
    ⟨.yes, (some 2), .alloc 36, false, false, []⟩,
    ⟨.yes, (some 3), .assign (.const (.int .i64 (0))), false, false, []⟩] [1, 2]) <|
  .seq (.seq (.region [
    ⟨.yes, (some 17), .load 32 (.tmp 1), false, false, [(some 3), (some 18), (some 18), (some 18), (some 18)]⟩,
    ⟨.yes, (some 18), .call ⟨.value (.func 11), #[(.tmp 17)], #[32]⟩, false, false, []⟩,
    ⟨.yes, (some 4), .assign (.tmp 18), true, false, []⟩] [1, 2, 4]) <|
  .seq (.region [
    ⟨.yes, (some 19), .move (.tmp 4), false, false, []⟩,
    ⟨.yes, (some 20), .binOp .neq 33 (.tmp 19) (.const (.int .i64 (0))) 33, false, false, []⟩] [1, 2, 4, 20]) <|
  .cond (.tmp 20)
    (.seq (.region [
      ⟨.yes, (some 21), .build 36 #[], false, false, [(some 1), (some 18), (some 18), (some 18), (some 18)]⟩,
      ⟨.yes, (some 22), .move (.tmp 4), true, false, []⟩,
      ⟨.yes, none, .store 36 (.tmp 2) (.tmp 21), true, false, []⟩,
      ⟨.yes, (some 3), .assign (.tmp 22), true, false, []⟩] [2, 3]) <|
    .ret)
    (.skip)) <|
  .seq (.seq (.region [
    ⟨.yes, (some 23), .fieldAddr 32 (.tmp 1) 0, false, false, []⟩,
    ⟨.yes, (some 24), .load 22 (.tmp 23), false, false, [(some 3)]⟩,
    ⟨.yes, (some 25), .call ⟨.builtin .len, #[(.tmp 24)], #[22]⟩, false, false, []⟩,
    ⟨.yes, (some 26), .binOp .gtr 3 (.tmp 25) (.const (.int .i64 (16))) 3, false, false, []⟩] [1, 2, 26]) <|
  .cond (.tmp 26)
    (.seq (.region [
      ⟨.yes, (some 27), .build 36 #[], false, false, [(some 1), (some 18), (some 18), (some 18), (some 18)]⟩,
      ⟨.yes, none, .store 36 (.tmp 2) (.tmp 27), true, false, []⟩,
      ⟨.yes, (some 3), .assign (.const (.int .i64 (4))), false, false, []⟩] [2, 3]) <|
    .ret)
    (.skip)) <|
  .seq (.region [
    ⟨.yes, (some 28), .makeMap 42 none, false, false, []⟩,
    ⟨.yes, (some 29), .build 44 #[(0, (.tmp 28))], true, false, []⟩,
    ⟨.yes, (some 5), .alloc 44, false, true, []⟩,
    ⟨.yes, none, .store 44 (.tmp 5) (.tmp 29), true, false, []⟩] [1, 2, 5]) <|
  .seq (.seq (.region [
    ⟨.yes, (some 30), .fieldAddr 32 (.tmp 1) 0, false, false, []⟩,
    ⟨.yes, (some 31), .load 22 (.tmp 30), false, false, [(some 3)]⟩,
    ⟨.yes, (some 32), .call ⟨.builtin .len, #[(.tmp 31)], #[22]⟩, false, false, []⟩,
    ⟨.yes, (some 33), .move (.const (.int .i64 (0))), false, false, []⟩] [1, 2, 5, 31, 32, 33]) <|
  .block 0 <| .keep [1, 2, 5, 31, 32, 33] <| .sum L_resolve_0 (.loop l_resolve_0)) <|
  .seq (.region [
    ⟨.yes, (some 13), .alloc 36, false, false, []⟩] [1, 2, 5, 13]) <|
  .seq (.seq (.region [
    ⟨.yes, (some 64), .fieldAddr 32 (.tmp 1) 0, false, false, []⟩,
    ⟨.yes, (some 65), .load 22 (.tmp 64), false, false, [(some 3)]⟩,
    ⟨.yes, (some 66), .call ⟨.builtin .len, #[(.tmp 65)], #[22]⟩, false, false, []⟩,
    ⟨.yes, (some 67), .move (.const (.int .i64 (0))), false, false, []⟩] [1, 2, 5, 13, 65, 66, 67]) <|
  .block 2 <| .keep [1, 2, 5, 13, 65, 66, 67] <| .sum L_resolve_1 (.loop l_resolve_1)) <|
  .seq (.drawn ⟨[13, 15, 17, 19], [], [2, 5, 13]⟩ [
    ⟨(some 97), .fieldAddr 32 (.tmp 1) 1, 0, "resolve.go:58", #[], none⟩,
    ⟨(some 98), .load 30 (.tmp 97), 30, "resolve.go:58", #[⟨0, .data⟩], none⟩,
    ⟨(some 99), .call ⟨.value (.func 12), #[(.tmp 5), (.tmp 98)], #[44, 30]⟩, 30, "resolve.go:58", #[⟨1, .data⟩], none⟩,
    ⟨(some 100), .fieldAddr 32 (.tmp 1) 2, 0, "resolve.go:58", #[], none⟩,
    ⟨(some 101), .load 30 (.tmp 100), 30, "resolve.go:58", #[⟨3, .data⟩], none⟩,
    ⟨(some 102), .call ⟨.value (.func 12), #[(.tmp 5), (.tmp 101)], #[44, 30]⟩, 30, "resolve.go:58", #[⟨4, .data⟩, ⟨2, .chain⟩], none⟩,
    ⟨(some 103), .fieldAddr 32 (.tmp 1) 3, 0, "resolve.go:58", #[], none⟩,
    ⟨(some 104), .load 30 (.tmp 103), 30, "resolve.go:58", #[⟨6, .data⟩], none⟩,
    ⟨(some 105), .call ⟨.value (.func 12), #[(.tmp 5), (.tmp 104)], #[44, 30]⟩, 30, "resolve.go:58", #[⟨7, .data⟩, ⟨5, .chain⟩], none⟩,
    ⟨(some 106), .fieldAddr 32 (.tmp 1) 4, 0, "resolve.go:58", #[], none⟩,
    ⟨(some 107), .load 30 (.tmp 106), 30, "resolve.go:58", #[⟨9, .data⟩], none⟩,
    ⟨(some 108), .call ⟨.value (.func 12), #[(.tmp 5), (.tmp 107)], #[44, 30]⟩, 30, "resolve.go:58", #[⟨10, .data⟩, ⟨8, .chain⟩], none⟩,
    ⟨(some 109), .fieldAddr 36 (.tmp 13) 1, 0, "resolve.go:58", #[⟨0, .phase⟩, ⟨1, .phase⟩, ⟨2, .phase⟩, ⟨3, .textOnly .lateStores⟩, ⟨4, .textOnly .lateStores⟩, ⟨5, .textOnly .lateStoresUnsure⟩, ⟨6, .textOnly .lateStores⟩, ⟨7, .textOnly .lateStores⟩, ⟨8, .textOnly .lateStoresUnsure⟩, ⟨9, .textOnly .lateStores⟩, ⟨10, .textOnly .lateStores⟩, ⟨11, .textOnly .lateStoresUnsure⟩], none⟩,
    ⟨none, .store 30 (.tmp 109) (.tmp 99), 0, "resolve.go:58", #[⟨12, .data⟩, ⟨2, .data⟩, ⟨11, .chain⟩, ⟨0, .phase⟩, ⟨1, .phase⟩, ⟨2, .phase⟩, ⟨3, .textOnly .lateStores⟩, ⟨4, .textOnly .lateStores⟩, ⟨5, .textOnly .lateStoresUnsure⟩, ⟨6, .textOnly .lateStores⟩, ⟨7, .textOnly .lateStores⟩, ⟨8, .textOnly .lateStoresUnsure⟩, ⟨9, .textOnly .lateStores⟩, ⟨10, .textOnly .lateStores⟩, ⟨11, .textOnly .lateStoresUnsure⟩], none⟩,
    ⟨(some 110), .fieldAddr 36 (.tmp 13) 2, 0, "resolve.go:58", #[⟨0, .phase⟩, ⟨1, .phase⟩, ⟨2, .phase⟩, ⟨3, .phase⟩, ⟨4, .phase⟩, ⟨5, .phase⟩, ⟨6, .textOnly .lateStores⟩, ⟨7, .textOnly .lateStores⟩, ⟨8, .textOnly .lateStoresUnsure⟩, ⟨9, .textOnly .lateStores⟩, ⟨10, .textOnly .lateStores⟩, ⟨11, .textOnly .lateStoresUnsure⟩, ⟨12, .phase⟩, ⟨13, .phase⟩], none⟩,
    ⟨none, .store 30 (.tmp 110) (.tmp 102), 0, "resolve.go:58", #[⟨14, .data⟩, ⟨5, .data⟩, ⟨13, .chain⟩, ⟨0, .phase⟩, ⟨1, .phase⟩, ⟨2, .phase⟩, ⟨3, .phase⟩, ⟨4, .phase⟩, ⟨5, .phase⟩, ⟨6, .textOnly .lateStores⟩, ⟨7, .textOnly .lateStores⟩, ⟨8, .textOnly .lateStoresUnsure⟩, ⟨9, .textOnly .lateStores⟩, ⟨10, .textOnly .lateStores⟩, ⟨11, .textOnly .lateStoresUnsure⟩, ⟨12, .phase⟩, ⟨13, .phase⟩], none⟩,
    ⟨(some 111), .fieldAddr 36 (.tmp 13) 3, 0, "resolve.go:58", #[⟨0, .phase⟩, ⟨1, .phase⟩, ⟨2, .phase⟩, ⟨3, .phase⟩, ⟨4, .phase⟩, ⟨5, .phase⟩, ⟨6, .phase⟩, ⟨7, .phase⟩, ⟨8, .phase⟩, ⟨9, .textOnly .lateStores⟩, ⟨10, .textOnly .lateStores⟩, ⟨11, .textOnly .lateStoresUnsure⟩, ⟨12, .phase⟩, ⟨13, .phase⟩, ⟨14, .phase⟩, ⟨15, .phase⟩], none⟩,
    ⟨none, .store 30 (.tmp 111) (.tmp 105), 0, "resolve.go:58", #[⟨16, .data⟩, ⟨8, .data⟩, ⟨15, .chain⟩, ⟨0, .phase⟩, ⟨1, .phase⟩, ⟨2, .phase⟩, ⟨3, .phase⟩, ⟨4, .phase⟩, ⟨5, .phase⟩, ⟨6, .phase⟩, ⟨7, .phase⟩, ⟨8, .phase⟩, ⟨9, .textOnly .lateStores⟩, ⟨10, .textOnly .lateStores⟩, ⟨11, .textOnly .lateStoresUnsure⟩, ⟨12, .phase⟩, ⟨13, .phase⟩, ⟨14, .phase⟩, ⟨15, .phase⟩], none⟩,
    ⟨(some 112), .fieldAddr 36 (.tmp 13) 4, 0, "resolve.go:58", #[⟨0, .phase⟩, ⟨1, .phase⟩, ⟨2, .phase⟩, ⟨3, .phase⟩, ⟨4, .phase⟩, ⟨5, .phase⟩, ⟨6, .phase⟩, ⟨7, .phase⟩, ⟨8, .phase⟩, ⟨9, .phase⟩, ⟨10, .phase⟩, ⟨11, .phase⟩, ⟨12, .phase⟩, ⟨13, .phase⟩, ⟨14, .phase⟩, ⟨15, .phase⟩, ⟨16, .phase⟩, ⟨17, .phase⟩], none⟩,
    ⟨none, .store 30 (.tmp 112) (.tmp 108), 0, "resolve.go:58", #[⟨18, .data⟩, ⟨11, .data⟩, ⟨17, .chain⟩, ⟨0, .phase⟩, ⟨1, .phase⟩, ⟨2, .phase⟩, ⟨3, .phase⟩, ⟨4, .phase⟩, ⟨5, .phase⟩, ⟨6, .phase⟩, ⟨7, .phase⟩, ⟨8, .phase⟩, ⟨9, .phase⟩, ⟨10, .phase⟩, ⟨11, .phase⟩, ⟨12, .phase⟩, ⟨13, .phase⟩, ⟨14, .phase⟩, ⟨15, .phase⟩, ⟨16, .phase⟩, ⟨17, .phase⟩], none⟩]) <|
  .seq (.block 4 <| .seq (.region [
    ⟨.yes, (some 114), .fieldAddr 44 (.tmp 5) 1, false, false, []⟩,
    ⟨.yes, (some 115), .load 4 (.tmp 114), false, false, []⟩,
    ⟨.yes, (some 113), .assign (.tmp 115), true, false, []⟩] [2, 5, 13, 113]) <|
  .cond (.tmp 113)
    (.seq (.region [
      ⟨.yes, (some 116), .build 36 #[], false, false, [(some 1), (some 18), (some 18), (some 18), (some 18)]⟩,
      ⟨.yes, none, .store 36 (.tmp 2) (.tmp 116), true, false, []⟩,
      ⟨.yes, (some 3), .assign (.const (.int .i64 (2))), false, false, []⟩] [2, 3]) <|
    .ret)
    (.seq (.region [
      ⟨.yes, (some 118), .fieldAddr 44 (.tmp 5) 2, false, false, []⟩,
      ⟨.yes, (some 119), .load 4 (.tmp 118), false, false, []⟩,
      ⟨.yes, (some 117), .assign (.tmp 119), true, false, []⟩] [2, 13, 117]) <|
    .cond (.tmp 117)
      (.seq (.region [
        ⟨.yes, (some 120), .build 36 #[], false, false, [(some 1), (some 18), (some 18), (some 18), (some 18)]⟩,
        ⟨.yes, none, .store 36 (.tmp 2) (.tmp 120), true, false, []⟩,
        ⟨.yes, (some 3), .assign (.const (.int .i64 (7))), false, false, []⟩] [2, 3]) <|
      .ret)
      (.skip))) <|
  .seq (.region [
    ⟨.yes, (some 121), .load 36 (.tmp 13), false, false, [(some 1), (some 18), (some 18), (some 18), (some 18)]⟩,
    ⟨.yes, none, .store 36 (.tmp 2) (.tmp 121), true, false, []⟩,
    ⟨.yes, (some 3), .assign (.const (.int .i64 (0))), false, false, []⟩] [2, 3]) <|
  .ret

theorem c_resolve_eq : ∃ c, Try.f9.body = some c ∧ codeOK Try.f9.ntmps c = true ∧ comp Try.prog (ann 9) c = erase c_resolve := ⟨_, rfl, by kernel_rfl, by kernel_rfl⟩

theorem body_resolve_0 (xs ys ks : List DV) (vs : List AV) (m n : Int) : bodyT Xrs [1, 2, 5, 31, 32, 33] [2, 3] [(0, [1, 2, 5])] l_resolve_0 ⟨[(1, .box [.d (.sl 3 xs), .d (.sl 18 []), .d (.sl 18 []), .d (.sl 18 []), .d (.sl 18 [])]), (2, .box [.osl 1 [], .osl 18 [], .osl 18 [], .osl 18 [], .osl 18 []]), (5, .hp 1 0), (31, .d (.sl 3 ys)), (32, .d (.int .i64 m)), (33, .d (.int .i64 n))], [[.mpb .str ks vs], [.mp 0, .d (.bool false), .d (.bool false)]]⟩ = (
    .br (decide (n < m))
    (.br (decide ((0 : Int) ≤ n))
      (.opt ((ys[(Int.toNat n)]?).bind unVar) fun y1 => .br (hasM (DV.str y1.name) ks)
        (.opt ((findM (DV.str y1.name) ks vs).bind (fun a => (deAV a).bind unPlc)) fun y2 => .br true
          (.leaf (.ret, ⟨[(2, (.box [(.osl 1 []), (.osl 18 []), (.osl 18 []), (.osl 18 []), (.osl 18 [])])), (3, (.d (.int .i64 2)))], [[(.mpb .str ks vs)], [(.mp 0), (.d (.bool false)), (.d (.bool false))]]⟩))
          (.opt (unL unVar xs) fun l3 => .br (decide ((l3.length : Int) ≤ big))
            (.leaf (.nrm, ⟨[(1, (.box [(.d (.sl 3 xs)), (.d (.sl 18 [])), (.d (.sl 18 [])), (.d (.sl 18 [])), (.d (.sl 18 []))])), (2, (.box [(.osl 1 []), (.osl 18 []), (.osl 18 []), (.osl 18 []), (.osl 18 [])])), (5, (.hp 1 0)), (31, (.d (.sl 3 ys))), (32, (.d (.int .i64 m))), (33, (.d (.int .i64 (IntKind.i64.wrap (n + 1)))))], [[(.mpb .str (setK (DV.str y1.name) ks) (setV (DV.str y1.name) (AV.agg [(.d (.int .i64 ((lk (lookG l3 y1.name 0)).1))), (.d (.int .i64 ((lk (lookG l3 y1.name 0)).2.1)))]) ks vs))], [(.mp 0), (.d (.bool false)), (.d (.bool false))]]⟩))
            (.fail)))
        (.br false
          (.leaf (.ret, ⟨[(2, (.box [(.osl 1 []), (.osl 18 []), (.osl 18 []), (.osl 18 []), (.osl 18 [])])), (3, (.d (.int .i64 2)))], [[(.mpb .str ks vs)], [(.mp 0), (.d (.bool false)), (.d (.bool false))]]⟩))
          (.opt (unL unVar xs) fun l4 => .br (decide ((l4.length : Int) ≤ big))
            (.leaf (.nrm, ⟨[(1, (.box [(.d (.sl 3 xs)), (.d (.sl 18 [])), (.d (.sl 18 [])), (.d (.sl 18 [])), (.d (.sl 18 []))])), (2, (.box [(.osl 1 []), (.osl 18 []), (.osl 18 []), (.osl 18 []), (.osl 18 [])])), (5, (.hp 1 0)), (31, (.d (.sl 3 ys))), (32, (.d (.int .i64 m))), (33, (.d (.int .i64 (IntKind.i64.wrap (n + 1)))))], [[(.mpb .str (setK (DV.str y1.name) ks) (setV (DV.str y1.name) (AV.agg [(.d (.int .i64 ((lk (lookG l4 y1.name 0)).1))), (.d (.int .i64 ((lk (lookG l4 y1.name 0)).2.1)))]) ks vs))], [(.mp 0), (.d (.bool false)), (.d (.bool false))]]⟩))
            (.fail))))
      (.fail))
    (.leaf ((.ext 0), ⟨[(1, (.box [(.d (.sl 3 xs)), (.d (.sl 18 [])), (.d (.sl 18 [])), (.d (.sl 18 [])), (.d (.sl 18 []))])), (2, (.box [(.osl 1 []), (.osl 18 []), (.osl 18 []), (.osl 18 []), (.osl 18 [])])), (5, (.hp 1 0))], [[(.mpb .str ks vs)], [(.mp 0), (.d (.bool false)), (.d (.bool false))]]⟩)) : Tr (Ex × ST)) := by kernel_rfl

theorem body_resolve_1 (xs ys ks is : List DV) (vs : List AV) (m n : Int) : bodyT Xrs [1, 2, 5, 13, 65, 66, 67] [2, 3] [(2, [1, 2, 5, 13])] l_resolve_1 ⟨[(1, .box [.d (.sl 3 xs), .d (.sl 18 []), .d (.sl 18 []), .d (.sl 18 []), .d (.sl 18 [])]), (2, .box [.osl 1 [], .osl 18 [], .osl 18 [], .osl 18 [], .osl 18 []]), (5, .hp 1 0), (13, .box [.osl 1 is, .osl 18 [], .osl 18 [], .osl 18 [], .osl 18 []]), (65, .d (.sl 3 ys)), (66, .d (.int .i64 m)), (67, .d (.int .i64 n))], [[.mpb .str ks vs], [.mp 0, .d (.bool false), .d (.bool false)]]⟩ = (
    .br (decide (n < m))
    (.br (decide ((0 : Int) ≤ n))
      (.opt ((ys[(Int.toNat n)]?).bind unVar) fun y1 => .br (decide ((IntKind.i64.wrap (32 - (is.length : Int))) < (if y1.size < 1 then 1 else y1.size)))
        (.leaf (.ret, ⟨[(2, (.box [(.osl 1 []), (.osl 18 []), (.osl 18 []), (.osl 18 []), (.osl 18 [])])), (3, (.d (.int .i64 4)))], [[(.mpb .str ks vs)], [(.mp 0), (.d (.bool false)), (.d (.bool false))]]⟩))
        (.br (decide ((0 : Int) < (if y1.size < 1 then 1 else y1.size) ∧ (is.length + Int.toNat (if y1.size < 1 then 1 else y1.size)) * 8 ≤ 70368744177664))
          (.br (decide ((0 : Int) < (if y1.size < 1 then 1 else y1.size) ∧ Int.toNat (if y1.size < 1 then 1 else y1.size) = Int.toNat (if y1.size < 1 then 1 else y1.size) ∧ is.length + (Int.toNat (if y1.size < 1 then 1 else y1.size)) ≤ 4611686018427387904))
            (.leaf (.nrm, ⟨[(1, (.box [(.d (.sl 3 xs)), (.d (.sl 18 [])), (.d (.sl 18 [])), (.d (.sl 18 [])), (.d (.sl 18 []))])), (2, (.box [(.osl 1 []), (.osl 18 []), (.osl 18 []), (.osl 18 []), (.osl 18 [])])), (5, (.hp 1 0)), (13, (.box [(.osl 1 (is ++ DV.int .i64 y1.init :: List.replicate (Int.toNat (if y1.size < 1 then 1 else y1.size) - 1) (DV.int .i64 0))), (.osl 18 []), (.osl 18 []), (.osl 18 []), (.osl 18 [])])), (65, (.d (.sl 3 ys))), (66, (.d (.int .i64 m))), (67, (.d (.int .i64 (IntKind.i64.wrap (n + 1)))))], [[(.mpb .str ks vs)], [(.mp 0), (.d (.bool false)), (.d (.bool false))]]⟩))
            (.fail))
          (.fail)))
      (.fail))
    (.leaf ((.ext 2), ⟨[(1, (.box [(.d (.sl 3 xs)), (.d (.sl 18 [])), (.d (.sl 18 [])), (.d (.sl 18 [])), (.d (.sl 18 []))])), (2, (.box [(.osl 1 []), (.osl 18 []), (.osl 18 []), (.osl 18 []), (.osl 18 [])])), (5, (.hp 1 0)), (13, (.box [(.osl 1 is), (.osl 18 []), (.osl 18 []), (.osl 18 []), (.osl 18 [])]))], [[(.mpb .str ks vs)], [(.mp 0), (.d (.bool false)), (.d (.bool false))]]⟩)) : Tr (Ex × ST)) := by kernel_rfl

theorem tree_resolve (xs : List DV) : fnT Xrs c_resolve Try.f9.results.toList [.agg [.d (.sl 3 xs), .d (.sl 18 []), .d (.sl 18 []), .d (.sl 18 []), .d (.sl 18 [])]] [] = (
    .opt (unL unVar xs) fun l1 => .br (decide ((l1.length : Int) ≤ big) && short l1)
    (.br (!decide ((chk l1) = 0))
      (.leaf ((.tup [(.agg [(.d (.sl 1 [])), (.d (.sl 18 [])), (.d (.sl 18 [])), (.d (.sl 18 [])), (.d (.sl 18 []))]), (.d (.int .i64 (chk l1)))]), []))
      (.br (decide ((16 : Int) < (xs.length : Int)))
        (.leaf ((.tup [(.agg [(.d (.sl 1 [])), (.d (.sl 18 [])), (.d (.sl 18 [])), (.d (.sl 18 [])), (.d (.sl 18 []))]), (.d (.int .i64 4))]), []))
        (.opt (unL unVar xs) fun l2 => .opt (unL unVar xs) fun q3 => .br (decide ((xs.length : Int) = l2.length ∧ (0 : Int) = 0 ∧ (xs.length : Int) ≤ big ∧ l2 = q3))
          (.br (dupB [] l2)
            (.leaf ((.tup [(.agg [(.d (.sl 1 [])), (.d (.sl 18 [])), (.d (.sl 18 [])), (.d (.sl 18 [])), (.d (.sl 18 []))]), (.d (.int .i64 2))]), [[(.mpb .str (kss (pref [] l2)) (vss l2 (pref [] l2)))], [(.mp 0), (.d (.bool false)), (.d (.bool false))]]))
            (.opt (unL unVar xs) fun l4 => .br (decide ((xs.length : Int) = l4.length ∧ (0 : Int) = 0 ∧ (xs.length : Int) ≤ big))
              (.br (many 0 l4)
                (.leaf ((.tup [(.agg [(.d (.sl 1 [])), (.d (.sl 18 [])), (.d (.sl 18 [])), (.d (.sl 18 [])), (.d (.sl 18 []))]), (.d (.int .i64 4))]), [[(.mpb .str (kss (pref [] l2)) (vss l2 (pref [] l2)))], [(.mp 0), (.d (.bool false)), (.d (.bool false))]]))
                (.br (([] : List DV).isEmpty)
                  (.br (([] : List DV).isEmpty)
                    (.br (([] : List DV).isEmpty)
                      (.br (([] : List DV).isEmpty)
                        (.br false
                          (.leaf ((.tup [(.agg [(.d (.sl 1 [])), (.d (.sl 18 [])), (.d (.sl 18 [])), (.d (.sl 18 [])), (.d (.sl 18 []))]), (.d (.int .i64 2))]), [[(.mpb .str (kss (pref [] l2)) (vss l2 (pref [] l2)))], [(.mp 0), (.d (.bool false)), (.d (.bool false))]]))
                          (.br false
                            (.leaf ((.tup [(.agg [(.d (.sl 1 [])), (.d (.sl 18 [])), (.d (.sl 18 [])), (.d (.sl 18 [])), (.d (.sl 18 []))]), (.d (.int .i64 7))]), [[(.mpb .str (kss (pref [] l2)) (vss l2 (pref [] l2)))], [(.mp 0), (.d (.bool false)), (.d (.bool false))]]))
                            (.leaf ((.tup [(.agg [(.d (.sl 1 (ini l4))), (.d (.sl 18 [])), (.d (.sl 18 [])), (.d (.sl 18 [])), (.d (.sl 18 []))]), (.d (.int .i64 0))]), [[(.mpb .str (kss (pref [] l2)) (vss l2 (pref [] l2)))], [(.mp 0), (.d (.bool false)), (.d (.bool false))]]))))
                        (.fail))
                      (.fail))
                    (.fail))
                  (.fail)))
              (.fail)))
          (.fail))))
    (.fail) : Tr (AV × Hp)) := by kernel_rfl

end Go.AI.RK
