/- resolve.Resolve, in sum. -/
import Derived.Test.YtolbinhdmenekaaDoorDrL
namespace Go.AI.RD
open Go Go.Proofs
set_option maxRecDepth 10000
set_option linter.unusedVariables false
set_option linter.unusedSimpArgs false

theorem ok_all9 : FnOK Tryd.prog gl 23 (allT 9) := ok_all 9

def kss (l : List Var) : List DV := l.map fun v => .str v.name
def plcOf (o : Int × Int × Bool) : AV := .agg [.d (.int .i64 o.1), .d (.int .i64 o.2.1)]
def vss (a l : List Var) : List AV := l.map fun v => plcOf (lk (lookG a v.name 0))

/-- The declarations ahead of the first one whose name was there before. -/
def pref : List Var → List Var → List Var
  | d, [] => d
  | d, v :: r => if d.any (fun u => decide (u.name = v.name)) then d else pref (d ++ [v]) r
def dupB : List Var → List Var → Bool
  | d, [] => false
  | d, v :: r => if d.any (fun u => decide (u.name = v.name)) then true else dupB (d ++ [v]) r

/-- Too many cells? -/
def many : Int → List Var → Bool
  | _, [] => false
  | a, v :: r => if 32 - a < max v.size 1 then true else many (a + max v.size 1) r
def iniOf (v : Var) : List DV := .int .i64 v.init :: List.replicate ((max v.size 1).toNat - 1) (.int .i64 0)
def ini (l : List Var) : List DV := l.flatMap iniOf

def same (nm : List UInt8) (d : List Var) : Bool := d.any fun u => decide (u.name = nm)

theorem eqK_str (a b : List UInt8) : eqK (.str a) (.str b) = decide (b = a) := by
  simp only [eqK]
  by_cases h : a = b
  · simp [h]
  · have h' : ¬ b = a := fun e => h e.symm
    simp [h, h']

theorem hasM_kss (nm : List UInt8) : ∀ d : List Var, hasM (.str nm) (kss d) = same nm d
  | [] => rfl
  | u :: d => by
    show (eqK (.str nm) (.str u.name) || hasM (.str nm) (kss d)) = _
    rw [hasM_kss nm d, eqK_str]; rfl

theorem findM_kss (a : List Var) (nm : List UInt8) : ∀ d : List Var, same nm d = true → ∃ u : Var, findM (.str nm) (kss d) (vss a d) = some (plcOf (lk (lookG a u.name 0)))
  | [], h => by simp [same] at h
  | u :: d, h => by
    show ∃ u', (bif eqK (.str nm) (.str u.name) then some (plcOf (lk (lookG a u.name 0))) else findM (.str nm) (kss d) (vss a d)) = _
    rw [eqK_str]
    by_cases hu : u.name = nm
    · exact ⟨u, by simp [hu]⟩
    · obtain ⟨u', h1⟩ := findM_kss a nm d (by simpa [same, hu] using h)
      exact ⟨u', by simp [hu, h1]⟩

theorem setK_kss (nm : List UInt8) : ∀ d : List Var, same nm d = false → setK (.str nm) (kss d) = kss d ++ [.str nm]
  | [], _ => rfl
  | u :: d, h => by
    simp only [same, List.any_cons, Bool.or_eq_false_iff] at h
    show (bif eqK (.str nm) (.str u.name) then _ else DV.str u.name :: setK (.str nm) (kss d)) = _
    rw [eqK_str, h.1, cond_false, setK_kss nm d h.2]; rfl

theorem setV_kss (a : List Var) (nm : List UInt8) (x : AV) : ∀ d : List Var, same nm d = false → setV (.str nm) x (kss d) (vss a d) = vss a d ++ [x]
  | [], _ => rfl
  | u :: d, h => by
    simp only [same, List.any_cons, Bool.or_eq_false_iff] at h
    show (bif eqK (.str nm) (.str u.name) then _ else plcOf (lk (lookG a u.name 0)) :: setV (.str nm) x (kss d) (vss a d)) = _
    rw [eqK_str, h.1, cond_false, setV_kss a nm x d h.2]; rfl

theorem kss_snoc (d : List Var) (v : Var) : kss (d ++ [v]) = kss d ++ [.str v.name] := by simp [kss]
theorem vss_snoc (a d : List Var) (v : Var) : vss a (d ++ [v]) = vss a d ++ [plcOf (lk (lookG a v.name 0))] := by simp [vss]

def nilC : List AV := [.osl 1 [], .osl 18 [], .osl 18 [], .osl 18 [], .osl 18 []]
def hpF (ks : List DV) (vs : List AV) : Hp := [[.mpb .str ks vs], [.mp 0, .d (.bool false), .d (.bool false)]]

theorem maxI1 (z : Int) : (if z < 1 then 1 else z) = max z 1 := by split <;> omega


noncomputable abbrev Xrs : TX := ⟨Tryd.prog, tbl [(22, checkT), (13, lookupT), (23, (allT 9))], iso, gl, vw⟩

theorem xok_Xrs (f : Nat) : XOK Xrs (ann f) gl := XOK.of base (l := [(22, checkT), (13, lookupT), (23, (allT 9))]) ⟨ok_check, ok_lookup, ok_all9, trivial⟩ f

def L_resolve_0 : ST → Tr (Ex × ST)
  | ⟨[(1, .box [.d (.sl 3 xs), .d (.sl 18 s1), .d (.sl 18 s2), .d (.sl 18 s3), .d (.sl 18 s4)]), (2, .box [.osl 1 [], .osl 18 [], .osl 18 [], .osl 18 [], .osl 18 []]), (5, .hp 1 0), (31, .d (.sl 3 ys)), (32, .d (.int .i64 m)), (33, .d (.int .i64 n))], [[.mpb .str [] []], [.mp 0, .d (.bool false), .d (.bool false)]]⟩ => .opt (unL unVar ys) fun l => .opt (unL unVar xs) fun q => .br (decide (m = l.length ∧ n = 0 ∧ m ≤ big ∧ l = q)) (.br (dupB [] l) (.leaf (.ret, ⟨[(2, .box [.osl 1 [], .osl 18 [], .osl 18 [], .osl 18 [], .osl 18 []]), (3, .d (.int .i64 2))], [[.mpb .str (kss (pref [] l)) (vss l (pref [] l))], [.mp 0, .d (.bool false), .d (.bool false)]]⟩)) (.leaf ((.ext 0), ⟨[(1, .box [.d (.sl 3 xs), .d (.sl 18 s1), .d (.sl 18 s2), .d (.sl 18 s3), .d (.sl 18 s4)]), (2, .box [.osl 1 [], .osl 18 [], .osl 18 [], .osl 18 [], .osl 18 []]), (5, .hp 1 0)], [[.mpb .str (kss (pref [] l)) (vss l (pref [] l))], [.mp 0, .d (.bool false), .d (.bool false)]]⟩))) .fail
  | _ => .fail

def L_resolve_1 : ST → Tr (Ex × ST)
  | ⟨[(1, .box [.d (.sl 3 xs), .d (.sl 18 s1), .d (.sl 18 s2), .d (.sl 18 s3), .d (.sl 18 s4)]), (2, .box [.osl 1 [], .osl 18 [], .osl 18 [], .osl 18 [], .osl 18 []]), (5, .hp 1 0), (13, .box [.osl 1 [], .osl 18 [], .osl 18 [], .osl 18 [], .osl 18 []]), (65, .d (.sl 3 ys)), (66, .d (.int .i64 m)), (67, .d (.int .i64 n))], [[.mpb .str ks vs], [.mp 0, .d (.bool false), .d (.bool false)]]⟩ => .opt (unL unVar ys) fun l => .br (decide (m = l.length ∧ n = 0 ∧ m ≤ big)) (.br (many 0 l) (.leaf (.ret, ⟨[(2, .box [.osl 1 [], .osl 18 [], .osl 18 [], .osl 18 [], .osl 18 []]), (3, .d (.int .i64 4))], [[.mpb .str ks vs], [.mp 0, .d (.bool false), .d (.bool false)]]⟩)) (.leaf ((.ext 2), ⟨[(1, .box [.d (.sl 3 xs), .d (.sl 18 s1), .d (.sl 18 s2), .d (.sl 18 s3), .d (.sl 18 s4)]), (2, .box [.osl 1 [], .osl 18 [], .osl 18 [], .osl 18 [], .osl 18 []]), (5, .hp 1 0), (13, .box [.osl 1 (ini l), .osl 18 [], .osl 18 [], .osl 18 [], .osl 18 []])], [[.mpb .str ks vs], [.mp 0, .d (.bool false), .d (.bool false)]]⟩))) .fail
  | _ => .fail

def l_resolve_0 : CC := .seq (.region [
    ⟨.yes, (some 34), .binOp .lss 3 (.tmp 33) (.tmp 32) 3, false, false, []⟩] [1, 2, 5, 31, 32, 33, 34]) <|
  .seq (.cond (.tmp 34)
    (.skip)
    (.exit 0)) <|
  .seq (.block 1 <| .seq (.region [
    ⟨.yes, (some 35), .indexAddr 26 (.tmp 31) (.tmp 33), false, false, []⟩,
    ⟨.yes, (some 36), .load 42 (.tmp 35), false, false, []⟩,
    ⟨.yes, (some 7), .alloc 42, false, false, []⟩,
    ⟨.yes, none, .store 42 (.tmp 7) (.tmp 36), true, false, []⟩] [1, 2, 5, 7, 31, 32, 33]) <|
  .seq (.seq (.region [
    ⟨.yes, (some 38), .fieldAddr 64 (.tmp 5) 0, false, false, []⟩,
    ⟨.yes, (some 39), .load 62 (.tmp 38), false, false, []⟩,
    ⟨.yes, (some 40), .fieldAddr 42 (.tmp 7) 0, false, false, []⟩,
    ⟨.yes, (some 41), .load 9 (.tmp 40), false, false, []⟩,
    ⟨.yes, (some 42), .lookup 62 (.tmp 39) (.tmp 41) true, false, false, []⟩,
    ⟨.yes, (some 37), .move (.tmp 42), true, false, []⟩,
    ⟨.yes, (some 43), .extract (.tmp 37) 0, false, false, []⟩,
    ⟨.yes, (some 44), .extract (.tmp 37) 1, false, false, []⟩,
    ⟨.yes, (some 8), .alloc 66, false, false, []⟩,
    ⟨.yes, none, .store 66 (.tmp 8) (.tmp 43), true, false, []⟩,
    ⟨.yes, (some 9), .assign (.tmp 44), true, false, []⟩] [1, 2, 5, 7, 9, 31, 32, 33]) <|
  .seq (.region [
    ⟨.yes, (some 45), .move (.tmp 9), true, false, []⟩] [1, 2, 5, 7, 31, 32, 33, 45]) <|
  .cond (.tmp 45)
    (.seq (.region [
      ⟨.yes, (some 46), .build 35 #[], false, false, [(some 1), (some 18), (some 18), (some 18), (some 18)]⟩,
      ⟨.yes, none, .store 35 (.tmp 2) (.tmp 46), true, false, []⟩,
      ⟨.yes, (some 3), .assign (.const (.int .i64 (2))), false, false, []⟩] [2, 3]) <|
    .ret)
    (.skip)) <|
  .seq (.region [
    ⟨.yes, (some 48), .fieldAddr 29 (.tmp 1) 0, false, false, []⟩,
    ⟨.yes, (some 49), .load 26 (.tmp 48), false, false, [(some 3)]⟩,
    ⟨.yes, (some 50), .fieldAddr 42 (.tmp 7) 0, false, false, []⟩,
    ⟨.yes, (some 51), .load 9 (.tmp 50), false, false, []⟩,
    ⟨.yes, (some 52), .call ⟨.value (.func 13), #[(.tmp 49), (.tmp 51)], #[26, 9]⟩, false, false, []⟩,
    ⟨.yes, (some 47), .move (.tmp 52), true, false, []⟩,
    ⟨.yes, (some 53), .extract (.tmp 47) 0, false, false, []⟩,
    ⟨.yes, (some 54), .extract (.tmp 47) 1, false, false, []⟩,
    ⟨.yes, (some 55), .extract (.tmp 47) 2, false, false, []⟩,
    ⟨.yes, (some 10), .assign (.tmp 53), true, false, []⟩,
    ⟨.yes, (some 11), .assign (.tmp 54), true, false, []⟩,
    ⟨.yes, (some 12), .assign (.tmp 55), true, false, []⟩] [1, 2, 5, 7, 10, 11, 31, 32, 33]) <|
  .region [
    ⟨.yes, (some 56), .fieldAddr 64 (.tmp 5) 0, false, false, []⟩,
    ⟨.yes, (some 57), .load 62 (.tmp 56), false, false, []⟩,
    ⟨.yes, (some 58), .fieldAddr 42 (.tmp 7) 0, false, false, []⟩,
    ⟨.yes, (some 59), .load 9 (.tmp 58), false, false, []⟩,
    ⟨.yes, (some 60), .move (.tmp 10), true, false, []⟩,
    ⟨.yes, (some 61), .move (.tmp 11), true, false, []⟩,
    ⟨.yes, (some 62), .build 66 #[(0, (.tmp 60)), (1, (.tmp 61))], true, false, []⟩,
    ⟨.yes, none, .mapUpdate 62 (.tmp 57) (.tmp 59) (.tmp 62), false, false, []⟩] [1, 2, 5, 31, 32, 33]) <|
  .region [
    ⟨.yes, (some 63), .binOp .add 3 (.tmp 33) (.const (.int .i64 (1))) 3, false, false, []⟩,
    ⟨.yes, (some 33), .move (.tmp 63), true, false, []⟩] [1, 2, 5, 31, 32, 33]

def l_resolve_1 : CC := .seq (.region [
    ⟨.yes, (some 68), .binOp .lss 3 (.tmp 67) (.tmp 66) 3, false, false, []⟩] [1, 2, 5, 13, 65, 66, 67, 68]) <|
  .seq (.cond (.tmp 68)
    (.skip)
    (.exit 2)) <|
  .seq (.block 3 <| .seq (.region [
    ⟨.yes, (some 69), .indexAddr 26 (.tmp 65) (.tmp 67), false, false, []⟩,
    ⟨.yes, (some 70), .load 42 (.tmp 69), false, false, []⟩,
    ⟨.yes, (some 15), .alloc 42, false, false, []⟩,
    ⟨.yes, none, .store 42 (.tmp 15) (.tmp 70), true, false, []⟩] [1, 2, 5, 13, 15, 65, 66, 67]) <|
  .seq (.region [
    ⟨.yes, (some 71), .fieldAddr 42 (.tmp 15) 1, false, false, []⟩,
    ⟨.yes, (some 72), .load 3 (.tmp 71), false, false, []⟩,
    ⟨.yes, (some 73), .call ⟨.builtin .max, #[(.tmp 72), (.const (.int .i64 (1)))], #[3, 3]⟩, false, false, []⟩,
    ⟨.yes, (some 16), .assign (.tmp 73), true, false, []⟩] [1, 2, 5, 13, 15, 16, 65, 66, 67]) <|
  .seq (.seq (.region [
    ⟨.yes, (some 74), .move (.tmp 16), false, false, []⟩,
    ⟨.yes, (some 75), .fieldAddr 35 (.tmp 13) 0, false, false, []⟩,
    ⟨.yes, (some 76), .load 33 (.tmp 75), false, false, [(some 1)]⟩,
    ⟨.yes, (some 77), .call ⟨.builtin .len, #[(.tmp 76)], #[33]⟩, false, false, []⟩,
    ⟨.yes, (some 78), .binOp .sub 3 (.const (.int .i64 (32))) (.tmp 77) 3, false, false, []⟩,
    ⟨.yes, (some 79), .binOp .gtr 3 (.tmp 74) (.tmp 78) 3, false, false, []⟩] [1, 2, 5, 13, 15, 16, 65, 66, 67, 79]) <|
  .cond (.tmp 79)
    (.seq (.region [
      ⟨.yes, (some 80), .build 35 #[], false, false, [(some 1), (some 18), (some 18), (some 18), (some 18)]⟩,
      ⟨.yes, none, .store 35 (.tmp 2) (.tmp 80), true, false, []⟩,
      ⟨.yes, (some 3), .assign (.const (.int .i64 (4))), false, false, []⟩] [2, 3]) <|
    .ret)
    (.skip)) <|
  .seq (.region [
    ⟨.yes, (some 81), .fieldAddr 35 (.tmp 13) 0, false, false, []⟩,
    ⟨.yes, (some 82), .load 33 (.tmp 81), true, false, [(some 1)]⟩,
    ⟨.yes, (some 83), .move (.tmp 16), false, false, []⟩,
    ⟨.yes, (some 84), .call ⟨.builtin .append, #[(.tmp 82), (.tmp 83)], #[33, 3]⟩, true, false, [(some 1)]⟩,
    ⟨.yes, (some 85), .fieldAddr 35 (.tmp 13) 0, false, false, []⟩,
    ⟨.yes, none, .store 33 (.tmp 85) (.tmp 84), true, false, []⟩] [1, 2, 5, 13, 15, 16, 65, 66, 67]) <|
  .sum (pokeF 13 16 15 [86, 87, 88, 89, 90, 91, 92, 93, 94, 95] [1, 2, 5, 13, 65, 66, 67]) (.region [
    ⟨.yes, (some 86), .fieldAddr 35 (.tmp 13) 0, false, false, []⟩,
    ⟨.yes, (some 87), .load 33 (.tmp 86), false, false, [(some 1)]⟩,
    ⟨.yes, (some 88), .fieldAddr 35 (.tmp 13) 0, false, false, []⟩,
    ⟨.yes, (some 89), .load 33 (.tmp 88), false, false, [(some 1)]⟩,
    ⟨.yes, (some 90), .call ⟨.builtin .len, #[(.tmp 89)], #[33]⟩, false, false, []⟩,
    ⟨.yes, (some 91), .move (.tmp 16), true, false, []⟩,
    ⟨.yes, (some 92), .binOp .sub 3 (.tmp 90) (.tmp 91) 3, false, false, []⟩,
    ⟨.yes, (some 93), .fieldAddr 42 (.tmp 15) 2, false, false, []⟩,
    ⟨.yes, (some 94), .load 3 (.tmp 93), false, false, []⟩,
    ⟨.yes, (some 95), .indexAddr 33 (.tmp 87) (.tmp 92), false, false, []⟩,
    ⟨.yes, none, .store 3 (.tmp 95) (.tmp 94), true, false, []⟩] [1, 2, 5, 13, 65, 66, 67])) <|
  .region [
    ⟨.yes, (some 96), .binOp .add 3 (.tmp 67) (.const (.int .i64 (1))) 3, false, false, []⟩,
    ⟨.yes, (some 67), .move (.tmp 96), true, false, []⟩] [1, 2, 5, 13, 65, 66, 67]

/-- rollbacknet/resolve.Resolve -/
def c_resolve : CC := .seq (.region [
    ⟨.yes, (some 1), .box 29 (.tmp 0), true, false, []⟩,
    ⟨.yes, (some 2), .alloc 35, false, false, []⟩,
    ⟨.yes, (some 3), .assign (.const (.int .i64 (0))), false, false, []⟩] [1, 2]) <|
  .seq (.seq (.region [
    ⟨.yes, (some 17), .load 29 (.tmp 1), false, false, [(some 3), (some 18), (some 18), (some 18), (some 18)]⟩,
    ⟨.yes, (some 18), .call ⟨.value (.func 22), #[(.tmp 17)], #[29]⟩, false, false, []⟩,
    ⟨.yes, (some 4), .assign (.tmp 18), true, false, []⟩] [1, 2, 4]) <|
  .seq (.region [
    ⟨.yes, (some 19), .move (.tmp 4), false, false, []⟩,
    ⟨.yes, (some 20), .binOp .neq 36 (.tmp 19) (.const (.int .i64 (0))) 36, false, false, []⟩] [1, 2, 4, 20]) <|
  .cond (.tmp 20)
    (.seq (.region [
      ⟨.yes, (some 21), .build 35 #[], false, false, [(some 1), (some 18), (some 18), (some 18), (some 18)]⟩,
      ⟨.yes, (some 22), .move (.tmp 4), true, false, []⟩,
      ⟨.yes, none, .store 35 (.tmp 2) (.tmp 21), true, false, []⟩,
      ⟨.yes, (some 3), .assign (.tmp 22), true, false, []⟩] [2, 3]) <|
    .ret)
    (.skip)) <|
  .seq (.seq (.region [
    ⟨.yes, (some 23), .fieldAddr 29 (.tmp 1) 0, false, false, []⟩,
    ⟨.yes, (some 24), .load 26 (.tmp 23), false, false, [(some 3)]⟩,
    ⟨.yes, (some 25), .call ⟨.builtin .len, #[(.tmp 24)], #[26]⟩, false, false, []⟩,
    ⟨.yes, (some 26), .binOp .gtr 3 (.tmp 25) (.const (.int .i64 (16))) 3, false, false, []⟩] [1, 2, 26]) <|
  .cond (.tmp 26)
    (.seq (.region [
      ⟨.yes, (some 27), .build 35 #[], false, false, [(some 1), (some 18), (some 18), (some 18), (some 18)]⟩,
      ⟨.yes, none, .store 35 (.tmp 2) (.tmp 27), true, false, []⟩,
      ⟨.yes, (some 3), .assign (.const (.int .i64 (4))), false, false, []⟩] [2, 3]) <|
    .ret)
    (.skip)) <|
  .seq (.region [
    ⟨.yes, (some 28), .makeMap 62 none, false, false, []⟩,
    ⟨.yes, (some 29), .build 64 #[(0, (.tmp 28))], true, false, []⟩,
    ⟨.yes, (some 5), .alloc 64, false, true, []⟩,
    ⟨.yes, none, .store 64 (.tmp 5) (.tmp 29), true, false, []⟩] [1, 2, 5]) <|
  .seq (.seq (.region [
    ⟨.yes, (some 30), .fieldAddr 29 (.tmp 1) 0, false, false, []⟩,
    ⟨.yes, (some 31), .load 26 (.tmp 30), false, false, [(some 3)]⟩,
    ⟨.yes, (some 32), .call ⟨.builtin .len, #[(.tmp 31)], #[26]⟩, false, false, []⟩,
    ⟨.yes, (some 33), .move (.const (.int .i64 (0))), false, false, []⟩] [1, 2, 5, 31, 32, 33]) <|
  .block 0 <| .keep [1, 2, 5, 31, 32, 33] <| .sum L_resolve_0 (.loop l_resolve_0)) <|
  .seq (.region [
    ⟨.yes, (some 13), .alloc 35, false, false, []⟩] [1, 2, 5, 13]) <|
  .seq (.seq (.region [
    ⟨.yes, (some 64), .fieldAddr 29 (.tmp 1) 0, false, false, []⟩,
    ⟨.yes, (some 65), .load 26 (.tmp 64), false, false, [(some 3)]⟩,
    ⟨.yes, (some 66), .call ⟨.builtin .len, #[(.tmp 65)], #[26]⟩, false, false, []⟩,
    ⟨.yes, (some 67), .move (.const (.int .i64 (0))), false, false, []⟩] [1, 2, 5, 13, 65, 66, 67]) <|
  .block 2 <| .keep [1, 2, 5, 13, 65, 66, 67] <| .sum L_resolve_1 (.loop l_resolve_1)) <|
  .seq (.drawn ⟨[13, 15, 17, 19], [], [2, 5, 13]⟩ [
    ⟨(some 97), .fieldAddr 29 (.tmp 1) 1, 0, "resolve.go:58", #[], none⟩,
    ⟨(some 98), .load 27 (.tmp 97), 27, "resolve.go:58", #[⟨0, .data⟩], none⟩,
    ⟨(some 99), .call ⟨.value (.func 23), #[(.tmp 5), (.tmp 98)], #[64, 27]⟩, 27, "resolve.go:58", #[⟨1, .data⟩], none⟩,
    ⟨(some 100), .fieldAddr 29 (.tmp 1) 2, 0, "resolve.go:58", #[], none⟩,
    ⟨(some 101), .load 27 (.tmp 100), 27, "resolve.go:58", #[⟨3, .data⟩], none⟩,
    ⟨(some 102), .call ⟨.value (.func 23), #[(.tmp 5), (.tmp 101)], #[64, 27]⟩, 27, "resolve.go:58", #[⟨4, .data⟩, ⟨2, .chain⟩], none⟩,
    ⟨(some 103), .fieldAddr 29 (.tmp 1) 3, 0, "resolve.go:58", #[], none⟩,
    ⟨(some 104), .load 27 (.tmp 103), 27, "resolve.go:58", #[⟨6, .data⟩], none⟩,
    ⟨(some 105), .call ⟨.value (.func 23), #[(.tmp 5), (.tmp 104)], #[64, 27]⟩, 27, "resolve.go:58", #[⟨7, .data⟩, ⟨5, .chain⟩], none⟩,
    ⟨(some 106), .fieldAddr 29 (.tmp 1) 4, 0, "resolve.go:58", #[], none⟩,
    ⟨(some 107), .load 27 (.tmp 106), 27, "resolve.go:58", #[⟨9, .data⟩], none⟩,
    ⟨(some 108), .call ⟨.value (.func 23), #[(.tmp 5), (.tmp 107)], #[64, 27]⟩, 27, "resolve.go:58", #[⟨10, .data⟩, ⟨8, .chain⟩], none⟩,
    ⟨(some 109), .fieldAddr 35 (.tmp 13) 1, 0, "resolve.go:58", #[⟨0, .phase⟩, ⟨1, .phase⟩, ⟨2, .phase⟩, ⟨3, .textOnly .lateStores⟩, ⟨4, .textOnly .lateStores⟩, ⟨5, .textOnly .lateStoresUnsure⟩, ⟨6, .textOnly .lateStores⟩, ⟨7, .textOnly .lateStores⟩, ⟨8, .textOnly .lateStoresUnsure⟩, ⟨9, .textOnly .lateStores⟩, ⟨10, .textOnly .lateStores⟩, ⟨11, .textOnly .lateStoresUnsure⟩], none⟩,
    ⟨none, .store 27 (.tmp 109) (.tmp 99), 0, "resolve.go:58", #[⟨12, .data⟩, ⟨2, .data⟩, ⟨11, .chain⟩, ⟨0, .phase⟩, ⟨1, .phase⟩, ⟨2, .phase⟩, ⟨3, .textOnly .lateStores⟩, ⟨4, .textOnly .lateStores⟩, ⟨5, .textOnly .lateStoresUnsure⟩, ⟨6, .textOnly .lateStores⟩, ⟨7, .textOnly .lateStores⟩, ⟨8, .textOnly .lateStoresUnsure⟩, ⟨9, .textOnly .lateStores⟩, ⟨10, .textOnly .lateStores⟩, ⟨11, .textOnly .lateStoresUnsure⟩], none⟩,
    ⟨(some 110), .fieldAddr 35 (.tmp 13) 2, 0, "resolve.go:58", #[⟨0, .phase⟩, ⟨1, .phase⟩, ⟨2, .phase⟩, ⟨3, .phase⟩, ⟨4, .phase⟩, ⟨5, .phase⟩, ⟨6, .textOnly .lateStores⟩, ⟨7, .textOnly .lateStores⟩, ⟨8, .textOnly .lateStoresUnsure⟩, ⟨9, .textOnly .lateStores⟩, ⟨10, .textOnly .lateStores⟩, ⟨11, .textOnly .lateStoresUnsure⟩, ⟨12, .phase⟩, ⟨13, .phase⟩], none⟩,
    ⟨none, .store 27 (.tmp 110) (.tmp 102), 0, "resolve.go:58", #[⟨14, .data⟩, ⟨5, .data⟩, ⟨13, .chain⟩, ⟨0, .phase⟩, ⟨1, .phase⟩, ⟨2, .phase⟩, ⟨3, .phase⟩, ⟨4, .phase⟩, ⟨5, .phase⟩, ⟨6, .textOnly .lateStores⟩, ⟨7, .textOnly .lateStores⟩, ⟨8, .textOnly .lateStoresUnsure⟩, ⟨9, .textOnly .lateStores⟩, ⟨10, .textOnly .lateStores⟩, ⟨11, .textOnly .lateStoresUnsure⟩, ⟨12, .phase⟩, ⟨13, .phase⟩], none⟩,
    ⟨(some 111), .fieldAddr 35 (.tmp 13) 3, 0, "resolve.go:58", #[⟨0, .phase⟩, ⟨1, .phase⟩, ⟨2, .phase⟩, ⟨3, .phase⟩, ⟨4, .phase⟩, ⟨5, .phase⟩, ⟨6, .phase⟩, ⟨7, .phase⟩, ⟨8, .phase⟩, ⟨9, .textOnly .lateStores⟩, ⟨10, .textOnly .lateStores⟩, ⟨11, .textOnly .lateStoresUnsure⟩, ⟨12, .phase⟩, ⟨13, .phase⟩, ⟨14, .phase⟩, ⟨15, .phase⟩], none⟩,
    ⟨none, .store 27 (.tmp 111) (.tmp 105), 0, "resolve.go:58", #[⟨16, .data⟩, ⟨8, .data⟩, ⟨15, .chain⟩, ⟨0, .phase⟩, ⟨1, .phase⟩, ⟨2, .phase⟩, ⟨3, .phase⟩, ⟨4, .phase⟩, ⟨5, .phase⟩, ⟨6, .phase⟩, ⟨7, .phase⟩, ⟨8, .phase⟩, ⟨9, .textOnly .lateStores⟩, ⟨10, .textOnly .lateStores⟩, ⟨11, .textOnly .lateStoresUnsure⟩, ⟨12, .phase⟩, ⟨13, .phase⟩, ⟨14, .phase⟩, ⟨15, .phase⟩], none⟩,
    ⟨(some 112), .fieldAddr 35 (.tmp 13) 4, 0, "resolve.go:58", #[⟨0, .phase⟩, ⟨1, .phase⟩, ⟨2, .phase⟩, ⟨3, .phase⟩, ⟨4, .phase⟩, ⟨5, .phase⟩, ⟨6, .phase⟩, ⟨7, .phase⟩, ⟨8, .phase⟩, ⟨9, .phase⟩, ⟨10, .phase⟩, ⟨11, .phase⟩, ⟨12, .phase⟩, ⟨13, .phase⟩, ⟨14, .phase⟩, ⟨15, .phase⟩, ⟨16, .phase⟩, ⟨17, .phase⟩], none⟩,
    ⟨none, .store 27 (.tmp 112) (.tmp 108), 0, "resolve.go:58", #[⟨18, .data⟩, ⟨11, .data⟩, ⟨17, .chain⟩, ⟨0, .phase⟩, ⟨1, .phase⟩, ⟨2, .phase⟩, ⟨3, .phase⟩, ⟨4, .phase⟩, ⟨5, .phase⟩, ⟨6, .phase⟩, ⟨7, .phase⟩, ⟨8, .phase⟩, ⟨9, .phase⟩, ⟨10, .phase⟩, ⟨11, .phase⟩, ⟨12, .phase⟩, ⟨13, .phase⟩, ⟨14, .phase⟩, ⟨15, .phase⟩, ⟨16, .phase⟩, ⟨17, .phase⟩], none⟩]) <|
  .seq (.block 4 <| .seq (.region [
    ⟨.yes, (some 114), .fieldAddr 64 (.tmp 5) 1, false, false, []⟩,
    ⟨.yes, (some 115), .load 4 (.tmp 114), false, false, []⟩,
    ⟨.yes, (some 113), .assign (.tmp 115), true, false, []⟩] [2, 5, 13, 113]) <|
  .cond (.tmp 113)
    (.seq (.region [
      ⟨.yes, (some 116), .build 35 #[], false, false, [(some 1), (some 18), (some 18), (some 18), (some 18)]⟩,
      ⟨.yes, none, .store 35 (.tmp 2) (.tmp 116), true, false, []⟩,
      ⟨.yes, (some 3), .assign (.const (.int .i64 (2))), false, false, []⟩] [2, 3]) <|
    .ret)
    (.seq (.region [
      ⟨.yes, (some 118), .fieldAddr 64 (.tmp 5) 2, false, false, []⟩,
      ⟨.yes, (some 119), .load 4 (.tmp 118), false, false, []⟩,
      ⟨.yes, (some 117), .assign (.tmp 119), true, false, []⟩] [2, 13, 117]) <|
    .cond (.tmp 117)
      (.seq (.region [
        ⟨.yes, (some 120), .build 35 #[], false, false, [(some 1), (some 18), (some 18), (some 18), (some 18)]⟩,
        ⟨.yes, none, .store 35 (.tmp 2) (.tmp 120), true, false, []⟩,
        ⟨.yes, (some 3), .assign (.const (.int .i64 (7))), false, false, []⟩] [2, 3]) <|
      .ret)
      (.skip))) <|
  .seq (.region [
    ⟨.yes, (some 121), .load 35 (.tmp 13), false, false, [(some 1), (some 18), (some 18), (some 18), (some 18)]⟩,
    ⟨.yes, none, .store 35 (.tmp 2) (.tmp 121), true, false, []⟩,
    ⟨.yes, (some 3), .assign (.const (.int .i64 (0))), false, false, []⟩] [2, 3]) <|
  .ret

theorem c_resolve_eq : ∃ c, Tryd.f10.body = some c ∧ codeOK Tryd.f10.ntmps c = true ∧ comp Tryd.prog (ann 10) c = erase c_resolve := ⟨_, rfl, by kernel_rfl, by kernel_rfl⟩

theorem body_resolve_0 (xs s1 s2 s3 s4 ys ks : List DV) (vs : List AV) (m n : Int) : bodyT Xrs [1, 2, 5, 31, 32, 33] [2, 3] [(0, [1, 2, 5])] l_resolve_0 ⟨[(1, .box [.d (.sl 3 xs), .d (.sl 18 s1), .d (.sl 18 s2), .d (.sl 18 s3), .d (.sl 18 s4)]), (2, .box [.osl 1 [], .osl 18 [], .osl 18 [], .osl 18 [], .osl 18 []]), (5, .hp 1 0), (31, .d (.sl 3 ys)), (32, .d (.int .i64 m)), (33, .d (.int .i64 n))], [[.mpb .str ks vs], [.mp 0, .d (.bool false), .d (.bool false)]]⟩ = (
    .br (decide (n < m))
 (.br (decide ((0 : Int) ≤ n))
 (.opt ((ys[(Int.toNat n)]?).bind unVar) fun y1 => .br (hasM (DV.str y1.name) ks)
 (.opt ((findM (DV.str y1.name) ks vs).bind (fun a => (deAV a).bind unPlc)) fun y2 => .br true
 (.leaf (.ret, ⟨[(2, .box [.osl 1 [], .osl 18 [], .osl 18 [], .osl 18 [], .osl 18 []]), (3, .d (.int .i64 2))], [[.mpb .str ks vs], [.mp 0, .d (.bool false), .d (.bool false)]]⟩))
 (.opt (unL unVar xs) fun l3 => .br (decide ((l3.length : Int) ≤ big))
 (.leaf (.nrm, ⟨[(1, .box [.d (.sl 3 xs), .d (.sl 18 s1), .d (.sl 18 s2), .d (.sl 18 s3), .d (.sl 18 s4)]), (2, .box [.osl 1 [], .osl 18 [], .osl 18 [], .osl 18 [], .osl 18 []]), (5, .hp 1 0), (31, .d (.sl 3 ys)), (32, .d (.int .i64 m)), (33, .d (.int .i64 (IntKind.i64.wrap (n + 1))))], [[.mpb .str (setK (DV.str y1.name) ks) (setV (DV.str y1.name) (AV.agg [.d (.int .i64 ((lk (lookG l3 y1.name 0)).1)), .d (.int .i64 ((lk (lookG l3 y1.name 0)).2.1))]) ks vs)], [.mp 0, .d (.bool false), .d (.bool false)]]⟩))
 (.fail)))
 (.br false
 (.leaf (.ret, ⟨[(2, .box [.osl 1 [], .osl 18 [], .osl 18 [], .osl 18 [], .osl 18 []]), (3, .d (.int .i64 2))], [[.mpb .str ks vs], [.mp 0, .d (.bool false), .d (.bool false)]]⟩))
 (.opt (unL unVar xs) fun l4 => .br (decide ((l4.length : Int) ≤ big))
 (.leaf (.nrm, ⟨[(1, .box [.d (.sl 3 xs), .d (.sl 18 s1), .d (.sl 18 s2), .d (.sl 18 s3), .d (.sl 18 s4)]), (2, .box [.osl 1 [], .osl 18 [], .osl 18 [], .osl 18 [], .osl 18 []]), (5, .hp 1 0), (31, .d (.sl 3 ys)), (32, .d (.int .i64 m)), (33, .d (.int .i64 (IntKind.i64.wrap (n + 1))))], [[.mpb .str (setK (DV.str y1.name) ks) (setV (DV.str y1.name) (AV.agg [.d (.int .i64 ((lk (lookG l4 y1.name 0)).1)), .d (.int .i64 ((lk (lookG l4 y1.name 0)).2.1))]) ks vs)], [.mp 0, .d (.bool false), .d (.bool false)]]⟩))
 (.fail))))
 (.fail))
 (.leaf ((.ext 0), ⟨[(1, .box [.d (.sl 3 xs), .d (.sl 18 s1), .d (.sl 18 s2), .d (.sl 18 s3), .d (.sl 18 s4)]), (2, .box [.osl 1 [], .osl 18 [], .osl 18 [], .osl 18 [], .osl 18 []]), (5, .hp 1 0)], [[.mpb .str ks vs], [.mp 0, .d (.bool false), .d (.bool false)]]⟩)) : Tr (Ex × ST)) := by kernel_rfl

theorem body_resolve_1 (xs s1 s2 s3 s4 ys ks is : List DV) (vs : List AV) (m n : Int) : bodyT Xrs [1, 2, 5, 13, 65, 66, 67] [2, 3] [(2, [1, 2, 5, 13])] l_resolve_1 ⟨[(1, .box [.d (.sl 3 xs), .d (.sl 18 s1), .d (.sl 18 s2), .d (.sl 18 s3), .d (.sl 18 s4)]), (2, .box [.osl 1 [], .osl 18 [], .osl 18 [], .osl 18 [], .osl 18 []]), (5, .hp 1 0), (13, .box [.osl 1 is, .osl 18 [], .osl 18 [], .osl 18 [], .osl 18 []]), (65, .d (.sl 3 ys)), (66, .d (.int .i64 m)), (67, .d (.int .i64 n))], [[.mpb .str ks vs], [.mp 0, .d (.bool false), .d (.bool false)]]⟩ = (
    .br (decide (n < m))
 (.br (decide ((0 : Int) ≤ n))
 (.opt ((ys[(Int.toNat n)]?).bind unVar) fun y1 => .br (decide ((IntKind.i64.wrap (32 - (is.length : Int))) < (if y1.size < 1 then 1 else y1.size)))
 (.leaf (.ret, ⟨[(2, .box [.osl 1 [], .osl 18 [], .osl 18 [], .osl 18 [], .osl 18 []]), (3, .d (.int .i64 4))], [[.mpb .str ks vs], [.mp 0, .d (.bool false), .d (.bool false)]]⟩))
 (.br (decide ((0 : Int) < (if y1.size < 1 then 1 else y1.size) ∧ (is.length + Int.toNat (if y1.size < 1 then 1 else y1.size)) * 8 ≤ 70368744177664))
 (.br (decide ((0 : Int) < (if y1.size < 1 then 1 else y1.size) ∧ Int.toNat (if y1.size < 1 then 1 else y1.size) = Int.toNat (if y1.size < 1 then 1 else y1.size) ∧ is.length + (Int.toNat (if y1.size < 1 then 1 else y1.size)) ≤ 4611686018427387904))
 (.leaf (.nrm, ⟨[(1, .box [.d (.sl 3 xs), .d (.sl 18 s1), .d (.sl 18 s2), .d (.sl 18 s3), .d (.sl 18 s4)]), (2, .box [.osl 1 [], .osl 18 [], .osl 18 [], .osl 18 [], .osl 18 []]), (5, .hp 1 0), (13, .box [.osl 1 (is ++ DV.int .i64 y1.init :: List.replicate (Int.toNat (if y1.size < 1 then 1 else y1.size) - 1) (DV.int .i64 0)), .osl 18 [], .osl 18 [], .osl 18 [], .osl 18 []]), (65, .d (.sl 3 ys)), (66, .d (.int .i64 m)), (67, .d (.int .i64 (IntKind.i64.wrap (n + 1))))], [[.mpb .str ks vs], [.mp 0, .d (.bool false), .d (.bool false)]]⟩))
 (.fail))
 (.fail)))
 (.fail))
 (.leaf ((.ext 2), ⟨[(1, .box [.d (.sl 3 xs), .d (.sl 18 s1), .d (.sl 18 s2), .d (.sl 18 s3), .d (.sl 18 s4)]), (2, .box [.osl 1 [], .osl 18 [], .osl 18 [], .osl 18 [], .osl 18 []]), (5, .hp 1 0), (13, .box [.osl 1 is, .osl 18 [], .osl 18 [], .osl 18 [], .osl 18 []])], [[.mpb .str ks vs], [.mp 0, .d (.bool false), .d (.bool false)]]⟩)) : Tr (Ex × ST)) := by kernel_rfl

theorem tree_resolve (xs s1 s2 s3 s4 : List DV) : fnT Xrs c_resolve Tryd.f10.results.toList [.agg [.d (.sl 3 xs), .d (.sl 18 s1), .d (.sl 18 s2), .d (.sl 18 s3), .d (.sl 18 s4)]] [] = (
    .opt (unL unVar xs) fun l1 => .br (decide ((l1.length : Int) ≤ big) && (short l1 && fitP s1 s2 s3 s4))
 (.br (!decide ((chkP l1 s1 s2 s3 s4) = 0))
 (.leaf (.tup [.agg [.d (.sl 1 []), .d (.sl 18 []), .d (.sl 18 []), .d (.sl 18 []), .d (.sl 18 [])], .d (.int .i64 (chkP l1 s1 s2 s3 s4))], []))
 (.br (decide ((16 : Int) < (xs.length : Int)))
 (.leaf (.tup [.agg [.d (.sl 1 []), .d (.sl 18 []), .d (.sl 18 []), .d (.sl 18 []), .d (.sl 18 [])], .d (.int .i64 4)], []))
 (.opt (unL unVar xs) fun l2 => .opt (unL unVar xs) fun q3 => .br (decide ((xs.length : Int) = l2.length ∧ (0 : Int) = 0 ∧ (xs.length : Int) ≤ big ∧ l2 = q3))
 (.br (dupB [] l2)
 (.leaf (.tup [.agg [.d (.sl 1 []), .d (.sl 18 []), .d (.sl 18 []), .d (.sl 18 []), .d (.sl 18 [])], .d (.int .i64 2)], [[.mpb .str (kss (pref [] l2)) (vss l2 (pref [] l2))], [.mp 0, .d (.bool false), .d (.bool false)]]))
 (.opt (unL unVar xs) fun l4 => .br (decide ((xs.length : Int) = l4.length ∧ (0 : Int) = 0 ∧ (xs.length : Int) ≤ big))
 (.br (many 0 l4)
 (.leaf (.tup [.agg [.d (.sl 1 []), .d (.sl 18 []), .d (.sl 18 []), .d (.sl 18 []), .d (.sl 18 [])], .d (.int .i64 4)], [[.mpb .str (kss (pref [] l2)) (vss l2 (pref [] l2))], [.mp 0, .d (.bool false), .d (.bool false)]]))
 (.opt (unM (vss l2 (pref [] l2))) fun ps5 => .br (decide ((kss (pref [] l2)).length = ps5.length) && fitS 9 s1)
 (.opt (unM (vss l2 (pref [] l2))) fun ps6 => .br (decide ((kss (pref [] l2)).length = ps6.length) && fitS 9 s2)
 (.opt (unM (vss l2 (pref [] l2))) fun ps7 => .br (decide ((kss (pref [] l2)).length = ps7.length) && fitS 9 s3)
 (.opt (unM (vss l2 (pref [] l2))) fun ps8 => .br (decide ((kss (pref [] l2)).length = ps8.length) && fitS 9 s4)
 (.br ((resS (kss (pref [] l2)) ps8 9 s4 ⟨((resS (kss (pref [] l2)) ps7 9 s3 ⟨((resS (kss (pref [] l2)) ps6 9 s2 ⟨((resS (kss (pref [] l2)) ps5 9 s1 ⟨false, false⟩).2.a), ((resS (kss (pref [] l2)) ps5 9 s1 ⟨false, false⟩).2.b)⟩).2.a), ((resS (kss (pref [] l2)) ps6 9 s2 ⟨((resS (kss (pref [] l2)) ps5 9 s1 ⟨false, false⟩).2.a), ((resS (kss (pref [] l2)) ps5 9 s1 ⟨false, false⟩).2.b)⟩).2.b)⟩).2.a), ((resS (kss (pref [] l2)) ps7 9 s3 ⟨((resS (kss (pref [] l2)) ps6 9 s2 ⟨((resS (kss (pref [] l2)) ps5 9 s1 ⟨false, false⟩).2.a), ((resS (kss (pref [] l2)) ps5 9 s1 ⟨false, false⟩).2.b)⟩).2.a), ((resS (kss (pref [] l2)) ps6 9 s2 ⟨((resS (kss (pref [] l2)) ps5 9 s1 ⟨false, false⟩).2.a), ((resS (kss (pref [] l2)) ps5 9 s1 ⟨false, false⟩).2.b)⟩).2.b)⟩).2.b)⟩).2.a)
 (.leaf (.tup [.agg [.d (.sl 1 []), .d (.sl 18 []), .d (.sl 18 []), .d (.sl 18 []), .d (.sl 18 [])], .d (.int .i64 2)], [[.mpb .str (kss (pref [] l2)) (vss l2 (pref [] l2))], [.mp 0, .d (.bool ((resS (kss (pref [] l2)) ps8 9 s4 ⟨((resS (kss (pref [] l2)) ps7 9 s3 ⟨((resS (kss (pref [] l2)) ps6 9 s2 ⟨((resS (kss (pref [] l2)) ps5 9 s1 ⟨false, false⟩).2.a), ((resS (kss (pref [] l2)) ps5 9 s1 ⟨false, false⟩).2.b)⟩).2.a), ((resS (kss (pref [] l2)) ps6 9 s2 ⟨((resS (kss (pref [] l2)) ps5 9 s1 ⟨false, false⟩).2.a), ((resS (kss (pref [] l2)) ps5 9 s1 ⟨false, false⟩).2.b)⟩).2.b)⟩).2.a), ((resS (kss (pref [] l2)) ps7 9 s3 ⟨((resS (kss (pref [] l2)) ps6 9 s2 ⟨((resS (kss (pref [] l2)) ps5 9 s1 ⟨false, false⟩).2.a), ((resS (kss (pref [] l2)) ps5 9 s1 ⟨false, false⟩).2.b)⟩).2.a), ((resS (kss (pref [] l2)) ps6 9 s2 ⟨((resS (kss (pref [] l2)) ps5 9 s1 ⟨false, false⟩).2.a), ((resS (kss (pref [] l2)) ps5 9 s1 ⟨false, false⟩).2.b)⟩).2.b)⟩).2.b)⟩).2.a)), .d (.bool ((resS (kss (pref [] l2)) ps8 9 s4 ⟨((resS (kss (pref [] l2)) ps7 9 s3 ⟨((resS (kss (pref [] l2)) ps6 9 s2 ⟨((resS (kss (pref [] l2)) ps5 9 s1 ⟨false, false⟩).2.a), ((resS (kss (pref [] l2)) ps5 9 s1 ⟨false, false⟩).2.b)⟩).2.a), ((resS (kss (pref [] l2)) ps6 9 s2 ⟨((resS (kss (pref [] l2)) ps5 9 s1 ⟨false, false⟩).2.a), ((resS (kss (pref [] l2)) ps5 9 s1 ⟨false, false⟩).2.b)⟩).2.b)⟩).2.a), ((resS (kss (pref [] l2)) ps7 9 s3 ⟨((resS (kss (pref [] l2)) ps6 9 s2 ⟨((resS (kss (pref [] l2)) ps5 9 s1 ⟨false, false⟩).2.a), ((resS (kss (pref [] l2)) ps5 9 s1 ⟨false, false⟩).2.b)⟩).2.a), ((resS (kss (pref [] l2)) ps6 9 s2 ⟨((resS (kss (pref [] l2)) ps5 9 s1 ⟨false, false⟩).2.a), ((resS (kss (pref [] l2)) ps5 9 s1 ⟨false, false⟩).2.b)⟩).2.b)⟩).2.b)⟩).2.b))]]))
 (.br ((resS (kss (pref [] l2)) ps8 9 s4 ⟨((resS (kss (pref [] l2)) ps7 9 s3 ⟨((resS (kss (pref [] l2)) ps6 9 s2 ⟨((resS (kss (pref [] l2)) ps5 9 s1 ⟨false, false⟩).2.a), ((resS (kss (pref [] l2)) ps5 9 s1 ⟨false, false⟩).2.b)⟩).2.a), ((resS (kss (pref [] l2)) ps6 9 s2 ⟨((resS (kss (pref [] l2)) ps5 9 s1 ⟨false, false⟩).2.a), ((resS (kss (pref [] l2)) ps5 9 s1 ⟨false, false⟩).2.b)⟩).2.b)⟩).2.a), ((resS (kss (pref [] l2)) ps7 9 s3 ⟨((resS (kss (pref [] l2)) ps6 9 s2 ⟨((resS (kss (pref [] l2)) ps5 9 s1 ⟨false, false⟩).2.a), ((resS (kss (pref [] l2)) ps5 9 s1 ⟨false, false⟩).2.b)⟩).2.a), ((resS (kss (pref [] l2)) ps6 9 s2 ⟨((resS (kss (pref [] l2)) ps5 9 s1 ⟨false, false⟩).2.a), ((resS (kss (pref [] l2)) ps5 9 s1 ⟨false, false⟩).2.b)⟩).2.b)⟩).2.b)⟩).2.b)
 (.leaf (.tup [.agg [.d (.sl 1 []), .d (.sl 18 []), .d (.sl 18 []), .d (.sl 18 []), .d (.sl 18 [])], .d (.int .i64 7)], [[.mpb .str (kss (pref [] l2)) (vss l2 (pref [] l2))], [.mp 0, .d (.bool ((resS (kss (pref [] l2)) ps8 9 s4 ⟨((resS (kss (pref [] l2)) ps7 9 s3 ⟨((resS (kss (pref [] l2)) ps6 9 s2 ⟨((resS (kss (pref [] l2)) ps5 9 s1 ⟨false, false⟩).2.a), ((resS (kss (pref [] l2)) ps5 9 s1 ⟨false, false⟩).2.b)⟩).2.a), ((resS (kss (pref [] l2)) ps6 9 s2 ⟨((resS (kss (pref [] l2)) ps5 9 s1 ⟨false, false⟩).2.a), ((resS (kss (pref [] l2)) ps5 9 s1 ⟨false, false⟩).2.b)⟩).2.b)⟩).2.a), ((resS (kss (pref [] l2)) ps7 9 s3 ⟨((resS (kss (pref [] l2)) ps6 9 s2 ⟨((resS (kss (pref [] l2)) ps5 9 s1 ⟨false, false⟩).2.a), ((resS (kss (pref [] l2)) ps5 9 s1 ⟨false, false⟩).2.b)⟩).2.a), ((resS (kss (pref [] l2)) ps6 9 s2 ⟨((resS (kss (pref [] l2)) ps5 9 s1 ⟨false, false⟩).2.a), ((resS (kss (pref [] l2)) ps5 9 s1 ⟨false, false⟩).2.b)⟩).2.b)⟩).2.b)⟩).2.a)), .d (.bool ((resS (kss (pref [] l2)) ps8 9 s4 ⟨((resS (kss (pref [] l2)) ps7 9 s3 ⟨((resS (kss (pref [] l2)) ps6 9 s2 ⟨((resS (kss (pref [] l2)) ps5 9 s1 ⟨false, false⟩).2.a), ((resS (kss (pref [] l2)) ps5 9 s1 ⟨false, false⟩).2.b)⟩).2.a), ((resS (kss (pref [] l2)) ps6 9 s2 ⟨((resS (kss (pref [] l2)) ps5 9 s1 ⟨false, false⟩).2.a), ((resS (kss (pref [] l2)) ps5 9 s1 ⟨false, false⟩).2.b)⟩).2.b)⟩).2.a), ((resS (kss (pref [] l2)) ps7 9 s3 ⟨((resS (kss (pref [] l2)) ps6 9 s2 ⟨((resS (kss (pref [] l2)) ps5 9 s1 ⟨false, false⟩).2.a), ((resS (kss (pref [] l2)) ps5 9 s1 ⟨false, false⟩).2.b)⟩).2.a), ((resS (kss (pref [] l2)) ps6 9 s2 ⟨((resS (kss (pref [] l2)) ps5 9 s1 ⟨false, false⟩).2.a), ((resS (kss (pref [] l2)) ps5 9 s1 ⟨false, false⟩).2.b)⟩).2.b)⟩).2.b)⟩).2.b))]]))
 (.leaf (.tup [.agg [.d (.sl 1 (ini l4)), .d (.sl 18 ((resS (kss (pref [] l2)) ps5 9 s1 ⟨false, false⟩).1.map encSt)), .d (.sl 18 ((resS (kss (pref [] l2)) ps6 9 s2 ⟨((resS (kss (pref [] l2)) ps5 9 s1 ⟨false, false⟩).2.a), ((resS (kss (pref [] l2)) ps5 9 s1 ⟨false, false⟩).2.b)⟩).1.map encSt)), .d (.sl 18 ((resS (kss (pref [] l2)) ps7 9 s3 ⟨((resS (kss (pref [] l2)) ps6 9 s2 ⟨((resS (kss (pref [] l2)) ps5 9 s1 ⟨false, false⟩).2.a), ((resS (kss (pref [] l2)) ps5 9 s1 ⟨false, false⟩).2.b)⟩).2.a), ((resS (kss (pref [] l2)) ps6 9 s2 ⟨((resS (kss (pref [] l2)) ps5 9 s1 ⟨false, false⟩).2.a), ((resS (kss (pref [] l2)) ps5 9 s1 ⟨false, false⟩).2.b)⟩).2.b)⟩).1.map encSt)), .d (.sl 18 ((resS (kss (pref [] l2)) ps8 9 s4 ⟨((resS (kss (pref [] l2)) ps7 9 s3 ⟨((resS (kss (pref [] l2)) ps6 9 s2 ⟨((resS (kss (pref [] l2)) ps5 9 s1 ⟨false, false⟩).2.a), ((resS (kss (pref [] l2)) ps5 9 s1 ⟨false, false⟩).2.b)⟩).2.a), ((resS (kss (pref [] l2)) ps6 9 s2 ⟨((resS (kss (pref [] l2)) ps5 9 s1 ⟨false, false⟩).2.a), ((resS (kss (pref [] l2)) ps5 9 s1 ⟨false, false⟩).2.b)⟩).2.b)⟩).2.a), ((resS (kss (pref [] l2)) ps7 9 s3 ⟨((resS (kss (pref [] l2)) ps6 9 s2 ⟨((resS (kss (pref [] l2)) ps5 9 s1 ⟨false, false⟩).2.a), ((resS (kss (pref [] l2)) ps5 9 s1 ⟨false, false⟩).2.b)⟩).2.a), ((resS (kss (pref [] l2)) ps6 9 s2 ⟨((resS (kss (pref [] l2)) ps5 9 s1 ⟨false, false⟩).2.a), ((resS (kss (pref [] l2)) ps5 9 s1 ⟨false, false⟩).2.b)⟩).2.b)⟩).2.b)⟩).1.map encSt))], .d (.int .i64 0)], [[.mpb .str (kss (pref [] l2)) (vss l2 (pref [] l2))], [.mp 0, .d (.bool ((resS (kss (pref [] l2)) ps8 9 s4 ⟨((resS (kss (pref [] l2)) ps7 9 s3 ⟨((resS (kss (pref [] l2)) ps6 9 s2 ⟨((resS (kss (pref [] l2)) ps5 9 s1 ⟨false, false⟩).2.a), ((resS (kss (pref [] l2)) ps5 9 s1 ⟨false, false⟩).2.b)⟩).2.a), ((resS (kss (pref [] l2)) ps6 9 s2 ⟨((resS (kss (pref [] l2)) ps5 9 s1 ⟨false, false⟩).2.a), ((resS (kss (pref [] l2)) ps5 9 s1 ⟨false, false⟩).2.b)⟩).2.b)⟩).2.a), ((resS (kss (pref [] l2)) ps7 9 s3 ⟨((resS (kss (pref [] l2)) ps6 9 s2 ⟨((resS (kss (pref [] l2)) ps5 9 s1 ⟨false, false⟩).2.a), ((resS (kss (pref [] l2)) ps5 9 s1 ⟨false, false⟩).2.b)⟩).2.a), ((resS (kss (pref [] l2)) ps6 9 s2 ⟨((resS (kss (pref [] l2)) ps5 9 s1 ⟨false, false⟩).2.a), ((resS (kss (pref [] l2)) ps5 9 s1 ⟨false, false⟩).2.b)⟩).2.b)⟩).2.b)⟩).2.a)), .d (.bool ((resS (kss (pref [] l2)) ps8 9 s4 ⟨((resS (kss (pref [] l2)) ps7 9 s3 ⟨((resS (kss (pref [] l2)) ps6 9 s2 ⟨((resS (kss (pref [] l2)) ps5 9 s1 ⟨false, false⟩).2.a), ((resS (kss (pref [] l2)) ps5 9 s1 ⟨false, false⟩).2.b)⟩).2.a), ((resS (kss (pref [] l2)) ps6 9 s2 ⟨((resS (kss (pref [] l2)) ps5 9 s1 ⟨false, false⟩).2.a), ((resS (kss (pref [] l2)) ps5 9 s1 ⟨false, false⟩).2.b)⟩).2.b)⟩).2.a), ((resS (kss (pref [] l2)) ps7 9 s3 ⟨((resS (kss (pref [] l2)) ps6 9 s2 ⟨((resS (kss (pref [] l2)) ps5 9 s1 ⟨false, false⟩).2.a), ((resS (kss (pref [] l2)) ps5 9 s1 ⟨false, false⟩).2.b)⟩).2.a), ((resS (kss (pref [] l2)) ps6 9 s2 ⟨((resS (kss (pref [] l2)) ps5 9 s1 ⟨false, false⟩).2.a), ((resS (kss (pref [] l2)) ps5 9 s1 ⟨false, false⟩).2.b)⟩).2.b)⟩).2.b)⟩).2.b))]]))))
 (.fail))
 (.fail))
 (.fail))
 (.fail)))
 (.fail)))
 (.fail))))
 (.fail) : Tr (AV × Hp)) := by kernel_rfl


theorem sum_resolve_0 : SumOK Tryd.prog gl (ann 10) L_resolve_0 (.loop l_resolve_0) := by
  refine SumOK.of_inv (X := Xrs) (xok_Xrs 10) (by simp only [Sums, l_resolve_0, and_true]) (by kernel_rfl) (lv := [1, 2, 5, 31, 32, 33]) (rt := [2, 3]) (xs := [(0, [1, 2, 5])]) (by decide)
    (fun k st r => ∃ (s1 s2 s3 s4 : List DV) (l d : List Var) (n : Nat), n ≤ l.length ∧ (l.length : Int) ≤ big ∧
      st = ⟨[(1, .box (prog4 (l.map encVar) s1 s2 s3 s4)), (2, .box nilC), (5, .hp 1 0), (31, .d (.sl 3 (l.map encVar))), (32, .d (.int .i64 (l.length : Int))), (33, .d (.int .i64 (n : Int)))], hpF (kss d) (vss l d)⟩ ∧
      r = (bif dupB d (l.drop n) then (.ret, ⟨[(2, .box nilC), (3, .d (.int .i64 2))], hpF (kss (pref d (l.drop n))) (vss l (pref d (l.drop n)))⟩)
        else (.ext 0, ⟨[(1, .box (prog4 (l.map encVar) s1 s2 s3 s4)), (2, .box nilC), (5, .hp 1 0)], hpF (kss (pref d (l.drop n))) (vss l (pref d (l.drop n)))⟩)) ∧ k = l.length - n) ?_ ?_
  · intro st r h
    unfold L_resolve_0 at h
    split at h
    · rename_i xs s1 s2 s3 s4 ys m n
      obtain ⟨l, hl, h0⟩ := Tr.opt_some h
      obtain rfl := unL_inv unVar_ok hl
      obtain ⟨q, hq, h0⟩ := Tr.opt_some h0
      obtain rfl := unL_inv unVar_ok hq
      rcases Tr.br_some h0 with ⟨h1, h2⟩ | ⟨_, h2⟩
      · obtain ⟨rfl, rfl, h5, rfl⟩ := of_decide_eq_true h1
        refine ⟨_, s1, s2, s3, s4, l, [], 0, by omega, h5, rfl, ?_, rfl⟩
        rw [List.drop_zero]
        rcases Tr.br_some h2 with ⟨hs, h8⟩ | ⟨hs, h8⟩ <;> rw [hs] <;> exact (Tr.leaf_some h8).symm
      · exact Tr.fail_some h2
    · exact Tr.fail_some h
  · rintro k st r ⟨s1, s2, s3, s4, l, d, n, h1, h2, rfl, rfl, rfl⟩
    unfold prog4 nilC hpF
    rw [body_resolve_0]
    cases hb : l[n]? with
    | none =>
      have hl : l.length ≤ n := by simpa using hb
      have he : l.drop n = [] := List.drop_eq_nil_of_le hl
      refine ⟨.ext 0, _, ?_, .inl ⟨by simp, by rw [he]; rfl⟩⟩
      have h5 : ¬ ((n : Int) < l.length) := by omega
      simp [Tr.run_br, Tr.run_leaf, h5, pref]
    | some v =>
      have hl := at_len hb
      have h5 : ((n : Int) < l.length) := by omega
      rw [vdrop hb]
      cases hs : same v.name d with
      | true =>
        obtain ⟨u, hu⟩ := findM_kss l v.name d hs
        have hh := hasM_kss v.name d
        rw [hs] at hh
        have e1 : dupB d (v :: l.drop (n + 1)) = true := by simp only [dupB]; rw [if_pos]; exact hs
        have e2 : pref d (v :: l.drop (n + 1)) = d := by simp only [pref]; rw [if_pos]; exact hs
        refine ⟨.ret, _, ?_, .inl ⟨by simp, by rw [e1, e2]; rfl⟩⟩
        simp [Tr.run_br, Tr.run_leaf, Tr.run_opt_, h5, unVar_enc, hb, hh, hu, plcOf, deAV, deDs, unPlc]
      | false =>
        have hh := hasM_kss v.name d
        rw [hs] at hh
        have e1 : dupB d (v :: l.drop (n + 1)) = dupB (d ++ [v]) (l.drop (n + 1)) := by
          simp only [dupB]; rw [if_neg]; rw [show (d.any fun u => decide (u.name = v.name)) = same v.name d from rfl, hs]; simp
        have e2 : pref d (v :: l.drop (n + 1)) = pref (d ++ [v]) (l.drop (n + 1)) := by
          simp only [pref]; rw [if_neg]; rw [show (d.any fun u => decide (u.name = v.name)) = same v.name d from rfl, hs]; simp
        have h8 : IntKind.i64.wrap ((n : Int) + 1) = ((n + 1 : Nat) : Int) := by unfold big at h2; rw [wrap_in] <;> omega
        refine ⟨.nrm, ⟨[(1, .box (prog4 (l.map encVar) s1 s2 s3 s4)), (2, .box nilC), (5, .hp 1 0), (31, .d (.sl 3 (l.map encVar))), (32, .d (.int .i64 (l.length : Int))), (33, .d (.int .i64 ((n + 1 : Nat) : Int)))], hpF (kss (d ++ [v])) (vss l (d ++ [v]))⟩, ?_,
          .inr ⟨rfl, _, ?_, s1, s2, s3, s4, l, d ++ [v], n + 1, by omega, h2, rfl, by rw [e1, e2], rfl⟩⟩
        · have hk := setK_kss v.name d hs
          have hv := setV_kss l v.name (plcOf (lk (lookG l v.name 0))) d hs
          unfold plcOf at hv
          rw [kss_snoc, vss_snoc]
          unfold prog4 nilC hpF plcOf
          rw [← hk, ← hv]
          have hun := unL_map (un := unVar) (enc := encVar) unVar_enc l
          simp only [h8]
          simp [Tr.run_br, Tr.run_leaf, Tr.run_opt_, h5, unVar_enc, hb, hh, hun, h2]
        · omega

theorem ini_cons (v : Var) (l : List Var) : ini (v :: l) = iniOf v ++ ini l := rfl
theorem iniOf_len (v : Var) : (iniOf v).length = (max v.size 1).toNat := by simp [iniOf]; omega

theorem sum_resolve_1 : SumOK Tryd.prog gl (ann 10) L_resolve_1 (.loop l_resolve_1) := by
  refine SumOK.of_inv (X := Xrs) (xok_Xrs 10) (by
      simp only [Sums, l_resolve_1, and_true, true_and]
      exact poke_sum (T := 35) (S := 33) (I := 3) (V := 42) (c := 13) (n := 16) (x := 15) (d0 := 86) ⟨rfl, rfl, rfl, rfl, rfl, rfl, rfl, rfl, rfl, rfl⟩ (by decide) (by decide) (by decide) (by decide) (by decide) (by decide) (by rfl)) (by kernel_rfl) (lv := [1, 2, 5, 13, 65, 66, 67]) (rt := [2, 3]) (xs := [(2, [1, 2, 5, 13])]) (by decide)
    (fun k st r => ∃ (xs s1 s2 s3 s4 ks is : List DV) (vs : List AV) (l : List Var) (n : Nat), n ≤ l.length ∧ (l.length : Int) ≤ big ∧ is.length ≤ 32 ∧
      st = ⟨[(1, .box (prog4 xs s1 s2 s3 s4)), (2, .box nilC), (5, .hp 1 0), (13, .box [.osl 1 is, .osl 18 [], .osl 18 [], .osl 18 [], .osl 18 []]), (65, .d (.sl 3 (l.map encVar))), (66, .d (.int .i64 (l.length : Int))), (67, .d (.int .i64 (n : Int)))], hpF ks vs⟩ ∧
      r = (bif many is.length (l.drop n) then (.ret, ⟨[(2, .box nilC), (3, .d (.int .i64 4))], hpF ks vs⟩)
        else (.ext 2, ⟨[(1, .box (prog4 xs s1 s2 s3 s4)), (2, .box nilC), (5, .hp 1 0), (13, .box [.osl 1 (is ++ ini (l.drop n)), .osl 18 [], .osl 18 [], .osl 18 [], .osl 18 []])], hpF ks vs⟩)) ∧ k = l.length - n) ?_ ?_
  · intro st r h
    unfold L_resolve_1 at h
    split at h
    · rename_i xs s1 s2 s3 s4 ys m n ks vs
      obtain ⟨l, hl, h0⟩ := Tr.opt_some h
      obtain rfl := unL_inv unVar_ok hl
      rcases Tr.br_some h0 with ⟨h1, h2⟩ | ⟨_, h2⟩
      · obtain ⟨rfl, rfl, h5⟩ := of_decide_eq_true h1
        refine ⟨_, xs, s1, s2, s3, s4, ks, [], vs, l, 0, by omega, h5, by simp, rfl, ?_, rfl⟩
        rw [List.drop_zero]
        simp only [List.length_nil, Int.natCast_zero, List.nil_append]
        rcases Tr.br_some h2 with ⟨hs, h8⟩ | ⟨hs, h8⟩ <;> rw [hs] <;> exact (Tr.leaf_some h8).symm
      · exact Tr.fail_some h2
    · exact Tr.fail_some h
  · rintro k st r ⟨xs, s1, s2, s3, s4, ks, is, vs, l, n, h1, h2, h3, rfl, rfl, rfl⟩
    unfold prog4 nilC hpF
    rw [body_resolve_1]
    cases hb : l[n]? with
    | none =>
      have hl : l.length ≤ n := by simpa using hb
      have he : l.drop n = [] := List.drop_eq_nil_of_le hl
      refine ⟨.ext 2, _, ?_, .inl ⟨by simp, by rw [he]; rfl⟩⟩
      have h5 : ¬ ((n : Int) < l.length) := by omega
      simp [Tr.run_br, Tr.run_leaf, h5, ini]
    | some v =>
      have hl := at_len hb
      have h5 : ((n : Int) < l.length) := by omega
      have hw : IntKind.i64.wrap (32 - (is.length : Int)) = 32 - (is.length : Int) := by rw [wrap_in] <;> omega
      rw [vdrop hb]
      simp only [maxI1, hw]
      by_cases h6 : 32 - (is.length : Int) < max v.size 1
      · refine ⟨.ret, _, ?_, .inl ⟨by simp, by simp only [many, if_pos h6]; rfl⟩⟩
        simp [Tr.run_br, Tr.run_leaf, Tr.run_opt_, h5, unVar_enc, hb, h6]
      · have h8 : IntKind.i64.wrap ((n : Int) + 1) = ((n + 1 : Nat) : Int) := by unfold big at h2; rw [wrap_in] <;> omega
        have h9 : (0 : Int) < max v.size 1 := by omega
        have h10 : (is.length + (max v.size 1).toNat) * 8 ≤ 70368744177664 := by omega
        have h11 : is.length + (max v.size 1).toNat ≤ 4611686018427387904 := by omega
        have hil : (((is ++ iniOf v).length : Nat) : Int) = is.length + max v.size 1 := by rw [List.length_append, iniOf_len]; omega
        refine ⟨.nrm, ⟨[(1, .box (prog4 xs s1 s2 s3 s4)), (2, .box nilC), (5, .hp 1 0), (13, .box [.osl 1 (is ++ iniOf v), .osl 18 [], .osl 18 [], .osl 18 [], .osl 18 []]), (65, .d (.sl 3 (l.map encVar))), (66, .d (.int .i64 (l.length : Int))), (67, .d (.int .i64 ((n + 1 : Nat) : Int)))], hpF ks vs⟩, ?_,
          .inr ⟨rfl, _, ?_, xs, s1, s2, s3, s4, ks, is ++ iniOf v, vs, l, n + 1, by omega, h2, by omega, rfl, ?_, rfl⟩⟩
        · simp only [h8]
          simp [Tr.run_br, Tr.run_leaf, Tr.run_opt_, h5, unVar_enc, hb, h6, h9, h10, h11, iniOf, prog4, nilC, hpF]
        · omega
        · rw [hil, ini_cons, List.append_assoc]
          simp only [many, if_neg h6]

theorem pref_eq : ∀ (l d : List Var), dupB d l = false → pref d l = d ++ l
  | [], d, _ => by simp [pref]
  | v :: r, d, h => by
    simp only [dupB] at h
    split at h
    · cases h
    · rename_i hn
      simp only [pref, if_neg hn]
      rw [pref_eq r (d ++ [v]) h, List.append_assoc]; rfl

def plcV (a : List Var) (v : Var) : Plc := ⟨(lk (lookG a v.name 0)).1, (lk (lookG a v.name 0)).2.1⟩
def plcs (l : List Var) : List Plc := l.map (plcV l)
theorem unM_vss (a : List Var) : ∀ d : List Var, unM (vss a d) = some (d.map (plcV a))
  | [] => rfl
  | v :: d => by
    show (match (deAV (plcOf (lk (lookG a v.name 0)))).bind unPlc, unM (vss a d) with
      | some p, some ps => some (p :: ps)
      | _, _ => none) = _
    rw [unM_vss a d]; rfl

def res1L (l : List Var) (s1 : List DV) : List St × Mk := resS (kss l) (plcs l) 9 s1 ⟨false, false⟩
def res2L (l : List Var) (s1 s2 : List DV) : List St × Mk := resS (kss l) (plcs l) 9 s2 (res1L l s1).2
def res3L (l : List Var) (s1 s2 s3 : List DV) : List St × Mk := resS (kss l) (plcs l) 9 s3 (res2L l s1 s2).2
def res4L (l : List Var) (s1 s2 s3 s4 : List DV) : List St × Mk := resS (kss l) (plcs l) 9 s4 (res3L l s1 s2 s3).2
def ans0 (e : Int) : AV := .tup [.agg [.d (.sl 1 []), .d (.sl 18 []), .d (.sl 18 []), .d (.sl 18 []), .d (.sl 18 [])], .d (.int .i64 e)]
def ans1 (i : List DV) (a b c d : List St) : AV := .tup [.agg [.d (.sl 1 i), .d (.sl 18 (a.map encSt)), .d (.sl 18 (b.map encSt)), .d (.sl 18 (c.map encSt)), .d (.sl 18 (d.map encSt))], .d (.int .i64 0)]

/-- What Resolve answers. -/
def resP (l : List Var) (s1 s2 s3 s4 : List DV) : AV :=
  if chkP l s1 s2 s3 s4 = 0 then
    (if 16 < (l.length : Int) then ans0 4 else bif dupB [] l then ans0 2 else bif many 0 l then ans0 4
     else bif (res4L l s1 s2 s3 s4).2.a then ans0 2 else bif (res4L l s1 s2 s3 s4).2.b then ans0 7
     else ans1 (ini l) (res1L l s1).1 (res2L l s1 s2).1 (res3L l s1 s2 s3).1 (res4L l s1 s2 s3 s4).1)
  else ans0 (chkP l s1 s2 s3 s4)

def resolveT : FT
  | [.agg [.d (.sl 3 xs), .d (.sl 18 s1), .d (.sl 18 s2), .d (.sl 18 s3), .d (.sl 18 s4)]], [] => .opt (unL unVar xs) fun l => .br (decide ((l.length : Int) ≤ big) && (short l && fitP s1 s2 s3 s4)) (.leaf (resP l s1 s2 s3 s4, [])) .fail
  | _, _ => .fail

theorem ok_resolveR : FnOK Tryd.prog gl 10 (fun ar H => fnT Xrs c_resolve Tryd.f10.results.toList ar H) :=
  fn_of (X := Xrs) (xok_Xrs 10) Tryd.func10 c_resolve_eq (by kernel_rfl) (by
    simp only [Sums, c_resolve, and_true, true_and]
    exact ⟨sum_resolve_0, sum_resolve_1⟩) fun _ _ _ h => h

theorem resP_below (l : List Var) (s1 s2 s3 s4 : List DV) : belowV 0 (resP l s1 s2 s3 s4) = true := by
  unfold resP
  by_cases h6 : chkP l s1 s2 s3 s4 = 0
  · rw [if_pos h6]
    by_cases h7 : 16 < (l.length : Int)
    · rw [if_pos h7]; rfl
    · rw [if_neg h7]
      cases dupB [] l
      · cases many 0 l
        · cases (res4L l s1 s2 s3 s4).2.a
          · cases (res4L l s1 s2 s3 s4).2.b <;> rfl
          · rfl
        · rfl
      · rfl
  · rw [if_neg h6]; rfl

theorem ok_resolve : FnOK Tryd.prog gl 10 resolveT := by
  refine ok_resolveR.drop fun ar H v H' h => ?_
  unfold resolveT at h
  split at h
  · rename_i xs s1 s2 s3 s4
    obtain ⟨l, hl, h⟩ := Tr.opt_some h
    rcases Tr.br_some h with ⟨h1, h2⟩ | ⟨_, h2⟩
    · obtain ⟨rfl, rfl⟩ := Prod.mk.inj (Tr.leaf_some h2)
      refine ⟨rfl, rfl, resP_below l s1 s2 s3 s4, ?_⟩
      show ∃ H1, (fnT Xrs c_resolve Tryd.f10.results.toList [.agg [.d (.sl 3 xs), .d (.sl 18 s1), .d (.sl 18 s2), .d (.sl 18 s3), .d (.sl 18 s4)]] []).run = some (resP l s1 s2 s3 s4, H1)
      rw [tree_resolve]
      have h3 := h1
      simp only [Bool.and_eq_true, decide_eq_true_eq, fitP] at h3
      obtain ⟨h4, h5, f1, f2, f3, f4⟩ := h3
      have hlen : xs.length = l.length := by rw [unL_inv unVar_ok hl, List.length_map]
      unfold resP
      by_cases h6 : chkP l s1 s2 s3 s4 = 0
      · rw [if_pos h6]
        by_cases h7 : 16 < (l.length : Int)
        · rw [if_pos h7]
          exact ⟨_, Tr.opt_to hl ((Tr.run_yes h1).trans ((Tr.run_no (by simp [h6])).trans ((Tr.run_yes (by simp [hlen, h7])).trans rfl)))⟩
        · rw [if_neg h7]
          have q : decide ((xs.length : Int) = l.length ∧ (0 : Int) = 0 ∧ (xs.length : Int) ≤ big ∧ l = l) = true := decide_eq_true ⟨by omega, rfl, by omega, rfl⟩
          have q2 : decide ((xs.length : Int) = l.length ∧ (0 : Int) = 0 ∧ (xs.length : Int) ≤ big) = true := decide_eq_true ⟨by omega, rfl, by omega⟩
          cases h8 : dupB [] l with
          | true =>
            exact ⟨_, Tr.opt_to hl ((Tr.run_yes h1).trans ((Tr.run_no (by simp [h6])).trans ((Tr.run_no (by simp [hlen]; omega)).trans
              (Tr.opt_to hl (Tr.opt_to hl ((Tr.run_yes q).trans ((Tr.run_yes h8).trans rfl)))))))⟩
          | false =>
            have hp : pref [] l = l := pref_eq l [] h8
            cases h9 : many 0 l with
            | true =>
              exact ⟨_, Tr.opt_to hl ((Tr.run_yes h1).trans ((Tr.run_no (by simp [h6])).trans ((Tr.run_no (by simp [hlen]; omega)).trans
                (Tr.opt_to hl (Tr.opt_to hl ((Tr.run_yes q).trans ((Tr.run_no h8).trans (Tr.opt_to hl ((Tr.run_yes q2).trans ((Tr.run_yes h9).trans rfl))))))))))⟩
            | false =>
              have hu : unM (vss l (pref [] l)) = some (plcs l) := by rw [hp]; exact unM_vss l l
              have hk : ∀ s, fitS 9 s = true → (decide ((kss (pref [] l)).length = (plcs l).length) && fitS 9 s) = true := by
                intro s hs; rw [hs, hp]; simp [kss, plcs]
              refine Exists.imp (fun H1 e => Tr.opt_to hl ((Tr.run_yes h1).trans ((Tr.run_no (by simp [h6])).trans ((Tr.run_no (by simp [hlen]; omega)).trans
                (Tr.opt_to hl (Tr.opt_to hl ((Tr.run_yes q).trans ((Tr.run_no h8).trans (Tr.opt_to hl ((Tr.run_yes q2).trans ((Tr.run_no h9).trans
                (Tr.opt_to hu ((Tr.run_yes (hk s1 f1)).trans (Tr.opt_to hu ((Tr.run_yes (hk s2 f2)).trans (Tr.opt_to hu ((Tr.run_yes (hk s3 f3)).trans (Tr.opt_to hu ((Tr.run_yes (hk s4 f4)).trans e))))))))))))))))))) ?_
              rw [hp]
              cases ha : (res4L l s1 s2 s3 s4).2.a with
              | true => exact ⟨_, (Tr.run_yes ha).trans rfl⟩
              | false =>
                cases hb : (res4L l s1 s2 s3 s4).2.b with
                | true => exact ⟨_, (Tr.run_no ha).trans ((Tr.run_yes hb).trans rfl)⟩
                | false => exact ⟨_, (Tr.run_no ha).trans ((Tr.run_no hb).trans rfl)⟩
      · rw [if_neg h6]
        exact ⟨_, Tr.opt_to hl ((Tr.run_yes h1).trans ((Tr.run_yes (by simp [h6])).trans rfl))⟩
    · exact Tr.fail_some h2
  · exact Tr.fail_some h

end Go.AI.RD

/- rollbacknetlaw03.inside, in sum. -/
namespace Go.AI.RD
open Go Go.Proofs
set_option maxRecDepth 10000
set_option linter.unusedVariables false
set_option linter.unusedSimpArgs false

/-- Does a place name cells that are not there? -/
def out1 (c sl sz : Int) : Bool := decide (sl < 0) || decide (c < IntKind.i64.wrap (sl + (if sz < 1 then 1 else sz)))
def insX (c : Int) : Nat → Xp → Bool
  | 0, _ => false
  | n + 1, e => !((decide (e.op = 2) || decide (e.op = 3)) && out1 c e.slot e.size) && (match unL unXp e.args with | some l => l.all (insX c n) | none => false)

def insideT (N : Nat) : FT
  | [.agg [.d (.int .i64 o), .d (.int .i64 v), .d (.str nm), .d (.int .i64 sl), .d (.int .i64 sz), .d (.sl 6 ar)], .d (.int .i64 c)], [] => .br (fitX N ⟨o, v, nm, sl, sz, ar⟩) (.leaf (.d (.bool (insX c N ⟨o, v, nm, sl, sz, ar⟩)), [])) .fail
  | _, _ => .fail

def L_inside_0 (N : Nat) : ST → Tr (Ex × ST)
  | ⟨[(1, .d (.int .i64 c)), (2, .box [.d (.int .i64 o), .d (.int .i64 v), .d (.str nm), .d (.int .i64 sl), .d (.int .i64 sz), .d (.sl 6 ar)]), (31, .d (.int .i64 m)), (32, .d (.int .i64 n))], []⟩ => .opt (unL unXp ar) fun l => .br (decide (m = l.length ∧ 0 ≤ n ∧ n ≤ m ∧ m ≤ 100000) && l.all (fitX N)) (.br ((l.drop n.toNat).all (insX c N)) (.leaf ((.ext 0), ⟨[], []⟩)) (.leaf (.ret, ⟨[(4, .d (.bool false))], []⟩))) .fail
  | _ => .fail

noncomputable abbrev Xin (N : Nat) : TX := ⟨Tryd.prog, tbl [(28, insideT N)], iso, gl, vw⟩

theorem xok_Xin (N : Nat) (h_inside : FnOK Tryd.prog gl 28 (insideT N)) (f : Nat) : XOK (Xin N) (ann f) gl := XOK.of base (l := [(28, insideT N)]) ⟨h_inside, trivial⟩ f

-- [1, 2, 31, 32] {0: []}

def l_inside_0 : CC := .seq (.region [
    ⟨.yes, (some 33), .binOp .lss 3 (.tmp 32) (.tmp 31) 3, false, false, []⟩] [1, 2, 31, 32, 33]) <|
  .seq (.cond (.tmp 33)
    (.skip)
    (.exit 0)) <|
  .seq (.block 1 <| .seq (.region [
    ⟨.yes, (some 34), .move (.tmp 32), false, false, []⟩,
    ⟨.yes, (some 5), .assign (.tmp 34), true, false, []⟩] [1, 2, 5, 31, 32]) <|
  .seq (.region [
    ⟨.yes, (some 35), .fieldAddr 56 (.tmp 2) 5, false, false, []⟩,
    ⟨.yes, (some 36), .load 54 (.tmp 35), false, false, [(some 6)]⟩,
    ⟨.yes, (some 37), .move (.tmp 5), true, false, []⟩,
    ⟨.yes, (some 38), .indexAddr 54 (.tmp 36) (.tmp 37), false, false, []⟩,
    ⟨.yes, (some 39), .load 56 (.tmp 38), false, false, [none, none, none, none, none, (some 6)]⟩,
    ⟨.yes, (some 40), .move (.tmp 1), false, false, []⟩,
    ⟨.yes, (some 41), .call ⟨.value (.func 28), #[(.tmp 39), (.tmp 40)], #[56, 3]⟩, false, false, []⟩,
    ⟨.yes, (some 42), .unOp .not 4 (.tmp 41), false, false, []⟩] [1, 2, 31, 32, 42]) <|
  .cond (.tmp 42)
    (.seq (.region [
      ⟨.yes, (some 4), .assign (.const (.bool false)), false, false, []⟩] [4]) <|
    .ret)
    (.skip)) <|
  .region [
    ⟨.yes, (some 43), .binOp .add 3 (.tmp 32) (.const (.int .i64 (1))) 3, false, false, []⟩,
    ⟨.yes, (some 32), .move (.tmp 43), true, false, []⟩] [1, 2, 31, 32]

def c_inside (N : Nat) : CC := .seq (.region [
    ⟨.yes, (some 2), .box 56 (.tmp 0), true, false, []⟩,
    ⟨.yes, (some 4), .assign (.const (.bool false)), false, false, []⟩] [1, 2]) <|
  .seq (.seq (.region [
    ⟨.yes, (some 6), .fieldAddr 56 (.tmp 2) 0, false, false, []⟩,
    ⟨.yes, (some 7), .load 3 (.tmp 6), false, false, []⟩,
    ⟨.yes, (some 8), .binOp .eql 3 (.tmp 7) (.const (.int .i64 (2))) 3, false, false, []⟩,
    ⟨.yes, (some 9), .move (.tmp 8), true, false, []⟩,
    ⟨(.on 9 false), (some 10), .fieldAddr 56 (.tmp 2) 0, false, false, []⟩,
    ⟨(.on 9 false), (some 11), .load 3 (.tmp 10), false, false, []⟩,
    ⟨(.on 9 false), (some 12), .binOp .eql 3 (.tmp 11) (.const (.int .i64 (3))) 3, false, false, []⟩,
    ⟨.yes, (some 13), .pick (.tmp 9) (.const (.bool true)) (.tmp 12), false, false, []⟩,
    ⟨.yes, (some 14), .move (.tmp 13), true, false, []⟩,
    ⟨(.on 14 true), (some 15), .fieldAddr 56 (.tmp 2) 3, false, false, []⟩,
    ⟨(.on 14 true), (some 16), .load 3 (.tmp 15), false, false, []⟩,
    ⟨(.on 14 true), (some 17), .binOp .lss 3 (.tmp 16) (.const (.int .i64 (0))) 3, false, false, []⟩,
    ⟨(.on 14 true), (some 18), .move (.tmp 17), true, false, []⟩,
    ⟨(.on 18 false), (some 19), .fieldAddr 56 (.tmp 2) 3, false, false, []⟩,
    ⟨(.on 18 false), (some 20), .load 3 (.tmp 19), false, false, []⟩,
    ⟨(.on 18 false), (some 21), .fieldAddr 56 (.tmp 2) 4, false, false, []⟩,
    ⟨(.on 18 false), (some 22), .load 3 (.tmp 21), false, false, []⟩,
    ⟨(.on 18 false), (some 23), .call ⟨.builtin .max, #[(.tmp 22), (.const (.int .i64 (1)))], #[3, 3]⟩, false, false, []⟩,
    ⟨(.on 18 false), (some 24), .binOp .add 3 (.tmp 20) (.tmp 23) 3, false, false, []⟩,
    ⟨(.on 18 false), (some 25), .move (.tmp 1), false, false, []⟩,
    ⟨(.on 18 false), (some 26), .binOp .gtr 3 (.tmp 24) (.tmp 25) 3, false, false, []⟩,
    ⟨(.on 14 true), (some 27), .pick (.tmp 18) (.const (.bool true)) (.tmp 26), false, false, []⟩,
    ⟨.yes, (some 28), .pick (.tmp 14) (.tmp 27) (.const (.bool false)), false, false, []⟩] [1, 2, 28]) <|
  .cond (.tmp 28)
    (.seq (.region [
      ⟨.yes, (some 4), .assign (.const (.bool false)), false, false, []⟩] [4]) <|
    .ret)
    (.skip)) <|
  .seq (.seq (.region [
    ⟨.yes, (some 29), .fieldAddr 56 (.tmp 2) 5, false, false, []⟩,
    ⟨.yes, (some 30), .load 54 (.tmp 29), false, false, [(some 6)]⟩,
    ⟨.yes, (some 31), .call ⟨.builtin .len, #[(.tmp 30)], #[54]⟩, false, false, []⟩,
    ⟨.yes, (some 32), .move (.const (.int .i64 (0))), false, false, []⟩] [1, 2, 31, 32]) <|
  .block 0 <| .keep [1, 2, 31, 32] <| .sum (L_inside_0 N) (.loop l_inside_0)) <|
  .seq (.region [
    ⟨.yes, (some 4), .assign (.const (.bool true)), false, false, []⟩] [4]) <|
  .ret

theorem c_inside_eq (N : Nat) : ∃ c, Tryd.f28.body = some c ∧ codeOK Tryd.f28.ntmps c = true ∧ comp Tryd.prog (ann 28) c = erase (c_inside N) := ⟨_, rfl, by kernel_rfl, by kernel_rfl⟩

theorem body_inside_0 (N : Nat) (ar : List DV) (nm : List UInt8) (o v sl sz c m n : Int) : bodyT (Xin N) [1, 2, 31, 32] [4] [(0, [])] l_inside_0 ⟨[(1, .d (.int .i64 c)), (2, .box [.d (.int .i64 o), .d (.int .i64 v), .d (.str nm), .d (.int .i64 sl), .d (.int .i64 sz), .d (.sl 6 ar)]), (31, .d (.int .i64 m)), (32, .d (.int .i64 n))], []⟩ = (
    .br (decide (n < m))
 (.br (decide ((0 : Int) ≤ n))
 (.opt ((ar[(Int.toNat n)]?).bind unXp) fun y1 => .br (fitX N ⟨y1.op, y1.value, y1.name, y1.slot, y1.size, y1.args⟩)
 (.br (!(insX c N ⟨y1.op, y1.value, y1.name, y1.slot, y1.size, y1.args⟩))
 (.leaf (.ret, ⟨[(4, .d (.bool false))], []⟩))
 (.leaf (.nrm, ⟨[(1, .d (.int .i64 c)), (2, .box [.d (.int .i64 o), .d (.int .i64 v), .d (.str nm), .d (.int .i64 sl), .d (.int .i64 sz), .d (.sl 6 ar)]), (31, .d (.int .i64 m)), (32, .d (.int .i64 (IntKind.i64.wrap (n + 1))))], []⟩)))
 (.fail))
 (.fail))
 (.leaf ((.ext 0), ⟨[], []⟩)) : Tr (Ex × ST)) := by kernel_rfl

theorem tree_inside (N : Nat) (ar : List DV) (nm : List UInt8) (o v sl sz c : Int) : fnT (Xin N) (c_inside N) Tryd.f28.results.toList [.agg [.d (.int .i64 o), .d (.int .i64 v), .d (.str nm), .d (.int .i64 sl), .d (.int .i64 sz), .d (.sl 6 ar)], .d (.int .i64 c)] [] = (
    .br (decide (o = 2))
 (.br (decide (sl < 0))
 (.leaf (.d (.bool false), []))
 (.br (decide (c < (IntKind.i64.wrap (sl + (if sz < 1 then 1 else sz)))))
 (.leaf (.d (.bool false), []))
 (.opt (unL unXp ar) fun l1 => .br (decide ((ar.length : Int) = l1.length ∧ 0 ≤ (0 : Int) ∧ (0 : Int) ≤ (ar.length : Int) ∧ (ar.length : Int) ≤ 100000) && l1.all (fitX N))
 (.br ((l1.drop (0 : Int).toNat).all (insX c N))
 (.leaf (.d (.bool true), []))
 (.leaf (.d (.bool false), [])))
 (.fail))))
 (.br (decide (o = 3))
 (.br (decide (sl < 0))
 (.leaf (.d (.bool false), []))
 (.br (decide (c < (IntKind.i64.wrap (sl + (if sz < 1 then 1 else sz)))))
 (.leaf (.d (.bool false), []))
 (.opt (unL unXp ar) fun l2 => .br (decide ((ar.length : Int) = l2.length ∧ 0 ≤ (0 : Int) ∧ (0 : Int) ≤ (ar.length : Int) ∧ (ar.length : Int) ≤ 100000) && l2.all (fitX N))
 (.br ((l2.drop (0 : Int).toNat).all (insX c N))
 (.leaf (.d (.bool true), []))
 (.leaf (.d (.bool false), [])))
 (.fail))))
 (.opt (unL unXp ar) fun l3 => .br (decide ((ar.length : Int) = l3.length ∧ 0 ≤ (0 : Int) ∧ (0 : Int) ≤ (ar.length : Int) ∧ (ar.length : Int) ≤ 100000) && l3.all (fitX N))
 (.br ((l3.drop (0 : Int).toNat).all (insX c N))
 (.leaf (.d (.bool true), []))
 (.leaf (.d (.bool false), [])))
 (.fail))) : Tr (AV × Hp)) := by kernel_rfl


theorem sum_inside_0 (N : Nat) (h : FnOK Tryd.prog gl 28 (insideT N)) : SumOK Tryd.prog gl (ann 28) (L_inside_0 N) (.loop l_inside_0) := by
  refine SumOK.of_inv (X := Xin N) (xok_Xin N h 28) (by simp only [Sums, l_inside_0, and_true]) (by kernel_rfl) (lv := [1, 2, 31, 32]) (rt := [4]) (xs := [(0, [])]) (by decide)
    (fun k st r => ∃ (o v sl sz c : Int) (nm : List UInt8) (l : List Xp) (n : Nat), n ≤ l.length ∧ (l.length : Int) ≤ 100000 ∧ l.all (fitX N) = true ∧
      st = ⟨[(1, .d (.int .i64 c)), (2, .box [.d (.int .i64 o), .d (.int .i64 v), .d (.str nm), .d (.int .i64 sl), .d (.int .i64 sz), .d (.sl 6 (l.map encXp))]), (31, .d (.int .i64 (l.length : Int))), (32, .d (.int .i64 (n : Int)))], []⟩ ∧
      r = (bif (l.drop n).all (insX c N) then (.ext 0, ⟨[], []⟩) else (.ret, ⟨[(4, .d (.bool false))], []⟩)) ∧ k = l.length - n) ?_ ?_
  · intro st r h
    unfold L_inside_0 at h
    split at h
    · rename_i c o v nm sl sz ar m n
      obtain ⟨l, hl, h0⟩ := Tr.opt_some h
      obtain rfl := unL_inv unXp_ok hl
      rcases Tr.br_some h0 with ⟨h1, h2⟩ | ⟨_, h2⟩
      · simp only [Bool.and_eq_true, decide_eq_true_eq] at h1
        obtain ⟨⟨rfl, h3, h4, h5⟩, h8⟩ := h1
        obtain ⟨k, rfl⟩ := Int.eq_ofNat_of_zero_le h3
        refine ⟨_, o, v, sl, sz, c, nm, l, k, by omega, h5, h8, rfl, ?_, rfl⟩
        simp only [Int.toNat_natCast] at h2
        rcases Tr.br_some h2 with ⟨hs, h9⟩ | ⟨hs, h9⟩ <;> rw [hs] <;> exact (Tr.leaf_some h9).symm
      · exact Tr.fail_some h2
    · exact Tr.fail_some h
  · rintro k st r ⟨o, v, sl, sz, c, nm, l, n, h1, h2, h3, rfl, rfl, rfl⟩
    rw [body_inside_0]
    cases hb : l[n]? with
    | none =>
      have hl : l.length ≤ n := by simpa using hb
      have he : l.drop n = [] := List.drop_eq_nil_of_le hl
      refine ⟨.ext 0, _, Tr.dec_no (by omega) rfl, .inl ⟨by simp, by rw [he]; rfl⟩⟩
    | some w =>
      have hl := (List.getElem?_eq_some_iff.1 hb).1
      have hfit : fitX N w = true := (List.all_eq_true.1 h3) w (List.mem_of_getElem? hb)
      have hdr : l.drop n = w :: l.drop (n + 1) := by
        rw [List.drop_eq_getElem_cons hl]; congr 1; exact (List.getElem?_eq_some_iff.1 hb).2
      have hw : IntKind.i64.wrap ((n : Int) + 1) = ((n + 1 : Nat) : Int) := by rw [wrap_in] <;> omega
      have hat : ((l.map encXp)[(Int.toNat (n : Int))]?).bind unXp = some w := by simp [hb, unXp_enc]
      cases hg : insX c N w with
      | false =>
        refine ⟨.ret, _, Tr.dec_yes (by omega) (Tr.dec_yes (by omega) (Tr.opt_to hat ((Tr.run_yes hfit).trans ((Tr.run_yes (by show (!insX c N w) = true; rw [hg]; rfl)).trans rfl)))), .inl ⟨by simp, ?_⟩⟩
        rw [hdr, List.all_cons, hg]; rfl
      | true =>
        refine ⟨.nrm, ⟨[(1, .d (.int .i64 c)), (2, .box [.d (.int .i64 o), .d (.int .i64 v), .d (.str nm), .d (.int .i64 sl), .d (.int .i64 sz), .d (.sl 6 (l.map encXp))]), (31, .d (.int .i64 (l.length : Int))), (32, .d (.int .i64 ((n + 1 : Nat) : Int)))], []⟩,
          Tr.dec_yes (by omega) (Tr.dec_yes (by omega) (Tr.opt_to hat ((Tr.run_yes hfit).trans ((Tr.run_no (by show (!insX c N w) = false; rw [hg]; rfl)).trans ?_)))),
          .inr ⟨rfl, _, ?_, o, v, sl, sz, c, nm, l, n + 1, by omega, h2, h3, rfl, ?_, rfl⟩⟩
        · rw [hw]; rfl
        · omega
        · rw [hdr, List.all_cons, hg, Bool.true_and]

theorem ok_inside : ∀ N : Nat, FnOK Tryd.prog gl 28 (insideT N)
  | 0 => by
    refine ⟨⟨_, Tryd.func28, rfl⟩, fun ar H v H' h => ?_⟩
    unfold insideT at h
    split at h
    · exact Tr.fail_some h
    · exact Tr.fail_some h
  | N + 1 => by
    have ih := ok_inside N
    refine fn_of (X := Xin N) (xok_Xin N ih 28) Tryd.func28 (c_inside_eq N) (by kernel_rfl) (by simp only [Sums, c_inside, and_true, true_and]; exact sum_inside_0 N ih) ?_
    intro ar H r h
    unfold insideT at h
    split at h
    · rename_i o v nm sl sz ar c
      rw [tree_inside]
      rcases Tr.br_some h with ⟨h1, h2⟩ | ⟨_, h2⟩
      · obtain rfl := Tr.leaf_some h2
        unfold fitX at h1
        split at h1
        · rename_i l hl
          simp only [Bool.and_eq_true, decide_eq_true_eq] at h1
          obtain ⟨⟨h3, h4⟩, h5⟩ := h1
          have hl' : unL unXp ar = some l := hl
          have hlen : ar.length = l.length := by rw [unL_inv unXp_ok hl', List.length_map]
          have hgd : insX c (N + 1) ⟨o, v, nm, sl, sz, ar⟩ = (!((decide (o = 2) || decide (o = 3)) && out1 c sl sz) && l.all (insX c N)) := by simp only [insX, hl']
          rw [hgd]
          unfold out1
          have hq : (decide ((ar.length : Int) = l.length ∧ 0 ≤ (0 : Int) ∧ (0 : Int) ≤ (ar.length : Int) ∧ (ar.length : Int) ≤ 100000) && l.all (fitX N)) = true := by
            rw [h5, Bool.and_true]; exact decide_eq_true ⟨by omega, by omega, by omega, by omega⟩
          have hd : l.drop (0 : Int).toNat = l := List.drop_zero
          simp only [Tr.run_br, Tr.run_opt_, Tr.run_leaf, hl', hq, hd]
          generalize IntKind.i64.wrap (sl + (if sz < 1 then 1 else sz)) = q
          generalize l.all (insX c N) = b1
          by_cases a1 : o = 2
          · by_cases a2 : sl < 0
            · simp [a1, a2]
            · by_cases a3 : c < q <;> cases b1 <;> simp [a1, a2, a3]
          · by_cases a4 : o = 3
            · by_cases a2 : sl < 0
              · simp [a4, a2]
              · by_cases a3 : c < q <;> cases b1 <;> simp [a4, a2, a3]
            · cases b1 <;> simp [a1, a4]
        · simp at h1
      · exact Tr.fail_some h2
    · exact Tr.fail_some h
end Go.AI.RD

/- rollbacknetlaw03.within, in sum. -/
namespace Go.AI.RD
open Go Go.Proofs
set_option maxRecDepth 10000
set_option linter.unusedVariables false
set_option linter.unusedSimpArgs false

theorem ok_inside9 : FnOK Tryd.prog gl 28 (insideT 9) := ok_inside 9

def headW (c : Int) (s : St) : Bool := !((decide (s.kind = 1) || decide (s.kind = 2)) && out1 c s.slot s.size)
def wthL (c : Int) : Nat → List DV → Bool
  | 0, _ => false
  | n + 1, ss => match unL unSt ss with
    | some l => l.all fun s => headW c s && (insX c 9 s.place && (insX c 9 s.value && (wthL c n s.body && wthL c n s.els)))
    | none => false
def wth1 (c : Int) (n : Nat) (s : St) : Bool := headW c s && (insX c 9 s.place && (insX c 9 s.value && (wthL c n s.body && wthL c n s.els)))

def withinT (N : Nat) : FT
  | [.d (.sl 18 ss), .d (.int .i64 c)], [] => .br (fitS N ss) (.leaf (.d (.bool (wthL c N ss)), [])) .fail
  | _, _ => .fail

def L_within_0 (N : Nat) : ST → Tr (Ex × ST)
  | ⟨[(0, .d (.sl 18 ss)), (1, .d (.int .i64 c)), (8, .d (.int .i64 m)), (9, .d (.int .i64 n))], []⟩ => .opt (unL unSt ss) fun l => .br (decide (m = l.length ∧ 0 ≤ n ∧ n ≤ m ∧ m ≤ 100000) && l.all (fit1 N)) (.br ((l.drop n.toNat).all (wth1 c N)) (.leaf ((.ext 0), ⟨[], []⟩)) (.leaf (.ret, ⟨[(4, .d (.bool false))], []⟩))) .fail
  | _ => .fail

noncomputable abbrev Xwi (N : Nat) : TX := ⟨Tryd.prog, tbl [(28, (insideT 9)), (14, withinT N)], iso, gl, vw⟩

theorem xok_Xwi (N : Nat) (h_within : FnOK Tryd.prog gl 14 (withinT N)) (f : Nat) : XOK (Xwi N) (ann f) gl := XOK.of base (l := [(28, (insideT 9)), (14, withinT N)]) ⟨ok_inside9, h_within, trivial⟩ f

-- [0, 1, 8, 9] {0: []}

def l_within_0 : CC := .seq (.region [
    ⟨.yes, (some 10), .binOp .lss 3 (.tmp 9) (.tmp 8) 3, false, false, []⟩] [0, 1, 8, 9, 10]) <|
  .seq (.cond (.tmp 10)
    (.skip)
    (.exit 0)) <|
  .seq (.block 1 <| .seq (.region [
    ⟨.yes, (some 11), .move (.tmp 9), false, false, []⟩,
    ⟨.yes, (some 5), .assign (.tmp 11), true, false, []⟩] [0, 1, 5, 8, 9]) <|
  .seq (.region [
    ⟨.yes, (some 12), .move (.tmp 0), false, false, [(some 18)]⟩,
    ⟨.yes, (some 13), .move (.tmp 5), true, false, []⟩,
    ⟨.yes, (some 14), .indexAddr 27 (.tmp 12) (.tmp 13), false, false, []⟩,
    ⟨.yes, (some 15), .load 59 (.tmp 14), false, false, [none, none, none, none, none, none, none, none, none, (some 6), none, none, none, none, none, (some 6), (some 18), (some 18)]⟩,
    ⟨.yes, (some 6), .alloc 59, false, false, []⟩,
    ⟨.yes, none, .store 59 (.tmp 6) (.tmp 15), true, false, []⟩] [0, 1, 6, 8, 9]) <|
  .seq (.seq (.region [
    ⟨.yes, (some 16), .fieldAddr 59 (.tmp 6) 0, false, false, []⟩,
    ⟨.yes, (some 17), .load 3 (.tmp 16), false, false, []⟩,
    ⟨.yes, (some 18), .binOp .eql 3 (.tmp 17) (.const (.int .i64 (1))) 3, false, false, []⟩,
    ⟨.yes, (some 19), .move (.tmp 18), true, false, []⟩,
    ⟨(.on 19 false), (some 20), .fieldAddr 59 (.tmp 6) 0, false, false, []⟩,
    ⟨(.on 19 false), (some 21), .load 3 (.tmp 20), false, false, []⟩,
    ⟨(.on 19 false), (some 22), .binOp .eql 3 (.tmp 21) (.const (.int .i64 (2))) 3, false, false, []⟩,
    ⟨.yes, (some 23), .pick (.tmp 19) (.const (.bool true)) (.tmp 22), false, false, []⟩,
    ⟨.yes, (some 24), .move (.tmp 23), true, false, []⟩,
    ⟨(.on 24 true), (some 25), .fieldAddr 59 (.tmp 6) 2, false, false, []⟩,
    ⟨(.on 24 true), (some 26), .load 3 (.tmp 25), false, false, []⟩,
    ⟨(.on 24 true), (some 27), .binOp .lss 3 (.tmp 26) (.const (.int .i64 (0))) 3, false, false, []⟩,
    ⟨(.on 24 true), (some 28), .move (.tmp 27), true, false, []⟩,
    ⟨(.on 28 false), (some 29), .fieldAddr 59 (.tmp 6) 2, false, false, []⟩,
    ⟨(.on 28 false), (some 30), .load 3 (.tmp 29), false, false, []⟩,
    ⟨(.on 28 false), (some 31), .fieldAddr 59 (.tmp 6) 3, false, false, []⟩,
    ⟨(.on 28 false), (some 32), .load 3 (.tmp 31), false, false, []⟩,
    ⟨(.on 28 false), (some 33), .call ⟨.builtin .max, #[(.tmp 32), (.const (.int .i64 (1)))], #[3, 3]⟩, false, false, []⟩,
    ⟨(.on 28 false), (some 34), .binOp .add 3 (.tmp 30) (.tmp 33) 3, false, false, []⟩,
    ⟨(.on 28 false), (some 35), .move (.tmp 1), false, false, []⟩,
    ⟨(.on 28 false), (some 36), .binOp .gtr 3 (.tmp 34) (.tmp 35) 3, false, false, []⟩,
    ⟨(.on 24 true), (some 37), .pick (.tmp 28) (.const (.bool true)) (.tmp 36), false, false, []⟩,
    ⟨.yes, (some 38), .pick (.tmp 24) (.tmp 37) (.const (.bool false)), false, false, []⟩] [0, 1, 6, 8, 9, 38]) <|
  .cond (.tmp 38)
    (.seq (.region [
      ⟨.yes, (some 4), .assign (.const (.bool false)), false, false, []⟩] [4]) <|
    .ret)
    (.skip)) <|
  .seq (.region [
    ⟨.yes, (some 39), .fieldAddr 59 (.tmp 6) 4, false, false, []⟩,
    ⟨.yes, (some 40), .load 56 (.tmp 39), false, false, [none, none, none, none, none, (some 6)]⟩,
    ⟨.yes, (some 41), .move (.tmp 1), false, false, []⟩,
    ⟨.yes, (some 42), .call ⟨.value (.func 28), #[(.tmp 40), (.tmp 41)], #[56, 3]⟩, false, false, []⟩,
    ⟨.yes, (some 43), .unOp .not 4 (.tmp 42), false, false, []⟩,
    ⟨.yes, (some 44), .move (.tmp 43), true, false, []⟩,
    ⟨(.on 44 false), (some 45), .fieldAddr 59 (.tmp 6) 5, false, false, []⟩,
    ⟨(.on 44 false), (some 46), .load 56 (.tmp 45), false, false, [none, none, none, none, none, (some 6)]⟩,
    ⟨(.on 44 false), (some 47), .move (.tmp 1), false, false, []⟩,
    ⟨(.on 44 false), (some 48), .call ⟨.value (.func 28), #[(.tmp 46), (.tmp 47)], #[56, 3]⟩, false, false, []⟩,
    ⟨(.on 44 false), (some 49), .unOp .not 4 (.tmp 48), false, false, []⟩,
    ⟨.yes, (some 50), .pick (.tmp 44) (.const (.bool true)) (.tmp 49), false, false, []⟩,
    ⟨.yes, (some 51), .move (.tmp 50), true, false, []⟩,
    ⟨(.on 51 false), (some 52), .fieldAddr 59 (.tmp 6) 6, false, false, []⟩,
    ⟨(.on 51 false), (some 53), .load 27 (.tmp 52), false, false, [(some 18)]⟩,
    ⟨(.on 51 false), (some 54), .move (.tmp 1), false, false, []⟩,
    ⟨(.on 51 false), (some 55), .call ⟨.value (.func 14), #[(.tmp 53), (.tmp 54)], #[27, 3]⟩, false, false, []⟩,
    ⟨(.on 51 false), (some 56), .unOp .not 4 (.tmp 55), false, false, []⟩,
    ⟨.yes, (some 57), .pick (.tmp 51) (.const (.bool true)) (.tmp 56), false, false, []⟩,
    ⟨.yes, (some 58), .move (.tmp 57), true, false, []⟩,
    ⟨(.on 58 false), (some 59), .fieldAddr 59 (.tmp 6) 7, false, false, []⟩,
    ⟨(.on 58 false), (some 60), .load 27 (.tmp 59), false, false, [(some 18)]⟩,
    ⟨(.on 58 false), (some 61), .move (.tmp 1), false, false, []⟩,
    ⟨(.on 58 false), (some 62), .call ⟨.value (.func 14), #[(.tmp 60), (.tmp 61)], #[27, 3]⟩, false, false, []⟩,
    ⟨(.on 58 false), (some 63), .unOp .not 4 (.tmp 62), false, false, []⟩,
    ⟨.yes, (some 64), .pick (.tmp 58) (.const (.bool true)) (.tmp 63), false, false, []⟩] [0, 1, 8, 9, 64]) <|
  .cond (.tmp 64)
    (.seq (.region [
      ⟨.yes, (some 4), .assign (.const (.bool false)), false, false, []⟩] [4]) <|
    .ret)
    (.skip)) <|
  .region [
    ⟨.yes, (some 65), .binOp .add 3 (.tmp 9) (.const (.int .i64 (1))) 3, false, false, []⟩,
    ⟨.yes, (some 9), .move (.tmp 65), true, false, []⟩] [0, 1, 8, 9]

def c_within (N : Nat) : CC := .seq (.region [
    ⟨.yes, (some 4), .assign (.const (.bool false)), false, false, []⟩] [0, 1]) <|
  .seq (.seq (.region [
    ⟨.yes, (some 7), .move (.tmp 0), false, false, [(some 18)]⟩,
    ⟨.yes, (some 8), .call ⟨.builtin .len, #[(.tmp 7)], #[27]⟩, false, false, []⟩,
    ⟨.yes, (some 9), .move (.const (.int .i64 (0))), false, false, []⟩] [0, 1, 8, 9]) <|
  .block 0 <| .keep [0, 1, 8, 9] <| .sum (L_within_0 N) (.loop l_within_0)) <|
  .seq (.region [
    ⟨.yes, (some 4), .assign (.const (.bool true)), false, false, []⟩] [4]) <|
  .ret

theorem c_within_eq (N : Nat) : ∃ c, Tryd.f14.body = some c ∧ codeOK Tryd.f14.ntmps c = true ∧ comp Tryd.prog (ann 14) c = erase (c_within N) := ⟨_, rfl, by kernel_rfl, by kernel_rfl⟩

theorem body_within_0 (N : Nat) (ss : List DV) (c m n : Int) : bodyT (Xwi N) [0, 1, 8, 9] [4] [(0, [])] l_within_0 ⟨[(0, .d (.sl 18 ss)), (1, .d (.int .i64 c)), (8, .d (.int .i64 m)), (9, .d (.int .i64 n))], []⟩ = (
    .br (decide (n < m))
 (.br (decide ((0 : Int) ≤ n))
 (.opt ((ss[(Int.toNat n)]?).bind unSt) fun y1 => .br (decide (y1.kind = 1))
 (.br (decide (y1.slot < 0))
 (.leaf (.ret, ⟨[(4, .d (.bool false))], []⟩))
 (.br (decide (c < (IntKind.i64.wrap (y1.slot + (if y1.size < 1 then 1 else y1.size)))))
 (.leaf (.ret, ⟨[(4, .d (.bool false))], []⟩))
 (.br (fitX 9 ⟨y1.place.op, y1.place.value, y1.place.name, y1.place.slot, y1.place.size, y1.place.args⟩)
 (.br (!(insX c 9 ⟨y1.place.op, y1.place.value, y1.place.name, y1.place.slot, y1.place.size, y1.place.args⟩))
 (.leaf (.ret, ⟨[(4, .d (.bool false))], []⟩))
 (.br (fitX 9 ⟨y1.value.op, y1.value.value, y1.value.name, y1.value.slot, y1.value.size, y1.value.args⟩)
 (.br (!(insX c 9 ⟨y1.value.op, y1.value.value, y1.value.name, y1.value.slot, y1.value.size, y1.value.args⟩))
 (.leaf (.ret, ⟨[(4, .d (.bool false))], []⟩))
 (.br (fitS N y1.body)
 (.br (!(wthL c N y1.body))
 (.leaf (.ret, ⟨[(4, .d (.bool false))], []⟩))
 (.br (fitS N y1.els)
 (.br (!(wthL c N y1.els))
 (.leaf (.ret, ⟨[(4, .d (.bool false))], []⟩))
 (.leaf (.nrm, ⟨[(0, .d (.sl 18 ss)), (1, .d (.int .i64 c)), (8, .d (.int .i64 m)), (9, .d (.int .i64 (IntKind.i64.wrap (n + 1))))], []⟩)))
 (.fail)))
 (.fail)))
 (.fail)))
 (.fail))))
 (.br (decide (y1.kind = 2))
 (.br (decide (y1.slot < 0))
 (.leaf (.ret, ⟨[(4, .d (.bool false))], []⟩))
 (.br (decide (c < (IntKind.i64.wrap (y1.slot + (if y1.size < 1 then 1 else y1.size)))))
 (.leaf (.ret, ⟨[(4, .d (.bool false))], []⟩))
 (.br (fitX 9 ⟨y1.place.op, y1.place.value, y1.place.name, y1.place.slot, y1.place.size, y1.place.args⟩)
 (.br (!(insX c 9 ⟨y1.place.op, y1.place.value, y1.place.name, y1.place.slot, y1.place.size, y1.place.args⟩))
 (.leaf (.ret, ⟨[(4, .d (.bool false))], []⟩))
 (.br (fitX 9 ⟨y1.value.op, y1.value.value, y1.value.name, y1.value.slot, y1.value.size, y1.value.args⟩)
 (.br (!(insX c 9 ⟨y1.value.op, y1.value.value, y1.value.name, y1.value.slot, y1.value.size, y1.value.args⟩))
 (.leaf (.ret, ⟨[(4, .d (.bool false))], []⟩))
 (.br (fitS N y1.body)
 (.br (!(wthL c N y1.body))
 (.leaf (.ret, ⟨[(4, .d (.bool false))], []⟩))
 (.br (fitS N y1.els)
 (.br (!(wthL c N y1.els))
 (.leaf (.ret, ⟨[(4, .d (.bool false))], []⟩))
 (.leaf (.nrm, ⟨[(0, .d (.sl 18 ss)), (1, .d (.int .i64 c)), (8, .d (.int .i64 m)), (9, .d (.int .i64 (IntKind.i64.wrap (n + 1))))], []⟩)))
 (.fail)))
 (.fail)))
 (.fail)))
 (.fail))))
 (.br (fitX 9 ⟨y1.place.op, y1.place.value, y1.place.name, y1.place.slot, y1.place.size, y1.place.args⟩)
 (.br (!(insX c 9 ⟨y1.place.op, y1.place.value, y1.place.name, y1.place.slot, y1.place.size, y1.place.args⟩))
 (.leaf (.ret, ⟨[(4, .d (.bool false))], []⟩))
 (.br (fitX 9 ⟨y1.value.op, y1.value.value, y1.value.name, y1.value.slot, y1.value.size, y1.value.args⟩)
 (.br (!(insX c 9 ⟨y1.value.op, y1.value.value, y1.value.name, y1.value.slot, y1.value.size, y1.value.args⟩))
 (.leaf (.ret, ⟨[(4, .d (.bool false))], []⟩))
 (.br (fitS N y1.body)
 (.br (!(wthL c N y1.body))
 (.leaf (.ret, ⟨[(4, .d (.bool false))], []⟩))
 (.br (fitS N y1.els)
 (.br (!(wthL c N y1.els))
 (.leaf (.ret, ⟨[(4, .d (.bool false))], []⟩))
 (.leaf (.nrm, ⟨[(0, .d (.sl 18 ss)), (1, .d (.int .i64 c)), (8, .d (.int .i64 m)), (9, .d (.int .i64 (IntKind.i64.wrap (n + 1))))], []⟩)))
 (.fail)))
 (.fail)))
 (.fail)))
 (.fail))))
 (.fail))
 (.leaf ((.ext 0), ⟨[], []⟩)) : Tr (Ex × ST)) := by kernel_rfl

theorem tree_within (N : Nat) (ss : List DV) (c : Int) : fnT (Xwi N) (c_within N) Tryd.f14.results.toList [.d (.sl 18 ss), .d (.int .i64 c)] [] = (
    .opt (unL unSt ss) fun l1 => .br (decide ((ss.length : Int) = l1.length ∧ 0 ≤ (0 : Int) ∧ (0 : Int) ≤ (ss.length : Int) ∧ (ss.length : Int) ≤ 100000) && l1.all (fit1 N))
 (.br ((l1.drop (0 : Int).toNat).all (wth1 c N))
 (.leaf (.d (.bool true), []))
 (.leaf (.d (.bool false), [])))
 (.fail) : Tr (AV × Hp)) := by kernel_rfl


theorem sum_within_0 (N : Nat) (h : FnOK Tryd.prog gl 14 (withinT N)) : SumOK Tryd.prog gl (ann 14) (L_within_0 N) (.loop l_within_0) := by
  refine SumOK.of_inv (X := Xwi N) (xok_Xwi N h 14) (by simp only [Sums, l_within_0, and_true]) (by kernel_rfl) (lv := [0, 1, 8, 9]) (rt := [4]) (xs := [(0, [])]) (by decide)
    (fun k st r => ∃ (c : Int) (l : List St) (n : Nat), n ≤ l.length ∧ (l.length : Int) ≤ 100000 ∧ l.all (fit1 N) = true ∧
      st = ⟨[(0, .d (.sl 18 (l.map encSt))), (1, .d (.int .i64 c)), (8, .d (.int .i64 (l.length : Int))), (9, .d (.int .i64 (n : Int)))], []⟩ ∧
      r = (bif (l.drop n).all (wth1 c N) then (.ext 0, ⟨[], []⟩) else (.ret, ⟨[(4, .d (.bool false))], []⟩)) ∧ k = l.length - n) ?_ ?_
  · intro st r h
    unfold L_within_0 at h
    split at h
    · rename_i ss c m n
      obtain ⟨l, hl, h0⟩ := Tr.opt_some h
      obtain rfl := unL_inv unSt_ok hl
      rcases Tr.br_some h0 with ⟨h1, h2⟩ | ⟨_, h2⟩
      · simp only [Bool.and_eq_true, decide_eq_true_eq] at h1
        obtain ⟨⟨rfl, h3, h4, h5⟩, h8⟩ := h1
        obtain ⟨k, rfl⟩ := Int.eq_ofNat_of_zero_le h3
        refine ⟨_, c, l, k, by omega, h5, h8, rfl, ?_, rfl⟩
        simp only [Int.toNat_natCast] at h2
        rcases Tr.br_some h2 with ⟨hs, h9⟩ | ⟨hs, h9⟩ <;> rw [hs] <;> exact (Tr.leaf_some h9).symm
      · exact Tr.fail_some h2
    · exact Tr.fail_some h
  · rintro k st r ⟨c, l, n, h1, h2, h3, rfl, rfl, rfl⟩
    rw [body_within_0]
    cases hb : l[n]? with
    | none =>
      have hl : l.length ≤ n := by simpa using hb
      have he : l.drop n = [] := List.drop_eq_nil_of_le hl
      refine ⟨.ext 0, _, Tr.dec_no (by omega) rfl, .inl ⟨by simp, by rw [he]; rfl⟩⟩
    | some w =>
      have hl := (List.getElem?_eq_some_iff.1 hb).1
      have hfit : fit1 N w = true := (List.all_eq_true.1 h3) w (List.mem_of_getElem? hb)
      have hdr : l.drop n = w :: l.drop (n + 1) := by
        rw [List.drop_eq_getElem_cons hl]; congr 1; exact (List.getElem?_eq_some_iff.1 hb).2
      have hw : IntKind.i64.wrap ((n : Int) + 1) = ((n + 1 : Nat) : Int) := by rw [wrap_in] <;> omega
      have hat : ((l.map encSt)[(Int.toNat (n : Int))]?).bind unSt = some w := by simp [hb, unSt_enc]
      obtain ⟨k, nm, sl, sz, ⟨po, pv, pn, ps, pz, pa⟩, ⟨vo, vv, vn, vs, vz, va⟩, bd, es⟩ := w
      simp only [fit1, Bool.and_eq_true, decide_eq_true_eq] at hfit
      obtain ⟨f1, f2, f3, f4, f5⟩ := hfit
      cases hg : wth1 c N ⟨k, nm, sl, sz, ⟨po, pv, pn, ps, pz, pa⟩, ⟨vo, vv, vn, vs, vz, va⟩, bd, es⟩ with
      | false =>
        refine ⟨.ret, ⟨[(4, .d (.bool false))], []⟩, Tr.dec_yes (by omega) (Tr.dec_yes (by omega) (Tr.opt_to hat ?_)), .inl ⟨by simp, ?_⟩⟩
        · dsimp only
          simp only [Tr.run_br, Tr.run_leaf, f1, f2, f3, f4]
          unfold wth1 headW out1 at hg
          dsimp only at hg
          revert hg
          generalize IntKind.i64.wrap (sl + (if sz < 1 then 1 else sz)) = q
          generalize insX c 9 ⟨po, pv, pn, ps, pz, pa⟩ = b1
          generalize insX c 9 ⟨vo, vv, vn, vs, vz, va⟩ = b2
          generalize wthL c N bd = b3
          generalize wthL c N es = b4
          intro hg
          by_cases a1 : k = 1
          · by_cases a2 : sl < 0
            · simp [a1, a2] at hg ⊢
            · by_cases a3 : c < q <;> cases b1 <;> cases b2 <;> cases b3 <;> cases b4 <;> simp [a1, a2, a3] at hg ⊢
          · by_cases a4 : k = 2
            · by_cases a2 : sl < 0
              · simp [a4, a2] at hg ⊢
              · by_cases a3 : c < q <;> cases b1 <;> cases b2 <;> cases b3 <;> cases b4 <;> simp [a4, a2, a3] at hg ⊢
            · cases b1 <;> cases b2 <;> cases b3 <;> cases b4 <;> simp [a1, a4] at hg ⊢
        · rw [hdr, List.all_cons, hg]; rfl
      | true =>
        refine ⟨.nrm, ⟨[(0, .d (.sl 18 (l.map encSt))), (1, .d (.int .i64 c)), (8, .d (.int .i64 (l.length : Int))), (9, .d (.int .i64 ((n + 1 : Nat) : Int)))], []⟩,
          Tr.dec_yes (by omega) (Tr.dec_yes (by omega) (Tr.opt_to hat ?_)),
          .inr ⟨rfl, _, ?_, c, l, n + 1, by omega, h2, h3, rfl, ?_, rfl⟩⟩
        · rw [← hw]
          dsimp only
          simp only [Tr.run_br, Tr.run_leaf, f1, f2, f3, f4]
          unfold wth1 headW out1 at hg
          dsimp only at hg
          revert hg
          generalize IntKind.i64.wrap (sl + (if sz < 1 then 1 else sz)) = q
          generalize insX c 9 ⟨po, pv, pn, ps, pz, pa⟩ = b1
          generalize insX c 9 ⟨vo, vv, vn, vs, vz, va⟩ = b2
          generalize wthL c N bd = b3
          generalize wthL c N es = b4
          intro hg
          by_cases a1 : k = 1
          · by_cases a2 : sl < 0
            · simp [a1, a2] at hg ⊢
            · by_cases a3 : c < q <;> cases b1 <;> cases b2 <;> cases b3 <;> cases b4 <;> simp [a1, a2, a3] at hg ⊢
          · by_cases a4 : k = 2
            · by_cases a2 : sl < 0
              · simp [a4, a2] at hg ⊢
              · by_cases a3 : c < q <;> cases b1 <;> cases b2 <;> cases b3 <;> cases b4 <;> simp [a4, a2, a3] at hg ⊢
            · cases b1 <;> cases b2 <;> cases b3 <;> cases b4 <;> simp [a1, a4] at hg ⊢
        · omega
        · rw [hdr, List.all_cons, hg, Bool.true_and]

theorem ok_within : ∀ N : Nat, FnOK Tryd.prog gl 14 (withinT N)
  | 0 => by
    refine ⟨⟨_, Tryd.func14, rfl⟩, fun ar H v H' h => ?_⟩
    unfold withinT at h
    split at h
    · exact Tr.fail_some h
    · exact Tr.fail_some h
  | N + 1 => by
    have ih := ok_within N
    refine fn_of (X := Xwi N) (xok_Xwi N ih 14) Tryd.func14 (c_within_eq N) (by kernel_rfl) (by simp only [Sums, c_within, and_true, true_and]; exact sum_within_0 N ih) ?_
    intro ar H o h
    unfold withinT at h
    split at h
    · rename_i ss c
      rw [tree_within]
      rcases Tr.br_some h with ⟨h1, h2⟩ | ⟨_, h2⟩
      · obtain rfl := Tr.leaf_some h2
        unfold fitS at h1
        split at h1
        · rename_i l hl
          simp only [Bool.and_eq_true, decide_eq_true_eq] at h1
          obtain ⟨h3, h4⟩ := h1
          have h5 : l.all (fit1 N) = true := h4
          have hlen : ss.length = l.length := by rw [unL_inv unSt_ok hl, List.length_map]
          refine Tr.opt_to hl ?_
          have hd : wthL c (N + 1) ss = l.all (wth1 c N) := by simp only [wthL, hl]; rfl
          rw [hd]
          refine (Tr.run_yes ?_).trans ?_
          · rw [h5, Bool.and_true]
            exact decide_eq_true ⟨by omega, by omega, by omega, by omega⟩
          · rw [show l.drop (0 : Int).toNat = l from List.drop_zero]
            cases l.all (wth1 c N) <;> rfl
        · simp at h1
      · exact Tr.fail_some h2
    · exact Tr.fail_some h
end Go.AI.RD
