/- syntax.depth, in sum: the pattern of a recursion over data (N: how deep). -/
import Derived.Test.YtolbinhdmenekaaDoorDrE
namespace Go.AI.RD
open Go Go.Proofs
set_option maxRecDepth 10000
set_option linter.unusedVariables false
set_option linter.unusedSimpArgs false

/-- Is an expression less than so deep, and are all its parts expressions? -/
def fitX : Nat → Xp → Bool
  | 0, _ => false
  | n + 1, e => match unL unXp e.args with
    | some l => decide ((l.length : Int) ≤ 100000 ∧ (e.name.length : Int) ≤ 100000) && l.all (fitX n)
    | none => false

def depthX : Nat → Xp → Int
  | 0, _ => 0
  | n + 1, e => match unL unXp e.args with
    | some l => l.foldl (fun d x => max d (depthX n x)) 0 + 1
    | none => 0

theorem fold_max {f : Xp → Int} {b : Int} (hf : ∀ x, 0 ≤ f x ∧ f x ≤ b) : ∀ (l : List Xp) (d : Int), 0 ≤ d → d ≤ b → 0 ≤ l.foldl (fun d x => max d (f x)) d ∧ l.foldl (fun d x => max d (f x)) d ≤ b
  | [], d, h0, h1 => ⟨h0, h1⟩
  | x :: l, d, h0, h1 => by
    have := hf x
    exact fold_max hf l (max d (f x)) (by omega) (by omega)

theorem depthX_in : ∀ (n : Nat) (e : Xp), 0 ≤ depthX n e ∧ depthX n e ≤ n
  | 0, e => ⟨by simp [depthX], by simp [depthX]⟩
  | n + 1, e => by
    unfold depthX
    split
    · rename_i l _
      have := fold_max (depthX_in n) l 0 (by omega) (by omega)
      omega
    · omega

/-- The greatest depth of a list's, and d. -/
def maxX (N : Nat) (l : List Xp) (d : Int) : Int := l.foldl (fun d x => max d (depthX N x)) d

theorem unXp_enc (t : Xp) : unXp (encXp t) = some t := rfl

def depthT (N : Nat) : FT
  | [.agg [.d (.int .i64 o), .d (.int .i64 v), .d (.str nm), .d (.int .i64 sl), .d (.int .i64 sz), .d (.sl 6 ar)]], [] => .br (fitX N ⟨o, v, nm, sl, sz, ar⟩) (.leaf (.d (.int .i64 (depthX N ⟨o, v, nm, sl, sz, ar⟩)), [])) .fail
  | _, _ => .fail

def L_depth_0 (N : Nat) : ST → Tr (Ex × ST)
  | ⟨[(3, .d (.int .i64 d)), (7, .d (.sl 6 ar)), (8, .d (.int .i64 m)), (9, .d (.int .i64 n))], []⟩ => .opt (unL unXp ar) fun l => .br (decide (m = l.length ∧ 0 ≤ n ∧ n ≤ m ∧ m ≤ 100000 ∧ 0 ≤ d ∧ d ≤ N) && l.all (fitX N)) (.leaf ((.ext 0), ⟨[(3, .d (.int .i64 (maxX N (l.drop n.toNat) d)))], []⟩)) .fail
  | _ => .fail

noncomputable abbrev Xd (N : Nat) : TX := ⟨Tryd.prog, tbl [(54, depthT N)], iso, gl, vw⟩

theorem xok_Xd (N : Nat) (h_depth : FnOK Tryd.prog gl 54 (depthT N)) (f : Nat) : XOK (Xd N) (ann f) gl := XOK.of base (l := [(54, depthT N)]) ⟨h_depth, trivial⟩ f

def l_depth_0 : CC := .seq (.region [
    ⟨.yes, (some 10), .binOp .lss 3 (.tmp 9) (.tmp 8) 3, false, false, []⟩] [3, 7, 8, 9, 10]) <|
  .seq (.cond (.tmp 10)
    (.skip)
    (.exit 0)) <|
  .seq (.block 1 <| .seq (.region [
    ⟨.yes, (some 11), .indexAddr 54 (.tmp 7) (.tmp 9), false, false, []⟩,
    ⟨.yes, (some 12), .load 56 (.tmp 11), false, false, [none, none, none, none, none, (some 6)]⟩,
    ⟨.yes, (some 5), .alloc 56, false, false, []⟩,
    ⟨.yes, none, .store 56 (.tmp 5) (.tmp 12), true, false, []⟩] [3, 5, 7, 8, 9]) <|
  .region [
    ⟨.yes, (some 13), .move (.tmp 3), true, false, []⟩,
    ⟨.yes, (some 14), .load 56 (.tmp 5), false, false, [none, none, none, none, none, (some 6)]⟩,
    ⟨.yes, (some 15), .call ⟨.value (.func 54), #[(.tmp 14)], #[56]⟩, false, false, []⟩,
    ⟨.yes, (some 16), .call ⟨.builtin .max, #[(.tmp 13), (.tmp 15)], #[3, 3]⟩, false, false, []⟩,
    ⟨.yes, (some 3), .assign (.tmp 16), true, false, []⟩] [3, 7, 8, 9]) <|
  .region [
    ⟨.yes, (some 17), .binOp .add 3 (.tmp 9) (.const (.int .i64 (1))) 3, false, false, []⟩,
    ⟨.yes, (some 9), .move (.tmp 17), true, false, []⟩] [3, 7, 8, 9]

def c_depth (N : Nat) : CC := .seq (.region [
    ⟨.yes, (some 1), .box 56 (.tmp 0), true, false, []⟩,
    ⟨.yes, (some 2), .assign (.const (.int .i64 (0))), false, false, []⟩] [1]) <|
  .seq (.region [
    ⟨.yes, (some 3), .assign (.const (.int .i64 (0))), false, false, []⟩] [1, 3]) <|
  .seq (.seq (.region [
    ⟨.yes, (some 6), .fieldAddr 56 (.tmp 1) 5, false, false, []⟩,
    ⟨.yes, (some 7), .load 54 (.tmp 6), false, false, [(some 6)]⟩,
    ⟨.yes, (some 8), .call ⟨.builtin .len, #[(.tmp 7)], #[54]⟩, false, false, []⟩,
    ⟨.yes, (some 9), .move (.const (.int .i64 (0))), false, false, []⟩] [3, 7, 8, 9]) <|
  .block 0 <| .keep [3, 7, 8, 9] <| .sum (L_depth_0 N) (.loop l_depth_0)) <|
  .seq (.region [
    ⟨.yes, (some 18), .move (.tmp 3), true, false, []⟩,
    ⟨.yes, (some 19), .binOp .add 3 (.tmp 18) (.const (.int .i64 (1))) 3, false, false, []⟩,
    ⟨.yes, (some 2), .assign (.tmp 19), true, false, []⟩] [2]) <|
  .ret

theorem c_depth_eq (N : Nat) : ∃ c, Tryd.f54.body = some c ∧ codeOK Tryd.f54.ntmps c = true ∧ comp Tryd.prog (ann 54) c = erase (c_depth N) := ⟨_, rfl, by kernel_rfl, by kernel_rfl⟩

theorem body_depth_0 (N : Nat) (ar : List DV) (d m n : Int) : bodyT (Xd N) [3, 7, 8, 9] [2] [(0, [3])] l_depth_0 ⟨[(3, .d (.int .i64 d)), (7, .d (.sl 6 ar)), (8, .d (.int .i64 m)), (9, .d (.int .i64 n))], []⟩ = (
    .br (decide (n < m))
 (.br (decide ((0 : Int) ≤ n))
 (.opt ((ar[(Int.toNat n)]?).bind unXp) fun y1 => .br (fitX N ⟨y1.op, y1.value, y1.name, y1.slot, y1.size, y1.args⟩)
 (.leaf (.nrm, ⟨[(3, .d (.int .i64 (if d < (depthX N ⟨y1.op, y1.value, y1.name, y1.slot, y1.size, y1.args⟩) then (depthX N ⟨y1.op, y1.value, y1.name, y1.slot, y1.size, y1.args⟩) else d))), (7, .d (.sl 6 ar)), (8, .d (.int .i64 m)), (9, .d (.int .i64 (IntKind.i64.wrap (n + 1))))], []⟩))
 (.fail))
 (.fail))
 (.leaf ((.ext 0), ⟨[(3, .d (.int .i64 d))], []⟩)) : Tr (Ex × ST)) := by kernel_rfl

theorem tree_depth (N : Nat) (ar : List DV) (nm : List UInt8) (o v sl sz : Int) : fnT (Xd N) (c_depth N) Tryd.f54.results.toList [.agg [.d (.int .i64 o), .d (.int .i64 v), .d (.str nm), .d (.int .i64 sl), .d (.int .i64 sz), .d (.sl 6 ar)]] [] = (
    .opt (unL unXp ar) fun l1 => .br (decide ((ar.length : Int) = l1.length ∧ 0 ≤ (0 : Int) ∧ (0 : Int) ≤ (ar.length : Int) ∧ (ar.length : Int) ≤ 100000 ∧ 0 ≤ (0 : Int) ∧ (0 : Int) ≤ N) && l1.all (fitX N))
 (.leaf (.d (.int .i64 (IntKind.i64.wrap ((maxX N (l1.drop (0 : Int).toNat) (0 : Int)) + 1))), []))
 (.fail) : Tr (AV × Hp)) := by kernel_rfl


theorem sum_depth_0 (N : Nat) (hN : N ≤ 1000) (h : FnOK Tryd.prog gl 54 (depthT N)) : SumOK Tryd.prog gl (ann 54) (L_depth_0 N) (.loop l_depth_0) := by
  refine SumOK.of_inv (X := Xd N) (xok_Xd N h 54) (by simp only [Sums, l_depth_0, and_true]) (by kernel_rfl) (lv := [3, 7, 8, 9]) (rt := [2]) (xs := [(0, [3])]) (by decide)
    (fun k st r => ∃ (l : List Xp) (d : Int) (n : Nat), n ≤ l.length ∧ (l.length : Int) ≤ 100000 ∧ l.all (fitX N) = true ∧ 0 ≤ d ∧ d ≤ N ∧
      st = ⟨[(3, .d (.int .i64 d)), (7, .d (.sl 6 (l.map encXp))), (8, .d (.int .i64 (l.length : Int))), (9, .d (.int .i64 (n : Int)))], []⟩ ∧
      r = (.ext 0, ⟨[(3, .d (.int .i64 (maxX N (l.drop n) d)))], []⟩) ∧ k = l.length - n) ?_ ?_
  · intro st r h
    unfold L_depth_0 at h
    split at h
    · rename_i d ar m n
      obtain ⟨l, hl, h0⟩ := Tr.opt_some h
      obtain rfl := unL_inv unXp_ok hl
      rcases Tr.br_some h0 with ⟨h1, h2⟩ | ⟨_, h2⟩
      · simp only [Bool.and_eq_true, decide_eq_true_eq] at h1
        obtain ⟨⟨rfl, h3, h4, h5, h6, h7⟩, h8⟩ := h1
        obtain ⟨k, rfl⟩ := Int.eq_ofNat_of_zero_le h3
        exact ⟨_, l, d, k, by omega, h5, h8, h6, h7, rfl, (Tr.leaf_some h2).symm, rfl⟩
      · exact Tr.fail_some h2
    · exact Tr.fail_some h
  · rintro k st r ⟨l, d, n, h1, h2, h3, h4, h5, rfl, rfl, rfl⟩
    rw [body_depth_0]
    cases hb : l[n]? with
    | none =>
      have hl : l.length ≤ n := by simpa using hb
      have he : l.drop n = [] := List.drop_eq_nil_of_le hl
      refine ⟨.ext 0, _, Tr.dec_no (by omega) rfl, .inl ⟨by simp, by rw [he]; rfl⟩⟩
    | some v =>
      have hl := (List.getElem?_eq_some_iff.1 hb).1
      have hfit : fitX N v = true := (List.all_eq_true.1 h3) v (List.mem_of_getElem? hb)
      have hin := depthX_in N v
      have hdr : l.drop n = v :: l.drop (n + 1) := by
        rw [List.drop_eq_getElem_cons hl]; congr 1; exact (List.getElem?_eq_some_iff.1 hb).2
      have hw : IntKind.i64.wrap ((n : Int) + 1) = ((n + 1 : Nat) : Int) := by rw [wrap_in] <;> omega
      have hmx : (if d < depthX N v then depthX N v else d) = max d (depthX N v) := by split <;> omega
      refine ⟨.nrm, ⟨[(3, .d (.int .i64 (max d (depthX N v)))), (7, .d (.sl 6 (l.map encXp))), (8, .d (.int .i64 (l.length : Int))), (9, .d (.int .i64 ((n + 1 : Nat) : Int)))], []⟩, ?_,
        .inr ⟨rfl, _, ?_, l, max d (depthX N v), n + 1, by omega, h2, h3, by omega, by omega, rfl, by rw [hdr]; rfl, rfl⟩⟩
      · refine Tr.dec_yes (by omega) (Tr.dec_yes (by omega) (Tr.opt_to (y := v) ?_ ?_))
        · simp [hb, unXp_enc]
        · refine (Tr.run_yes hfit).trans ?_
          rw [hw, ← hmx]
          rfl
      · omega

theorem ok_depth : ∀ N : Nat, N ≤ 1000 → FnOK Tryd.prog gl 54 (depthT N)
  | 0, _ => by
    refine ⟨⟨_, Tryd.func54, rfl⟩, fun ar H v H' h => ?_⟩
    unfold depthT at h
    split at h
    · exact Tr.fail_some h
    · exact Tr.fail_some h
  | N + 1, hN => by
    have ih := ok_depth N (by omega)
    refine fn_of (X := Xd N) (xok_Xd N ih 54) Tryd.func54 (c_depth_eq N) (by kernel_rfl) (by simp only [Sums, c_depth, and_true, true_and]; exact sum_depth_0 N (by omega) ih) ?_
    intro ar H o h
    unfold depthT at h
    split at h
    · rename_i o' v nm sl sz ar
      rw [tree_depth]
      rcases Tr.br_some h with ⟨h1, h2⟩ | ⟨_, h2⟩
      · obtain rfl := Tr.leaf_some h2
        unfold fitX at h1
        simp only at h1
        split at h1
        · rename_i l hl
          simp only [Bool.and_eq_true, decide_eq_true_eq] at h1
          have hlen : ar.length = l.length := by rw [unL_inv unXp_ok hl, List.length_map]
          have hin := fold_max (depthX_in N) l 0 (by omega) (by omega)
          refine Tr.opt_to hl ?_
          have hw : IntKind.i64.wrap (maxX N l 0 + 1) = maxX N l 0 + 1 := by unfold maxX; rw [wrap_in] <;> omega
          have hd : depthX (N + 1) ⟨o', v, nm, sl, sz, ar⟩ = maxX N l 0 + 1 := by simp only [depthX, hl]; rfl
          simp [Tr.run_br, Tr.run_leaf, hlen, h1, hd, hw]
        · simp at h1
      · exact Tr.fail_some h2
    · exact Tr.fail_some h
end Go.AI.RD

/- syntax.depths and syntax.Depth, in sum. -/
namespace Go.AI.RD
open Go Go.Proofs
set_option maxRecDepth 10000
set_option linter.unusedVariables false
set_option linter.unusedSimpArgs false

theorem unSt_enc (t : St) : unSt (encSt t) = some t := rfl
theorem ok_depth9 : FnOK Tryd.prog gl 54 (depthT 9) := ok_depth 9 (by decide)

/-- Are statements nested less than so deep, and are all their parts what they should be? -/
def fitS : Nat → List DV → Bool
  | 0, _ => false
  | n + 1, ss => match unL unSt ss with
    | some l => decide ((l.length : Int) ≤ 100000) && l.all fun s => fitX 9 s.place && (fitX 9 s.value && (fitS n s.body && (fitS n s.els && decide ((s.name.length : Int) ≤ 100000))))
    | none => false
def fit1 (n : Nat) (s : St) : Bool := fitX 9 s.place && (fitX 9 s.value && (fitS n s.body && (fitS n s.els && decide ((s.name.length : Int) ≤ 100000))))

def depthS : Nat → List DV → Int
  | 0, _ => 0
  | n + 1, ss => match unL unSt ss with
    | some l => l.foldl (fun d s => max d (1 + max (max (max (depthX 9 s.place) (depthX 9 s.value)) (depthS n s.body)) (depthS n s.els))) 0
    | none => 0
def dep1 (n : Nat) (s : St) : Int := 1 + max (max (max (depthX 9 s.place) (depthX 9 s.value)) (depthS n s.body)) (depthS n s.els)
def maxS (N : Nat) (l : List St) (d : Int) : Int := l.foldl (fun d s => max d (dep1 N s)) d

theorem fold_maxS {f : St → Int} {b : Int} (hf : ∀ x, 0 ≤ f x ∧ f x ≤ b) : ∀ (l : List St) (d : Int), 0 ≤ d → d ≤ b → 0 ≤ l.foldl (fun d x => max d (f x)) d ∧ l.foldl (fun d x => max d (f x)) d ≤ b
  | [], d, h0, h1 => ⟨h0, h1⟩
  | x :: l, d, h0, h1 => by
    have := hf x
    exact fold_maxS hf l (max d (f x)) (by omega) (by omega)

theorem depthS_in : ∀ (n : Nat) (ss : List DV), 0 ≤ depthS n ss ∧ depthS n ss ≤ 10 + n
  | 0, e => ⟨by simp [depthS], by simp [depthS]⟩
  | n + 1, e => by
    unfold depthS
    split
    · rename_i l _
      have := fold_maxS (f := dep1 n) (b := 10 + ((n + 1 : Nat) : Int)) (fun s => by
        have h1 := depthX_in 9 s.place
        have h2 := depthX_in 9 s.value
        have h3 := depthS_in n s.body
        have h4 := depthS_in n s.els
        unfold dep1
        omega) l 0 (by omega) (by omega)
      exact this
    · omega

theorem dep1_in (n : Nat) (s : St) : 0 ≤ dep1 n s ∧ dep1 n s ≤ 11 + n := by
  have h1 := depthX_in 9 s.place
  have h2 := depthX_in 9 s.value
  have h3 := depthS_in n s.body
  have h4 := depthS_in n s.els
  unfold dep1
  omega

def depthsT (N : Nat) : FT
  | [.d (.sl 18 ss)], [] => .br (fitS N ss) (.leaf (.d (.int .i64 (depthS N ss)), [])) .fail
  | _, _ => .fail

def L_depths_0 (N : Nat) : ST → Tr (Ex × ST)
  | ⟨[(3, .d (.int .i64 d)), (6, .d (.sl 18 ss)), (7, .d (.int .i64 m)), (8, .d (.int .i64 n))], []⟩ => .opt (unL unSt ss) fun l => .br (decide (m = l.length ∧ 0 ≤ n ∧ n ≤ m ∧ m ≤ 100000 ∧ 0 ≤ d ∧ d ≤ 11 + N) && l.all (fit1 N)) (.leaf ((.ext 0), ⟨[(3, .d (.int .i64 (maxS N (l.drop n.toNat) d)))], []⟩)) .fail
  | _ => .fail

noncomputable abbrev Xds (N : Nat) : TX := ⟨Tryd.prog, tbl [(54, (depthT 9)), (43, depthsT N)], iso, gl, vw⟩

theorem xok_Xds (N : Nat) (h_depths : FnOK Tryd.prog gl 43 (depthsT N)) (f : Nat) : XOK (Xds N) (ann f) gl := XOK.of base (l := [(54, (depthT 9)), (43, depthsT N)]) ⟨ok_depth9, h_depths, trivial⟩ f

def l_depths_0 : CC := .seq (.region [
    ⟨.yes, (some 9), .binOp .lss 3 (.tmp 8) (.tmp 7) 3, false, false, []⟩] [3, 6, 7, 8, 9]) <|
  .seq (.cond (.tmp 9)
    (.skip)
    (.exit 0)) <|
  .seq (.block 1 <| .seq (.region [
    ⟨.yes, (some 10), .indexAddr 27 (.tmp 6) (.tmp 8), false, false, []⟩,
    ⟨.yes, (some 11), .load 59 (.tmp 10), false, false, [none, none, none, none, none, none, none, none, none, (some 6), none, none, none, none, none, (some 6), (some 18), (some 18)]⟩,
    ⟨.yes, (some 5), .alloc 59, false, false, []⟩,
    ⟨.yes, none, .store 59 (.tmp 5) (.tmp 11), true, false, []⟩] [3, 5, 6, 7, 8]) <|
  .drawn ⟨[0, 16], [], [3, 6, 7, 8]⟩ [
    ⟨(some 12), .move (.tmp 3), 3, "check.go:18", #[], none⟩,
    ⟨(some 13), .fieldAddr 59 (.tmp 5) 4, 0, "check.go:18", #[], none⟩,
    ⟨(some 14), .load 56 (.tmp 13), 56, "check.go:18", #[⟨1, .data⟩], none⟩,
    ⟨(some 15), .call ⟨.value (.func 54), #[(.tmp 14)], #[56]⟩, 3, "check.go:18", #[⟨2, .data⟩], none⟩,
    ⟨(some 16), .fieldAddr 59 (.tmp 5) 5, 0, "check.go:18", #[], none⟩,
    ⟨(some 17), .load 56 (.tmp 16), 56, "check.go:18", #[⟨4, .data⟩], none⟩,
    ⟨(some 18), .call ⟨.value (.func 54), #[(.tmp 17)], #[56]⟩, 3, "check.go:18", #[⟨5, .data⟩, ⟨3, .chain⟩], none⟩,
    ⟨(some 19), .fieldAddr 59 (.tmp 5) 6, 0, "check.go:18", #[], none⟩,
    ⟨(some 20), .load 27 (.tmp 19), 27, "check.go:18", #[⟨7, .data⟩], none⟩,
    ⟨(some 21), .call ⟨.value (.func 43), #[(.tmp 20)], #[27]⟩, 3, "check.go:18", #[⟨8, .data⟩, ⟨6, .chain⟩], none⟩,
    ⟨(some 22), .fieldAddr 59 (.tmp 5) 7, 0, "check.go:18", #[], none⟩,
    ⟨(some 23), .load 27 (.tmp 22), 27, "check.go:18", #[⟨10, .data⟩], none⟩,
    ⟨(some 24), .call ⟨.value (.func 43), #[(.tmp 23)], #[27]⟩, 3, "check.go:18", #[⟨11, .data⟩, ⟨9, .chain⟩], none⟩,
    ⟨(some 25), .call ⟨.builtin .max, #[(.tmp 15), (.tmp 18), (.tmp 21), (.tmp 24)], #[3, 3, 3, 3]⟩, 3, "check.go:18", #[⟨3, .data⟩, ⟨6, .data⟩, ⟨9, .data⟩, ⟨12, .data⟩], none⟩,
    ⟨(some 26), .binOp .add 3 (.const (.int .i64 (1))) (.tmp 25) 3, 3, "check.go:18", #[⟨13, .data⟩], none⟩,
    ⟨(some 27), .call ⟨.builtin .max, #[(.tmp 12), (.tmp 26)], #[3, 3]⟩, 3, "check.go:18", #[⟨0, .data⟩, ⟨14, .data⟩], none⟩,
    ⟨(some 3), .assign (.tmp 27), 3, "check.go:18", #[⟨15, .data⟩, ⟨12, .chain⟩, ⟨0, .phase⟩, ⟨1, .phase⟩, ⟨2, .phase⟩, ⟨3, .phase⟩, ⟨4, .phase⟩, ⟨5, .phase⟩, ⟨6, .phase⟩, ⟨7, .phase⟩, ⟨8, .phase⟩, ⟨9, .phase⟩, ⟨10, .phase⟩, ⟨11, .phase⟩, ⟨12, .phase⟩, ⟨13, .phase⟩, ⟨14, .phase⟩, ⟨15, .phase⟩], none⟩]) <|
  .region [
    ⟨.yes, (some 28), .binOp .add 3 (.tmp 8) (.const (.int .i64 (1))) 3, false, false, []⟩,
    ⟨.yes, (some 8), .move (.tmp 28), true, false, []⟩] [3, 6, 7, 8]

def c_depths (N : Nat) : CC := .seq (.region [
    ⟨.yes, (some 2), .assign (.const (.int .i64 (0))), false, false, []⟩] [0]) <|
  .seq (.region [
    ⟨.yes, (some 3), .assign (.const (.int .i64 (0))), false, false, []⟩] [0, 3]) <|
  .seq (.seq (.region [
    ⟨.yes, (some 6), .move (.tmp 0), true, false, [(some 18)]⟩,
    ⟨.yes, (some 7), .call ⟨.builtin .len, #[(.tmp 6)], #[27]⟩, false, false, []⟩,
    ⟨.yes, (some 8), .move (.const (.int .i64 (0))), false, false, []⟩] [3, 6, 7, 8]) <|
  .block 0 <| .keep [3, 6, 7, 8] <| .sum (L_depths_0 N) (.loop l_depths_0)) <|
  .seq (.region [
    ⟨.yes, (some 29), .move (.tmp 3), true, false, []⟩,
    ⟨.yes, (some 2), .assign (.tmp 29), true, false, []⟩] [2]) <|
  .ret

theorem c_depths_eq (N : Nat) : ∃ c, Tryd.f43.body = some c ∧ codeOK Tryd.f43.ntmps c = true ∧ comp Tryd.prog (ann 43) c = erase (c_depths N) := ⟨_, rfl, by kernel_rfl, by kernel_rfl⟩

theorem body_depths_0 (N : Nat) (ss : List DV) (d m n : Int) : bodyT (Xds N) [3, 6, 7, 8] [2] [(0, [3])] l_depths_0 ⟨[(3, .d (.int .i64 d)), (6, .d (.sl 18 ss)), (7, .d (.int .i64 m)), (8, .d (.int .i64 n))], []⟩ = (
    .br (decide (n < m))
 (.br (decide ((0 : Int) ≤ n))
 (.opt ((ss[(Int.toNat n)]?).bind unSt) fun y1 => .br (fitX 9 ⟨y1.place.op, y1.place.value, y1.place.name, y1.place.slot, y1.place.size, y1.place.args⟩)
 (.br (fitX 9 ⟨y1.value.op, y1.value.value, y1.value.name, y1.value.slot, y1.value.size, y1.value.args⟩)
 (.br (fitS N y1.body)
 (.br (fitS N y1.els)
 (.leaf (.nrm, ⟨[(3, .d (.int .i64 (if d < (IntKind.i64.wrap (1 + (if (if (if (depthX 9 ⟨y1.place.op, y1.place.value, y1.place.name, y1.place.slot, y1.place.size, y1.place.args⟩) < (depthX 9 ⟨y1.value.op, y1.value.value, y1.value.name, y1.value.slot, y1.value.size, y1.value.args⟩) then (depthX 9 ⟨y1.value.op, y1.value.value, y1.value.name, y1.value.slot, y1.value.size, y1.value.args⟩) else (depthX 9 ⟨y1.place.op, y1.place.value, y1.place.name, y1.place.slot, y1.place.size, y1.place.args⟩)) < (depthS N y1.body) then (depthS N y1.body) else if (depthX 9 ⟨y1.place.op, y1.place.value, y1.place.name, y1.place.slot, y1.place.size, y1.place.args⟩) < (depthX 9 ⟨y1.value.op, y1.value.value, y1.value.name, y1.value.slot, y1.value.size, y1.value.args⟩) then (depthX 9 ⟨y1.value.op, y1.value.value, y1.value.name, y1.value.slot, y1.value.size, y1.value.args⟩) else (depthX 9 ⟨y1.place.op, y1.place.value, y1.place.name, y1.place.slot, y1.place.size, y1.place.args⟩)) < (depthS N y1.els) then (depthS N y1.els) else if (if (depthX 9 ⟨y1.place.op, y1.place.value, y1.place.name, y1.place.slot, y1.place.size, y1.place.args⟩) < (depthX 9 ⟨y1.value.op, y1.value.value, y1.value.name, y1.value.slot, y1.value.size, y1.value.args⟩) then (depthX 9 ⟨y1.value.op, y1.value.value, y1.value.name, y1.value.slot, y1.value.size, y1.value.args⟩) else (depthX 9 ⟨y1.place.op, y1.place.value, y1.place.name, y1.place.slot, y1.place.size, y1.place.args⟩)) < (depthS N y1.body) then (depthS N y1.body) else if (depthX 9 ⟨y1.place.op, y1.place.value, y1.place.name, y1.place.slot, y1.place.size, y1.place.args⟩) < (depthX 9 ⟨y1.value.op, y1.value.value, y1.value.name, y1.value.slot, y1.value.size, y1.value.args⟩) then (depthX 9 ⟨y1.value.op, y1.value.value, y1.value.name, y1.value.slot, y1.value.size, y1.value.args⟩) else (depthX 9 ⟨y1.place.op, y1.place.value, y1.place.name, y1.place.slot, y1.place.size, y1.place.args⟩)))) then IntKind.i64.wrap (1 + (if (if (if (depthX 9 ⟨y1.place.op, y1.place.value, y1.place.name, y1.place.slot, y1.place.size, y1.place.args⟩) < (depthX 9 ⟨y1.value.op, y1.value.value, y1.value.name, y1.value.slot, y1.value.size, y1.value.args⟩) then (depthX 9 ⟨y1.value.op, y1.value.value, y1.value.name, y1.value.slot, y1.value.size, y1.value.args⟩) else (depthX 9 ⟨y1.place.op, y1.place.value, y1.place.name, y1.place.slot, y1.place.size, y1.place.args⟩)) < (depthS N y1.body) then (depthS N y1.body) else if (depthX 9 ⟨y1.place.op, y1.place.value, y1.place.name, y1.place.slot, y1.place.size, y1.place.args⟩) < (depthX 9 ⟨y1.value.op, y1.value.value, y1.value.name, y1.value.slot, y1.value.size, y1.value.args⟩) then (depthX 9 ⟨y1.value.op, y1.value.value, y1.value.name, y1.value.slot, y1.value.size, y1.value.args⟩) else (depthX 9 ⟨y1.place.op, y1.place.value, y1.place.name, y1.place.slot, y1.place.size, y1.place.args⟩)) < (depthS N y1.els) then (depthS N y1.els) else if (if (depthX 9 ⟨y1.place.op, y1.place.value, y1.place.name, y1.place.slot, y1.place.size, y1.place.args⟩) < (depthX 9 ⟨y1.value.op, y1.value.value, y1.value.name, y1.value.slot, y1.value.size, y1.value.args⟩) then (depthX 9 ⟨y1.value.op, y1.value.value, y1.value.name, y1.value.slot, y1.value.size, y1.value.args⟩) else (depthX 9 ⟨y1.place.op, y1.place.value, y1.place.name, y1.place.slot, y1.place.size, y1.place.args⟩)) < (depthS N y1.body) then (depthS N y1.body) else if (depthX 9 ⟨y1.place.op, y1.place.value, y1.place.name, y1.place.slot, y1.place.size, y1.place.args⟩) < (depthX 9 ⟨y1.value.op, y1.value.value, y1.value.name, y1.value.slot, y1.value.size, y1.value.args⟩) then (depthX 9 ⟨y1.value.op, y1.value.value, y1.value.name, y1.value.slot, y1.value.size, y1.value.args⟩) else (depthX 9 ⟨y1.place.op, y1.place.value, y1.place.name, y1.place.slot, y1.place.size, y1.place.args⟩))) else d))), (6, .d (.sl 18 ss)), (7, .d (.int .i64 m)), (8, .d (.int .i64 (IntKind.i64.wrap (n + 1))))], []⟩))
 (.fail))
 (.fail))
 (.fail))
 (.fail))
 (.fail))
 (.leaf ((.ext 0), ⟨[(3, .d (.int .i64 d))], []⟩)) : Tr (Ex × ST)) := by kernel_rfl

theorem tree_depths (N : Nat) (ss : List DV) : fnT (Xds N) (c_depths N) Tryd.f43.results.toList [.d (.sl 18 ss)] [] = (
    .opt (unL unSt ss) fun l1 => .br (decide ((ss.length : Int) = l1.length ∧ 0 ≤ (0 : Int) ∧ (0 : Int) ≤ (ss.length : Int) ∧ (ss.length : Int) ≤ 100000 ∧ 0 ≤ (0 : Int) ∧ (0 : Int) ≤ 11 + N) && l1.all (fit1 N))
 (.leaf (.d (.int .i64 (maxS N (l1.drop (0 : Int).toNat) (0 : Int))), []))
 (.fail) : Tr (AV × Hp)) := by kernel_rfl


theorem maxif (a b : Int) : (if a < b then b else a) = max a b := by split <;> omega

theorem sum_depths_0 (N : Nat) (hN : N ≤ 900) (h : FnOK Tryd.prog gl 43 (depthsT N)) : SumOK Tryd.prog gl (ann 43) (L_depths_0 N) (.loop l_depths_0) := by
  refine SumOK.of_inv (X := Xds N) (xok_Xds N h 43) (by simp only [Sums, l_depths_0, and_true]) (by kernel_rfl) (lv := [3, 6, 7, 8]) (rt := [2]) (xs := [(0, [3])]) (by decide)
    (fun k st r => ∃ (l : List St) (d : Int) (n : Nat), n ≤ l.length ∧ (l.length : Int) ≤ 100000 ∧ l.all (fit1 N) = true ∧ 0 ≤ d ∧ d ≤ 11 + N ∧
      st = ⟨[(3, .d (.int .i64 d)), (6, .d (.sl 18 (l.map encSt))), (7, .d (.int .i64 (l.length : Int))), (8, .d (.int .i64 (n : Int)))], []⟩ ∧
      r = (.ext 0, ⟨[(3, .d (.int .i64 (maxS N (l.drop n) d)))], []⟩) ∧ k = l.length - n) ?_ ?_
  · intro st r h
    unfold L_depths_0 at h
    split at h
    · rename_i d ar m n
      obtain ⟨l, hl, h0⟩ := Tr.opt_some h
      obtain rfl := unL_inv unSt_ok hl
      rcases Tr.br_some h0 with ⟨h1, h2⟩ | ⟨_, h2⟩
      · simp only [Bool.and_eq_true, decide_eq_true_eq] at h1
        obtain ⟨⟨rfl, h3, h4, h5, h6, h7⟩, h8⟩ := h1
        obtain ⟨k, rfl⟩ := Int.eq_ofNat_of_zero_le h3
        exact ⟨_, l, d, k, by omega, h5, h8, h6, h7, rfl, (Tr.leaf_some h2).symm, rfl⟩
      · exact Tr.fail_some h2
    · exact Tr.fail_some h
  · rintro k st r ⟨l, d, n, h1, h2, h3, h4, h5, rfl, rfl, rfl⟩
    rw [body_depths_0]
    cases hb : l[n]? with
    | none =>
      have hl : l.length ≤ n := by simpa using hb
      have he : l.drop n = [] := List.drop_eq_nil_of_le hl
      refine ⟨.ext 0, _, Tr.dec_no (by omega) rfl, .inl ⟨by simp, by rw [he]; rfl⟩⟩
    | some v =>
      have hl := (List.getElem?_eq_some_iff.1 hb).1
      have hfit : fit1 N v = true := (List.all_eq_true.1 h3) v (List.mem_of_getElem? hb)
      simp only [fit1, Bool.and_eq_true] at hfit
      obtain ⟨f1, f2, f3, f4, _⟩ := hfit
      have hin := dep1_in N v
      have hdr : l.drop n = v :: l.drop (n + 1) := by
        rw [List.drop_eq_getElem_cons hl]; congr 1; exact (List.getElem?_eq_some_iff.1 hb).2
      have hw : IntKind.i64.wrap ((n : Int) + 1) = ((n + 1 : Nat) : Int) := by rw [wrap_in] <;> omega
      have hw2 : IntKind.i64.wrap (1 + max (max (max (depthX 9 v.place) (depthX 9 v.value)) (depthS N v.body)) (depthS N v.els)) = dep1 N v := by
        rw [wrap_in]; · rfl
        · have := hin; unfold dep1 at this; omega
        · have := hin; unfold dep1 at this; omega
      refine ⟨.nrm, ⟨[(3, .d (.int .i64 (max d (dep1 N v)))), (6, .d (.sl 18 (l.map encSt))), (7, .d (.int .i64 (l.length : Int))), (8, .d (.int .i64 ((n + 1 : Nat) : Int)))], []⟩, ?_,
        .inr ⟨rfl, _, ?_, l, max d (dep1 N v), n + 1, by omega, h2, h3, by omega, by omega, rfl, by rw [hdr]; rfl, rfl⟩⟩
      · refine Tr.dec_yes (by omega) (Tr.dec_yes (by omega) (Tr.opt_to (y := v) ?_ ?_))
        · simp [hb, unSt_enc]
        · refine (Tr.run_yes f1).trans ((Tr.run_yes f2).trans ((Tr.run_yes f3).trans ((Tr.run_yes f4).trans ?_)))
          rw [hw]
          simp only [maxif]
          have e1 : depthX 9 ⟨v.place.op, v.place.value, v.place.name, v.place.slot, v.place.size, v.place.args⟩ = depthX 9 v.place := rfl
          have e2 : depthX 9 ⟨v.value.op, v.value.value, v.value.name, v.value.slot, v.value.size, v.value.args⟩ = depthX 9 v.value := rfl
          simp only [e1, e2, hw2]
          rfl
      · omega

theorem ok_depths : ∀ N : Nat, N ≤ 900 → FnOK Tryd.prog gl 43 (depthsT N)
  | 0, _ => by
    refine ⟨⟨_, Tryd.func43, rfl⟩, fun ar H v H' h => ?_⟩
    unfold depthsT at h
    split at h
    · exact Tr.fail_some h
    · exact Tr.fail_some h
  | N + 1, hN => by
    have ih := ok_depths N (by omega)
    refine fn_of (X := Xds N) (xok_Xds N ih 43) Tryd.func43 (c_depths_eq N) (by kernel_rfl) (by simp only [Sums, c_depths, and_true, true_and]; exact sum_depths_0 N (by omega) ih) ?_
    intro ar H o h
    unfold depthsT at h
    split at h
    · rename_i ss
      rw [tree_depths]
      rcases Tr.br_some h with ⟨h1, h2⟩ | ⟨_, h2⟩
      · obtain rfl := Tr.leaf_some h2
        unfold fitS at h1
        split at h1
        · rename_i l hl
          simp only [Bool.and_eq_true, decide_eq_true_eq] at h1
          obtain ⟨h3, h4⟩ := h1
          have h5 : l.all (fit1 N) = true := h4
          have hlen : ss.length = l.length := by rw [unL_inv unSt_ok hl, List.length_map]
          refine Tr.opt_to hl ?_
          have hd : depthS (N + 1) ss = maxS N l 0 := by simp only [depthS, hl]; rfl
          rw [hd]
          refine (Tr.run_yes ?_).trans rfl
          rw [h5, Bool.and_true]
          exact decide_eq_true ⟨by omega, by omega, by omega, by omega, by omega, by omega⟩
        · simp at h1
      · exact Tr.fail_some h2
    · exact Tr.fail_some h
end Go.AI.RD

/- syntax.zero, syntax.args, syntax.expr, in sum. -/
namespace Go.AI.RD
open Go Go.Proofs
set_option maxRecDepth 10000
set_option linter.unusedVariables false
set_option linter.unusedSimpArgs false

def argsN (k : Int) : Int := if 10 ≤ k then 2 else if k = 3 ∨ 8 ≤ k then 1 else 0
def zeroX (e : Xp) : Bool := decide (e.op = 0) && (decide (e.value = 0) && (decide (e.name = []) && (decide (e.slot = 0) && (decide (e.size = 0) && decide ((e.args.length : Int) = 0)))))

/-- Is an expression itself one that could be written? -/
def headX (e : Xp) : Bool :=
  !(decide (e.op < 1) || (decide (22 < e.op) || (!decide (e.slot = 0) || (!decide (e.size = 0) || !decide ((e.args.length : Int) = argsN e.op))))) &&
  (!(((decide (e.op = 2) || decide (e.op = 3)) && !validB e.name) || (!(decide (e.op = 2) || decide (e.op = 3)) && !decide (e.name = []))) &&
  !((decide (e.op = 1) && decide (e.value < 0)) || (!decide (e.op = 1) && !decide (e.value = 0))))
def goodX : Nat → Xp → Bool
  | 0, _ => false
  | n + 1, e => headX e && (match unL unXp e.args with | some l => l.all (goodX n) | none => false)

def argsT : FT
  | [.d (.int .i64 k)], [] => .leaf (.d (.int .i64 (argsN k)), [])
  | _, _ => .fail

def zeroT : FT
  | [.agg [.d (.int .i64 o), .d (.int .i64 v), .d (.str nm), .d (.int .i64 sl), .d (.int .i64 sz), .d (.sl 6 ar)]], [] => .leaf (.d (.bool (zeroX ⟨o, v, nm, sl, sz, ar⟩)), [])
  | _, _ => .fail

noncomputable abbrev Z0 : TX := ⟨Tryd.prog, tbl [], iso, gl, vw⟩

theorem xok_Z0 (f : Nat) : XOK Z0 (ann f) gl := XOK.of base (l := []) trivial f

/-- rollbacknet/syntax.args -/
def c_args : CC := .seq (.region [
    ⟨.yes, (some 2), .assign (.const (.int .i64 (0))), false, false, []⟩] [0]) <|
  .seq (.block 0 <| .seq (.region [
    ⟨.yes, (some 4), .move (.tmp 0), false, false, []⟩,
    ⟨.yes, (some 5), .binOp .geq 3 (.tmp 4) (.const (.int .i64 (10))) 3, false, false, []⟩,
    ⟨.yes, (some 3), .assign (.tmp 5), true, false, []⟩] [0, 3]) <|
  .cond (.tmp 3)
    (.seq (.region [
      ⟨.yes, (some 2), .assign (.const (.int .i64 (2))), false, false, []⟩] [2]) <|
    .ret)
    (.seq (.region [
      ⟨.yes, (some 7), .move (.tmp 0), false, false, []⟩,
      ⟨.yes, (some 8), .binOp .eql 3 (.tmp 7) (.const (.int .i64 (3))) 3, false, false, []⟩,
      ⟨.yes, (some 9), .move (.tmp 8), true, false, []⟩,
      ⟨(.on 9 false), (some 10), .move (.tmp 0), true, false, []⟩,
      ⟨(.on 9 false), (some 11), .binOp .geq 3 (.tmp 10) (.const (.int .i64 (8))) 3, false, false, []⟩,
      ⟨.yes, (some 12), .pick (.tmp 9) (.const (.bool true)) (.tmp 11), false, false, []⟩,
      ⟨.yes, (some 6), .assign (.tmp 12), true, false, []⟩] [6]) <|
    .cond (.tmp 6)
      (.seq (.region [
        ⟨.yes, (some 2), .assign (.const (.int .i64 (1))), false, false, []⟩] [2]) <|
      .ret)
      (.skip))) <|
  .seq (.region [
    ⟨.yes, (some 2), .assign (.const (.int .i64 (0))), false, false, []⟩] [2]) <|
  .ret

theorem c_args_eq : ∃ c, Tryd.f60.body = some c ∧ codeOK Tryd.f60.ntmps c = true ∧ comp Tryd.prog (ann 60) c = erase c_args := ⟨_, rfl, by kernel_rfl, by kernel_rfl⟩

theorem tree_args (k : Int) : fnT Z0 c_args Tryd.f60.results.toList [.d (.int .i64 k)] [] = (
    .br (decide ((10 : Int) ≤ k))
 (.leaf (.d (.int .i64 2), []))
 (.br (decide (k = 3))
 (.leaf (.d (.int .i64 1), []))
 (.br (decide ((8 : Int) ≤ k))
 (.leaf (.d (.int .i64 1), []))
 (.leaf (.d (.int .i64 0), [])))) : Tr (AV × Hp)) := by kernel_rfl

theorem ok_args : FnOK Tryd.prog gl 60 argsT := by
  refine fn_of (X := Z0) (xok_Z0 60) Tryd.func60 c_args_eq (by kernel_rfl) (by simp only [Sums, c_args, and_true]) ?_
  intro xs H o h
  unfold argsT at h
  split at h
  · rename_i k
    rw [tree_args]
    obtain rfl := Tr.leaf_some h
    unfold argsN
    by_cases h1 : 10 ≤ k <;> by_cases h2 : k = 3 <;> by_cases h3 : 8 ≤ k <;> simp [Tr.run_br, Tr.run_leaf, h1, h2, h3]
    all_goals omega
  · exact Tr.fail_some h

/-- rollbacknet/syntax.zero -/
def c_zero : CC := .seq (.region [
    ⟨.yes, (some 1), .box 56 (.tmp 0), true, false, []⟩,
    ⟨.yes, (some 2), .assign (.const (.bool false)), false, false, []⟩] [1]) <|
  .seq (.region [
    ⟨.yes, (some 3), .fieldAddr 56 (.tmp 1) 0, false, false, []⟩,
    ⟨.yes, (some 4), .load 3 (.tmp 3), false, false, []⟩,
    ⟨.yes, (some 5), .binOp .eql 3 (.tmp 4) (.const (.int .i64 (0))) 3, false, false, []⟩,
    ⟨.yes, (some 6), .move (.tmp 5), true, false, []⟩,
    ⟨(.on 6 true), (some 7), .fieldAddr 56 (.tmp 1) 1, false, false, []⟩,
    ⟨(.on 6 true), (some 8), .load 3 (.tmp 7), false, false, []⟩,
    ⟨(.on 6 true), (some 9), .binOp .eql 3 (.tmp 8) (.const (.int .i64 (0))) 3, false, false, []⟩,
    ⟨.yes, (some 10), .pick (.tmp 6) (.tmp 9) (.const (.bool false)), false, false, []⟩,
    ⟨.yes, (some 11), .move (.tmp 10), true, false, []⟩,
    ⟨(.on 11 true), (some 12), .fieldAddr 56 (.tmp 1) 2, false, false, []⟩,
    ⟨(.on 11 true), (some 13), .load 9 (.tmp 12), false, false, []⟩,
    ⟨(.on 11 true), (some 14), .binOp .eql 9 (.tmp 13) (.const (.string ⟨#[]⟩)) 9, false, false, []⟩,
    ⟨.yes, (some 15), .pick (.tmp 11) (.tmp 14) (.const (.bool false)), false, false, []⟩,
    ⟨.yes, (some 16), .move (.tmp 15), true, false, []⟩,
    ⟨(.on 16 true), (some 17), .fieldAddr 56 (.tmp 1) 3, false, false, []⟩,
    ⟨(.on 16 true), (some 18), .load 3 (.tmp 17), false, false, []⟩,
    ⟨(.on 16 true), (some 19), .binOp .eql 3 (.tmp 18) (.const (.int .i64 (0))) 3, false, false, []⟩,
    ⟨.yes, (some 20), .pick (.tmp 16) (.tmp 19) (.const (.bool false)), false, false, []⟩,
    ⟨.yes, (some 21), .move (.tmp 20), true, false, []⟩,
    ⟨(.on 21 true), (some 22), .fieldAddr 56 (.tmp 1) 4, false, false, []⟩,
    ⟨(.on 21 true), (some 23), .load 3 (.tmp 22), false, false, []⟩,
    ⟨(.on 21 true), (some 24), .binOp .eql 3 (.tmp 23) (.const (.int .i64 (0))) 3, false, false, []⟩,
    ⟨.yes, (some 25), .pick (.tmp 21) (.tmp 24) (.const (.bool false)), false, false, []⟩,
    ⟨.yes, (some 26), .move (.tmp 25), true, false, []⟩,
    ⟨(.on 26 true), (some 27), .fieldAddr 56 (.tmp 1) 5, false, false, []⟩,
    ⟨(.on 26 true), (some 28), .load 54 (.tmp 27), false, false, [(some 6)]⟩,
    ⟨(.on 26 true), (some 29), .call ⟨.builtin .len, #[(.tmp 28)], #[54]⟩, false, false, []⟩,
    ⟨(.on 26 true), (some 30), .binOp .eql 3 (.tmp 29) (.const (.int .i64 (0))) 3, false, false, []⟩,
    ⟨.yes, (some 31), .pick (.tmp 26) (.tmp 30) (.const (.bool false)), false, false, []⟩,
    ⟨.yes, (some 2), .assign (.tmp 31), true, false, []⟩] [2]) <|
  .ret

theorem c_zero_eq : ∃ c, Tryd.f57.body = some c ∧ codeOK Tryd.f57.ntmps c = true ∧ comp Tryd.prog (ann 57) c = erase c_zero := ⟨_, rfl, by kernel_rfl, by kernel_rfl⟩

theorem tree_zero (ar : List DV) (nm : List UInt8) (o v sl sz : Int) : fnT Z0 c_zero Tryd.f57.results.toList [.agg [.d (.int .i64 o), .d (.int .i64 v), .d (.str nm), .d (.int .i64 sl), .d (.int .i64 sz), .d (.sl 6 ar)]] [] = (
    .br (decide (o = 0))
 (.br (decide (v = 0))
 (.br (decide (nm = []))
 (.br (decide (sl = 0))
 (.br (decide (sz = 0))
 (.leaf (.d (.bool (decide ((ar.length : Int) = 0))), []))
 (.leaf (.d (.bool false), [])))
 (.leaf (.d (.bool false), [])))
 (.leaf (.d (.bool false), [])))
 (.leaf (.d (.bool false), [])))
 (.leaf (.d (.bool false), [])) : Tr (AV × Hp)) := by kernel_rfl

theorem ok_zero : FnOK Tryd.prog gl 57 zeroT := by
  refine fn_of (X := Z0) (xok_Z0 57) Tryd.func57 c_zero_eq (by kernel_rfl) (by simp only [Sums, c_zero, and_true]) ?_
  intro xs H o h
  unfold zeroT at h
  split at h
  · rename_i o' v nm sl sz ar
    rw [tree_zero]
    obtain rfl := Tr.leaf_some h
    unfold zeroX
    by_cases h1 : o' = 0
    · by_cases h2 : v = 0
      · by_cases h3 : nm = []
        · by_cases h4 : sl = 0
          · by_cases h5 : sz = 0 <;> simp [Tr.run_br, Tr.run_leaf, h1, h2, h3, h4, h5]
          · simp [Tr.run_br, Tr.run_leaf, h1, h2, h3, h4]
        · simp [Tr.run_br, Tr.run_leaf, h1, h2, h3]
      · simp [Tr.run_br, Tr.run_leaf, h1, h2]
    · simp [Tr.run_br, Tr.run_leaf, h1]
  · exact Tr.fail_some h

def exprT (N : Nat) : FT
  | [.agg [.d (.int .i64 o), .d (.int .i64 v), .d (.str nm), .d (.int .i64 sl), .d (.int .i64 sz), .d (.sl 6 ar)]], [] => .br (fitX N ⟨o, v, nm, sl, sz, ar⟩) (.leaf (.d (.bool (goodX N ⟨o, v, nm, sl, sz, ar⟩)), [])) .fail
  | _, _ => .fail

def L_expr_0 (N : Nat) : ST → Tr (Ex × ST)
  | ⟨[(79, .d (.sl 6 ar)), (80, .d (.int .i64 m)), (81, .d (.int .i64 n))], []⟩ => .opt (unL unXp ar) fun l => .br (decide (m = l.length ∧ 0 ≤ n ∧ n ≤ m ∧ m ≤ 100000) && l.all (fitX N)) (.br ((l.drop n.toNat).all (goodX N)) (.leaf ((.ext 1), ⟨[], []⟩)) (.leaf (.ret, ⟨[(2, .d (.bool false))], []⟩))) .fail
  | _ => .fail

noncomputable abbrev Xx (N : Nat) : TX := ⟨Tryd.prog, tbl [(60, argsT), (33, validT), (56, exprT N)], iso, gl, vw⟩

theorem xok_Xx (N : Nat) (h_expr : FnOK Tryd.prog gl 56 (exprT N)) (f : Nat) : XOK (Xx N) (ann f) gl := XOK.of base (l := [(60, argsT), (33, validT), (56, exprT N)]) ⟨ok_args, ok_valid, h_expr, trivial⟩ f

def l_expr_0 : CC := .seq (.region [
    ⟨.yes, (some 82), .binOp .lss 3 (.tmp 81) (.tmp 80) 3, false, false, []⟩] [79, 80, 81, 82]) <|
  .seq (.cond (.tmp 82)
    (.skip)
    (.exit 1)) <|
  .seq (.block 2 <| .seq (.region [
    ⟨.yes, (some 83), .indexAddr 54 (.tmp 79) (.tmp 81), false, false, []⟩,
    ⟨.yes, (some 84), .load 56 (.tmp 83), false, false, [none, none, none, none, none, (some 6)]⟩,
    ⟨.yes, (some 5), .alloc 56, false, false, []⟩,
    ⟨.yes, none, .store 56 (.tmp 5) (.tmp 84), true, false, []⟩] [5, 79, 80, 81]) <|
  .seq (.region [
    ⟨.yes, (some 85), .load 56 (.tmp 5), false, false, [none, none, none, none, none, (some 6)]⟩,
    ⟨.yes, (some 86), .call ⟨.value (.func 56), #[(.tmp 85)], #[56]⟩, false, false, []⟩,
    ⟨.yes, (some 87), .unOp .not 4 (.tmp 86), false, false, []⟩] [79, 80, 81, 87]) <|
  .cond (.tmp 87)
    (.seq (.region [
      ⟨.yes, (some 2), .assign (.const (.bool false)), false, false, []⟩] [2]) <|
    .ret)
    (.skip)) <|
  .region [
    ⟨.yes, (some 88), .binOp .add 3 (.tmp 81) (.const (.int .i64 (1))) 3, false, false, []⟩,
    ⟨.yes, (some 81), .move (.tmp 88), true, false, []⟩] [79, 80, 81]

def c_expr (N : Nat) : CC := .seq (.region [
    ⟨.yes, (some 1), .box 56 (.tmp 0), true, false, []⟩,
    ⟨.yes, (some 2), .assign (.const (.bool false)), false, false, []⟩] [1]) <|
  .seq (.region [
    ⟨.yes, (some 6), .fieldAddr 56 (.tmp 1) 0, false, false, []⟩,
    ⟨.yes, (some 7), .load 3 (.tmp 6), false, false, []⟩,
    ⟨.yes, (some 8), .binOp .eql 3 (.tmp 7) (.const (.int .i64 (2))) 3, false, false, []⟩,
    ⟨.yes, (some 9), .move (.tmp 8), true, false, []⟩,
    ⟨(.on 9 false), (some 10), .fieldAddr 56 (.tmp 1) 0, false, false, []⟩,
    ⟨(.on 9 false), (some 11), .load 3 (.tmp 10), false, false, []⟩,
    ⟨(.on 9 false), (some 12), .binOp .eql 3 (.tmp 11) (.const (.int .i64 (3))) 3, false, false, []⟩,
    ⟨.yes, (some 13), .pick (.tmp 9) (.const (.bool true)) (.tmp 12), false, false, []⟩,
    ⟨.yes, (some 3), .assign (.tmp 13), true, false, []⟩] [1, 3]) <|
  .seq (.block 0 <| .seq (.drawn ⟨[3, 8, 13, 18, 27], [], [1, 3, 14]⟩ [
    ⟨(some 15), .fieldAddr 56 (.tmp 1) 0, 0, "check.go:92", #[], none⟩,
    ⟨(some 16), .load 3 (.tmp 15), 3, "check.go:92", #[⟨0, .data⟩], none⟩,
    ⟨(some 17), .binOp .lss 3 (.tmp 16) (.const (.int .i64 (1))) 3, 4, "check.go:92", #[⟨1, .data⟩], none⟩,
    ⟨(some 18), .move (.tmp 17), 4, "check.go:92", #[⟨2, .data⟩], none⟩,
    ⟨(some 19), .fieldAddr 56 (.tmp 1) 0, 0, "check.go:92", #[⟨3, .guard⟩], (some (3, false))⟩,
    ⟨(some 20), .load 3 (.tmp 19), 3, "check.go:92", #[⟨4, .data⟩, ⟨3, .guard⟩], (some (3, false))⟩,
    ⟨(some 21), .binOp .gtr 3 (.tmp 20) (.const (.int .i64 (22))) 3, 4, "check.go:92", #[⟨5, .data⟩, ⟨3, .guard⟩], (some (3, false))⟩,
    ⟨(some 22), .pick (.tmp 18) (.const (.bool true)) (.tmp 21), 4, "check.go:92", #[⟨3, .data⟩, ⟨6, .data⟩], none⟩,
    ⟨(some 23), .move (.tmp 22), 4, "check.go:92", #[⟨7, .data⟩, ⟨3, .chain⟩], none⟩,
    ⟨(some 24), .fieldAddr 56 (.tmp 1) 3, 0, "check.go:92", #[⟨8, .guard⟩], (some (8, false))⟩,
    ⟨(some 25), .load 3 (.tmp 24), 3, "check.go:92", #[⟨9, .data⟩, ⟨8, .guard⟩], (some (8, false))⟩,
    ⟨(some 26), .binOp .neq 3 (.tmp 25) (.const (.int .i64 (0))) 3, 4, "check.go:92", #[⟨10, .data⟩, ⟨8, .guard⟩], (some (8, false))⟩,
    ⟨(some 27), .pick (.tmp 23) (.const (.bool true)) (.tmp 26), 4, "check.go:92", #[⟨8, .data⟩, ⟨11, .data⟩], none⟩,
    ⟨(some 28), .move (.tmp 27), 4, "check.go:92", #[⟨12, .data⟩, ⟨8, .chain⟩], none⟩,
    ⟨(some 29), .fieldAddr 56 (.tmp 1) 4, 0, "check.go:92", #[⟨13, .guard⟩], (some (13, false))⟩,
    ⟨(some 30), .load 3 (.tmp 29), 3, "check.go:92", #[⟨14, .data⟩, ⟨13, .guard⟩], (some (13, false))⟩,
    ⟨(some 31), .binOp .neq 3 (.tmp 30) (.const (.int .i64 (0))) 3, 4, "check.go:92", #[⟨15, .data⟩, ⟨13, .guard⟩], (some (13, false))⟩,
    ⟨(some 32), .pick (.tmp 28) (.const (.bool true)) (.tmp 31), 4, "check.go:92", #[⟨13, .data⟩, ⟨16, .data⟩], none⟩,
    ⟨(some 33), .move (.tmp 32), 4, "check.go:92", #[⟨17, .data⟩, ⟨13, .chain⟩], none⟩,
    ⟨(some 34), .fieldAddr 56 (.tmp 1) 5, 0, "check.go:92", #[⟨18, .guard⟩], (some (18, false))⟩,
    ⟨(some 35), .load 54 (.tmp 34), 54, "check.go:92", #[⟨19, .data⟩, ⟨18, .guard⟩], (some (18, false))⟩,
    ⟨(some 36), .call ⟨.builtin .len, #[(.tmp 35)], #[54]⟩, 3, "check.go:92", #[⟨20, .data⟩, ⟨18, .guard⟩], (some (18, false))⟩,
    ⟨(some 37), .fieldAddr 56 (.tmp 1) 0, 0, "check.go:92", #[⟨18, .guard⟩], (some (18, false))⟩,
    ⟨(some 38), .load 3 (.tmp 37), 3, "check.go:92", #[⟨22, .data⟩, ⟨18, .guard⟩], (some (18, false))⟩,
    ⟨(some 39), .call ⟨.value (.func 60), #[(.tmp 38)], #[3]⟩, 3, "check.go:92", #[⟨23, .data⟩, ⟨18, .chain⟩, ⟨18, .guard⟩], (some (18, false))⟩,
    ⟨(some 40), .binOp .neq 3 (.tmp 36) (.tmp 39) 3, 4, "check.go:92", #[⟨21, .data⟩, ⟨24, .data⟩, ⟨18, .guard⟩], (some (18, false))⟩,
    ⟨(some 41), .pick (.tmp 33) (.const (.bool true)) (.tmp 40), 4, "check.go:92", #[⟨18, .data⟩, ⟨25, .data⟩], none⟩,
    ⟨(some 14), .assign (.tmp 41), 4, "check.go:92", #[⟨26, .data⟩, ⟨24, .chain⟩], none⟩]) <|
  .cond (.tmp 14)
    (.seq (.region [
      ⟨.yes, (some 2), .assign (.const (.bool false)), false, false, []⟩] [2]) <|
    .ret)
    (.seq (.region [
      ⟨.yes, (some 43), .move (.tmp 3), false, false, []⟩,
      ⟨.yes, (some 44), .move (.tmp 43), true, false, []⟩,
      ⟨(.on 44 true), (some 45), .fieldAddr 56 (.tmp 1) 2, false, false, []⟩,
      ⟨(.on 44 true), (some 46), .load 9 (.tmp 45), false, false, []⟩,
      ⟨(.on 44 true), (some 47), .call ⟨.value (.func 33), #[(.tmp 46)], #[9]⟩, false, false, []⟩,
      ⟨(.on 44 true), (some 48), .unOp .not 4 (.tmp 47), false, false, []⟩,
      ⟨.yes, (some 49), .pick (.tmp 44) (.tmp 48) (.const (.bool false)), false, false, []⟩,
      ⟨.yes, (some 50), .move (.tmp 49), true, false, []⟩,
      ⟨(.on 50 false), (some 51), .move (.tmp 3), true, false, []⟩,
      ⟨(.on 50 false), (some 52), .unOp .not 4 (.tmp 51), false, false, []⟩,
      ⟨(.on 50 false), (some 53), .move (.tmp 52), true, false, []⟩,
      ⟨(.on 53 true), (some 54), .fieldAddr 56 (.tmp 1) 2, false, false, []⟩,
      ⟨(.on 53 true), (some 55), .load 9 (.tmp 54), false, false, []⟩,
      ⟨(.on 53 true), (some 56), .binOp .neq 9 (.tmp 55) (.const (.string ⟨#[]⟩)) 9, false, false, []⟩,
      ⟨(.on 50 false), (some 57), .pick (.tmp 53) (.tmp 56) (.const (.bool false)), false, false, []⟩,
      ⟨.yes, (some 58), .pick (.tmp 50) (.const (.bool true)) (.tmp 57), false, false, []⟩,
      ⟨.yes, (some 42), .assign (.tmp 58), true, false, []⟩] [1, 42]) <|
    .cond (.tmp 42)
      (.seq (.region [
        ⟨.yes, (some 2), .assign (.const (.bool false)), false, false, []⟩] [2]) <|
      .ret)
      (.seq (.region [
        ⟨.yes, (some 60), .fieldAddr 56 (.tmp 1) 0, false, false, []⟩,
        ⟨.yes, (some 61), .load 3 (.tmp 60), false, false, []⟩,
        ⟨.yes, (some 62), .binOp .eql 3 (.tmp 61) (.const (.int .i64 (1))) 3, false, false, []⟩,
        ⟨.yes, (some 63), .move (.tmp 62), true, false, []⟩,
        ⟨(.on 63 true), (some 64), .fieldAddr 56 (.tmp 1) 1, false, false, []⟩,
        ⟨(.on 63 true), (some 65), .load 3 (.tmp 64), false, false, []⟩,
        ⟨(.on 63 true), (some 66), .binOp .lss 3 (.tmp 65) (.const (.int .i64 (0))) 3, false, false, []⟩,
        ⟨.yes, (some 67), .pick (.tmp 63) (.tmp 66) (.const (.bool false)), false, false, []⟩,
        ⟨.yes, (some 68), .move (.tmp 67), true, false, []⟩,
        ⟨(.on 68 false), (some 69), .fieldAddr 56 (.tmp 1) 0, false, false, []⟩,
        ⟨(.on 68 false), (some 70), .load 3 (.tmp 69), false, false, []⟩,
        ⟨(.on 68 false), (some 71), .binOp .neq 3 (.tmp 70) (.const (.int .i64 (1))) 3, false, false, []⟩,
        ⟨(.on 68 false), (some 72), .move (.tmp 71), true, false, []⟩,
        ⟨(.on 72 true), (some 73), .fieldAddr 56 (.tmp 1) 1, false, false, []⟩,
        ⟨(.on 72 true), (some 74), .load 3 (.tmp 73), false, false, []⟩,
        ⟨(.on 72 true), (some 75), .binOp .neq 3 (.tmp 74) (.const (.int .i64 (0))) 3, false, false, []⟩,
        ⟨(.on 68 false), (some 76), .pick (.tmp 72) (.tmp 75) (.const (.bool false)), false, false, []⟩,
        ⟨.yes, (some 77), .pick (.tmp 68) (.const (.bool true)) (.tmp 76), false, false, []⟩,
        ⟨.yes, (some 59), .assign (.tmp 77), true, false, []⟩] [1, 59]) <|
      .cond (.tmp 59)
        (.seq (.region [
          ⟨.yes, (some 2), .assign (.const (.bool false)), false, false, []⟩] [2]) <|
        .ret)
        (.skip)))) <|
  .seq (.seq (.region [
    ⟨.yes, (some 78), .fieldAddr 56 (.tmp 1) 5, false, false, []⟩,
    ⟨.yes, (some 79), .load 54 (.tmp 78), false, false, [(some 6)]⟩,
    ⟨.yes, (some 80), .call ⟨.builtin .len, #[(.tmp 79)], #[54]⟩, false, false, []⟩,
    ⟨.yes, (some 81), .move (.const (.int .i64 (0))), false, false, []⟩] [79, 80, 81]) <|
  .block 1 <| .keep [79, 80, 81] <| .sum (L_expr_0 N) (.loop l_expr_0)) <|
  .seq (.region [
    ⟨.yes, (some 2), .assign (.const (.bool true)), false, false, []⟩] [2]) <|
  .ret

theorem c_expr_eq (N : Nat) : ∃ c, Tryd.f56.body = some c ∧ codeOK Tryd.f56.ntmps c = true ∧ comp Tryd.prog (ann 56) c = erase (c_expr N) := ⟨_, rfl, by kernel_rfl, by kernel_rfl⟩

theorem body_expr_0 (N : Nat) (ar : List DV) (m n : Int) : bodyT (Xx N) [79, 80, 81] [2] [(1, [])] l_expr_0 ⟨[(79, .d (.sl 6 ar)), (80, .d (.int .i64 m)), (81, .d (.int .i64 n))], []⟩ = (
    .br (decide (n < m))
 (.br (decide ((0 : Int) ≤ n))
 (.opt ((ar[(Int.toNat n)]?).bind unXp) fun y1 => .br (fitX N ⟨y1.op, y1.value, y1.name, y1.slot, y1.size, y1.args⟩)
 (.br (!(goodX N ⟨y1.op, y1.value, y1.name, y1.slot, y1.size, y1.args⟩))
 (.leaf (.ret, ⟨[(2, .d (.bool false))], []⟩))
 (.leaf (.nrm, ⟨[(79, .d (.sl 6 ar)), (80, .d (.int .i64 m)), (81, .d (.int .i64 (IntKind.i64.wrap (n + 1))))], []⟩)))
 (.fail))
 (.fail))
 (.leaf ((.ext 1), ⟨[], []⟩)) : Tr (Ex × ST)) := by kernel_rfl

theorem tree_expr (N : Nat) (ar : List DV) (nm : List UInt8) (o v sl sz : Int) : fnT (Xx N) (c_expr N) Tryd.f56.results.toList [.agg [.d (.int .i64 o), .d (.int .i64 v), .d (.str nm), .d (.int .i64 sl), .d (.int .i64 sz), .d (.sl 6 ar)]] [] = (
    .br (decide (o = 2))
 (.br (decide (o < 1))
 (.leaf (.d (.bool false), []))
 (.br (decide ((22 : Int) < o))
 (.leaf (.d (.bool false), []))
 (.br (!decide (sl = 0))
 (.leaf (.d (.bool false), []))
 (.br (!decide (sz = 0))
 (.leaf (.d (.bool false), []))
 (.br (!decide ((ar.length : Int) = (argsN o)))
 (.leaf (.d (.bool false), []))
 (.br (decide ((nm.length : Int) ≤ big))
 (.br (!(validB nm))
 (.leaf (.d (.bool false), []))
 (.br (decide (o = 1))
 (.br (decide (v < 0))
 (.leaf (.d (.bool false), []))
 (.br (!decide (o = 1))
 (.br (!decide (v = 0))
 (.leaf (.d (.bool false), []))
 (.opt (unL unXp ar) fun l1 => .br (decide ((ar.length : Int) = l1.length ∧ 0 ≤ (0 : Int) ∧ (0 : Int) ≤ (ar.length : Int) ∧ (ar.length : Int) ≤ 100000) && l1.all (fitX N))
 (.br ((l1.drop (0 : Int).toNat).all (goodX N))
 (.leaf (.d (.bool true), []))
 (.leaf (.d (.bool false), [])))
 (.fail)))
 (.opt (unL unXp ar) fun l2 => .br (decide ((ar.length : Int) = l2.length ∧ 0 ≤ (0 : Int) ∧ (0 : Int) ≤ (ar.length : Int) ∧ (ar.length : Int) ≤ 100000) && l2.all (fitX N))
 (.br ((l2.drop (0 : Int).toNat).all (goodX N))
 (.leaf (.d (.bool true), []))
 (.leaf (.d (.bool false), [])))
 (.fail))))
 (.br (!decide (o = 1))
 (.br (!decide (v = 0))
 (.leaf (.d (.bool false), []))
 (.opt (unL unXp ar) fun l3 => .br (decide ((ar.length : Int) = l3.length ∧ 0 ≤ (0 : Int) ∧ (0 : Int) ≤ (ar.length : Int) ∧ (ar.length : Int) ≤ 100000) && l3.all (fitX N))
 (.br ((l3.drop (0 : Int).toNat).all (goodX N))
 (.leaf (.d (.bool true), []))
 (.leaf (.d (.bool false), [])))
 (.fail)))
 (.opt (unL unXp ar) fun l4 => .br (decide ((ar.length : Int) = l4.length ∧ 0 ≤ (0 : Int) ∧ (0 : Int) ≤ (ar.length : Int) ∧ (ar.length : Int) ≤ 100000) && l4.all (fitX N))
 (.br ((l4.drop (0 : Int).toNat).all (goodX N))
 (.leaf (.d (.bool true), []))
 (.leaf (.d (.bool false), [])))
 (.fail)))))
 (.fail)))))))
 (.br (decide (o < 1))
 (.leaf (.d (.bool false), []))
 (.br (decide ((22 : Int) < o))
 (.leaf (.d (.bool false), []))
 (.br (!decide (sl = 0))
 (.leaf (.d (.bool false), []))
 (.br (!decide (sz = 0))
 (.leaf (.d (.bool false), []))
 (.br (!decide ((ar.length : Int) = (argsN o)))
 (.leaf (.d (.bool false), []))
 (.br (decide (o = 3))
 (.br (decide ((nm.length : Int) ≤ big))
 (.br (!(validB nm))
 (.leaf (.d (.bool false), []))
 (.br (!(decide (o = 3)))
 (.br (!decide (nm = []))
 (.leaf (.d (.bool false), []))
 (.br (decide (o = 1))
 (.br (decide (v < 0))
 (.leaf (.d (.bool false), []))
 (.br (!decide (o = 1))
 (.br (!decide (v = 0))
 (.leaf (.d (.bool false), []))
 (.opt (unL unXp ar) fun l5 => .br (decide ((ar.length : Int) = l5.length ∧ 0 ≤ (0 : Int) ∧ (0 : Int) ≤ (ar.length : Int) ∧ (ar.length : Int) ≤ 100000) && l5.all (fitX N))
 (.br ((l5.drop (0 : Int).toNat).all (goodX N))
 (.leaf (.d (.bool true), []))
 (.leaf (.d (.bool false), [])))
 (.fail)))
 (.opt (unL unXp ar) fun l6 => .br (decide ((ar.length : Int) = l6.length ∧ 0 ≤ (0 : Int) ∧ (0 : Int) ≤ (ar.length : Int) ∧ (ar.length : Int) ≤ 100000) && l6.all (fitX N))
 (.br ((l6.drop (0 : Int).toNat).all (goodX N))
 (.leaf (.d (.bool true), []))
 (.leaf (.d (.bool false), [])))
 (.fail))))
 (.br (!decide (o = 1))
 (.br (!decide (v = 0))
 (.leaf (.d (.bool false), []))
 (.opt (unL unXp ar) fun l7 => .br (decide ((ar.length : Int) = l7.length ∧ 0 ≤ (0 : Int) ∧ (0 : Int) ≤ (ar.length : Int) ∧ (ar.length : Int) ≤ 100000) && l7.all (fitX N))
 (.br ((l7.drop (0 : Int).toNat).all (goodX N))
 (.leaf (.d (.bool true), []))
 (.leaf (.d (.bool false), [])))
 (.fail)))
 (.opt (unL unXp ar) fun l8 => .br (decide ((ar.length : Int) = l8.length ∧ 0 ≤ (0 : Int) ∧ (0 : Int) ≤ (ar.length : Int) ∧ (ar.length : Int) ≤ 100000) && l8.all (fitX N))
 (.br ((l8.drop (0 : Int).toNat).all (goodX N))
 (.leaf (.d (.bool true), []))
 (.leaf (.d (.bool false), [])))
 (.fail)))))
 (.br (decide (o = 1))
 (.br (decide (v < 0))
 (.leaf (.d (.bool false), []))
 (.br (!decide (o = 1))
 (.br (!decide (v = 0))
 (.leaf (.d (.bool false), []))
 (.opt (unL unXp ar) fun l9 => .br (decide ((ar.length : Int) = l9.length ∧ 0 ≤ (0 : Int) ∧ (0 : Int) ≤ (ar.length : Int) ∧ (ar.length : Int) ≤ 100000) && l9.all (fitX N))
 (.br ((l9.drop (0 : Int).toNat).all (goodX N))
 (.leaf (.d (.bool true), []))
 (.leaf (.d (.bool false), [])))
 (.fail)))
 (.opt (unL unXp ar) fun l10 => .br (decide ((ar.length : Int) = l10.length ∧ 0 ≤ (0 : Int) ∧ (0 : Int) ≤ (ar.length : Int) ∧ (ar.length : Int) ≤ 100000) && l10.all (fitX N))
 (.br ((l10.drop (0 : Int).toNat).all (goodX N))
 (.leaf (.d (.bool true), []))
 (.leaf (.d (.bool false), [])))
 (.fail))))
 (.br (!decide (o = 1))
 (.br (!decide (v = 0))
 (.leaf (.d (.bool false), []))
 (.opt (unL unXp ar) fun l11 => .br (decide ((ar.length : Int) = l11.length ∧ 0 ≤ (0 : Int) ∧ (0 : Int) ≤ (ar.length : Int) ∧ (ar.length : Int) ≤ 100000) && l11.all (fitX N))
 (.br ((l11.drop (0 : Int).toNat).all (goodX N))
 (.leaf (.d (.bool true), []))
 (.leaf (.d (.bool false), [])))
 (.fail)))
 (.opt (unL unXp ar) fun l12 => .br (decide ((ar.length : Int) = l12.length ∧ 0 ≤ (0 : Int) ∧ (0 : Int) ≤ (ar.length : Int) ∧ (ar.length : Int) ≤ 100000) && l12.all (fitX N))
 (.br ((l12.drop (0 : Int).toNat).all (goodX N))
 (.leaf (.d (.bool true), []))
 (.leaf (.d (.bool false), [])))
 (.fail))))))
 (.fail))
 (.br (!(decide (o = 3)))
 (.br (!decide (nm = []))
 (.leaf (.d (.bool false), []))
 (.br (decide (o = 1))
 (.br (decide (v < 0))
 (.leaf (.d (.bool false), []))
 (.br (!decide (o = 1))
 (.br (!decide (v = 0))
 (.leaf (.d (.bool false), []))
 (.opt (unL unXp ar) fun l13 => .br (decide ((ar.length : Int) = l13.length ∧ 0 ≤ (0 : Int) ∧ (0 : Int) ≤ (ar.length : Int) ∧ (ar.length : Int) ≤ 100000) && l13.all (fitX N))
 (.br ((l13.drop (0 : Int).toNat).all (goodX N))
 (.leaf (.d (.bool true), []))
 (.leaf (.d (.bool false), [])))
 (.fail)))
 (.opt (unL unXp ar) fun l14 => .br (decide ((ar.length : Int) = l14.length ∧ 0 ≤ (0 : Int) ∧ (0 : Int) ≤ (ar.length : Int) ∧ (ar.length : Int) ≤ 100000) && l14.all (fitX N))
 (.br ((l14.drop (0 : Int).toNat).all (goodX N))
 (.leaf (.d (.bool true), []))
 (.leaf (.d (.bool false), [])))
 (.fail))))
 (.br (!decide (o = 1))
 (.br (!decide (v = 0))
 (.leaf (.d (.bool false), []))
 (.opt (unL unXp ar) fun l15 => .br (decide ((ar.length : Int) = l15.length ∧ 0 ≤ (0 : Int) ∧ (0 : Int) ≤ (ar.length : Int) ∧ (ar.length : Int) ≤ 100000) && l15.all (fitX N))
 (.br ((l15.drop (0 : Int).toNat).all (goodX N))
 (.leaf (.d (.bool true), []))
 (.leaf (.d (.bool false), [])))
 (.fail)))
 (.opt (unL unXp ar) fun l16 => .br (decide ((ar.length : Int) = l16.length ∧ 0 ≤ (0 : Int) ∧ (0 : Int) ≤ (ar.length : Int) ∧ (ar.length : Int) ≤ 100000) && l16.all (fitX N))
 (.br ((l16.drop (0 : Int).toNat).all (goodX N))
 (.leaf (.d (.bool true), []))
 (.leaf (.d (.bool false), [])))
 (.fail)))))
 (.br (decide (o = 1))
 (.br (decide (v < 0))
 (.leaf (.d (.bool false), []))
 (.br (!decide (o = 1))
 (.br (!decide (v = 0))
 (.leaf (.d (.bool false), []))
 (.opt (unL unXp ar) fun l17 => .br (decide ((ar.length : Int) = l17.length ∧ 0 ≤ (0 : Int) ∧ (0 : Int) ≤ (ar.length : Int) ∧ (ar.length : Int) ≤ 100000) && l17.all (fitX N))
 (.br ((l17.drop (0 : Int).toNat).all (goodX N))
 (.leaf (.d (.bool true), []))
 (.leaf (.d (.bool false), [])))
 (.fail)))
 (.opt (unL unXp ar) fun l18 => .br (decide ((ar.length : Int) = l18.length ∧ 0 ≤ (0 : Int) ∧ (0 : Int) ≤ (ar.length : Int) ∧ (ar.length : Int) ≤ 100000) && l18.all (fitX N))
 (.br ((l18.drop (0 : Int).toNat).all (goodX N))
 (.leaf (.d (.bool true), []))
 (.leaf (.d (.bool false), [])))
 (.fail))))
 (.br (!decide (o = 1))
 (.br (!decide (v = 0))
 (.leaf (.d (.bool false), []))
 (.opt (unL unXp ar) fun l19 => .br (decide ((ar.length : Int) = l19.length ∧ 0 ≤ (0 : Int) ∧ (0 : Int) ≤ (ar.length : Int) ∧ (ar.length : Int) ≤ 100000) && l19.all (fitX N))
 (.br ((l19.drop (0 : Int).toNat).all (goodX N))
 (.leaf (.d (.bool true), []))
 (.leaf (.d (.bool false), [])))
 (.fail)))
 (.opt (unL unXp ar) fun l20 => .br (decide ((ar.length : Int) = l20.length ∧ 0 ≤ (0 : Int) ∧ (0 : Int) ≤ (ar.length : Int) ∧ (ar.length : Int) ≤ 100000) && l20.all (fitX N))
 (.br ((l20.drop (0 : Int).toNat).all (goodX N))
 (.leaf (.d (.bool true), []))
 (.leaf (.d (.bool false), [])))
 (.fail))))))))))) : Tr (AV × Hp)) := by kernel_rfl


theorem sum_expr_0 (N : Nat) (h : FnOK Tryd.prog gl 56 (exprT N)) : SumOK Tryd.prog gl (ann 56) (L_expr_0 N) (.loop l_expr_0) := by
  refine SumOK.of_inv (X := Xx N) (xok_Xx N h 56) (by simp only [Sums, l_expr_0, and_true]) (by kernel_rfl) (lv := [79, 80, 81]) (rt := [2]) (xs := [(1, [])]) (by decide)
    (fun k st r => ∃ (l : List Xp) (n : Nat), n ≤ l.length ∧ (l.length : Int) ≤ 100000 ∧ l.all (fitX N) = true ∧
      st = ⟨[(79, .d (.sl 6 (l.map encXp))), (80, .d (.int .i64 (l.length : Int))), (81, .d (.int .i64 (n : Int)))], []⟩ ∧
      r = (bif (l.drop n).all (goodX N) then (.ext 1, ⟨[], []⟩) else (.ret, ⟨[(2, .d (.bool false))], []⟩)) ∧ k = l.length - n) ?_ ?_
  · intro st r h
    unfold L_expr_0 at h
    split at h
    · rename_i ar m n
      obtain ⟨l, hl, h0⟩ := Tr.opt_some h
      obtain rfl := unL_inv unXp_ok hl
      rcases Tr.br_some h0 with ⟨h1, h2⟩ | ⟨_, h2⟩
      · simp only [Bool.and_eq_true, decide_eq_true_eq] at h1
        obtain ⟨⟨rfl, h3, h4, h5⟩, h8⟩ := h1
        obtain ⟨k, rfl⟩ := Int.eq_ofNat_of_zero_le h3
        refine ⟨_, l, k, by omega, h5, h8, rfl, ?_, rfl⟩
        simp only [Int.toNat_natCast] at h2
        rcases Tr.br_some h2 with ⟨hs, h9⟩ | ⟨hs, h9⟩ <;> rw [hs] <;> exact (Tr.leaf_some h9).symm
      · exact Tr.fail_some h2
    · exact Tr.fail_some h
  · rintro k st r ⟨l, n, h1, h2, h3, rfl, rfl, rfl⟩
    rw [body_expr_0]
    cases hb : l[n]? with
    | none =>
      have hl : l.length ≤ n := by simpa using hb
      have he : l.drop n = [] := List.drop_eq_nil_of_le hl
      refine ⟨.ext 1, _, Tr.dec_no (by omega) rfl, .inl ⟨by simp, by rw [he]; rfl⟩⟩
    | some v =>
      have hl := (List.getElem?_eq_some_iff.1 hb).1
      have hfit : fitX N v = true := (List.all_eq_true.1 h3) v (List.mem_of_getElem? hb)
      have hdr : l.drop n = v :: l.drop (n + 1) := by
        rw [List.drop_eq_getElem_cons hl]; congr 1; exact (List.getElem?_eq_some_iff.1 hb).2
      have hw : IntKind.i64.wrap ((n : Int) + 1) = ((n + 1 : Nat) : Int) := by rw [wrap_in] <;> omega
      have hat : ((l.map encXp)[(Int.toNat (n : Int))]?).bind unXp = some v := by simp [hb, unXp_enc]
      cases hg : goodX N v with
      | false =>
        refine ⟨.ret, _, Tr.dec_yes (by omega) (Tr.dec_yes (by omega) (Tr.opt_to hat ((Tr.run_yes hfit).trans ((Tr.run_yes (by show (!goodX N v) = true; rw [hg]; rfl)).trans rfl)))), .inl ⟨by simp, ?_⟩⟩
        rw [hdr, List.all_cons, hg]; rfl
      | true =>
        refine ⟨.nrm, ⟨[(79, .d (.sl 6 (l.map encXp))), (80, .d (.int .i64 (l.length : Int))), (81, .d (.int .i64 ((n + 1 : Nat) : Int)))], []⟩,
          Tr.dec_yes (by omega) (Tr.dec_yes (by omega) (Tr.opt_to hat ((Tr.run_yes hfit).trans ((Tr.run_no (by show (!goodX N v) = false; rw [hg]; rfl)).trans ?_)))),
          .inr ⟨rfl, _, ?_, l, n + 1, by omega, h2, h3, rfl, ?_, rfl⟩⟩
        · rw [hw]; rfl
        · omega
        · rw [hdr, List.all_cons, hg, Bool.true_and]

theorem ok_expr : ∀ N : Nat, FnOK Tryd.prog gl 56 (exprT N)
  | 0 => by
    refine ⟨⟨_, Tryd.func56, rfl⟩, fun ar H v H' h => ?_⟩
    unfold exprT at h
    split at h
    · exact Tr.fail_some h
    · exact Tr.fail_some h
  | N + 1 => by
    have ih := ok_expr N
    refine fn_of (X := Xx N) (xok_Xx N ih 56) Tryd.func56 (c_expr_eq N) (by kernel_rfl) (by simp only [Sums, c_expr, and_true, true_and]; exact sum_expr_0 N ih) ?_
    intro ar H r h
    unfold exprT at h
    split at h
    · rename_i o v nm sl sz ar
      rw [tree_expr]
      rcases Tr.br_some h with ⟨h1, h2⟩ | ⟨_, h2⟩
      · obtain rfl := Tr.leaf_some h2
        unfold fitX at h1
        split at h1
        · rename_i l hl
          simp only [Bool.and_eq_true, decide_eq_true_eq] at h1
          obtain ⟨⟨h3, h4⟩, h5⟩ := h1
          have hl' : unL unXp ar = some l := hl
          have hlen : ar.length = l.length := by rw [unL_inv unXp_ok hl', List.length_map]
          have hbig : (nm.length : Int) ≤ big := by have h6 : (nm.length : Int) ≤ 100000 := h4; unfold big; omega
          have hgd : goodX (N + 1) ⟨o, v, nm, sl, sz, ar⟩ = (headX ⟨o, v, nm, sl, sz, ar⟩ && l.all (goodX N)) := by simp only [goodX, hl']
          rw [hgd]
          unfold headX
          dsimp only
          generalize argsN o = q
          have hle : ((l.length : Nat) : Int) ≤ 100000 := h3
          by_cases a1 : o < 1
          · by_cases a6 : o = 2
            · omega
            · simp [Tr.run_br, Tr.run_leaf, a1, a6]
          by_cases a2 : 22 < o
          · by_cases a6 : o = 2
            · omega
            · simp [Tr.run_br, Tr.run_leaf, a1, a2, a6]
          by_cases a3 : ¬ sl = 0
          · by_cases a6 : o = 2 <;> simp [Tr.run_br, Tr.run_leaf, a1, a2, a3, a6]
          replace a3 : sl = 0 := Decidable.not_not.1 a3
          by_cases a4 : ¬ sz = 0
          · by_cases a6 : o = 2 <;> simp [Tr.run_br, Tr.run_leaf, a1, a2, a3, a4, a6]
          replace a4 : sz = 0 := Decidable.not_not.1 a4
          by_cases a5 : ¬ (ar.length : Int) = q
          · by_cases a6 : o = 2 <;> simp [Tr.run_br, Tr.run_leaf, a1, a2, a3, a4, a5, a6]
          replace a5 : (ar.length : Int) = q := Decidable.not_not.1 a5
          have hb0 : (0 : Int) ≤ big := by unfold big; omega
          have hb1 : ¬ big < 0 := by omega
          have hv0 : validB [] = false := rfl
          have e5 : (l.length : Int) = q := by omega
          have hq0 : 0 ≤ q := by omega
          have hq1 : q ≤ 100000 := by omega
          cases hall : l.all (goodX N) <;> cases hv : validB nm <;>
          by_cases a6 : o = 2 <;> by_cases a7 : o = 3 <;> by_cases a8 : nm = [] <;> by_cases a9 : o = 1 <;> by_cases a10 : v < 0 <;> by_cases a11 : v = 0 <;>
          first
            | omega
            | (simp [Tr.run_br, Tr.run_leaf, Tr.run_opt_, hl', hlen, hle, h5, hbig, hb0, hb1, hv0, hq0, hq1, hall, hv, a1, a2, a3, a4, a5, e5, a6, a7, a8, a9, a10, a11])
        · simp at h1
      · exact Tr.fail_some h2
    · exact Tr.fail_some h
end Go.AI.RD
