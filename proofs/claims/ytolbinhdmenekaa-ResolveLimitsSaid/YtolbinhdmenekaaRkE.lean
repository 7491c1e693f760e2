/- resolve.Resolve's loops, and the whole. -/
import Derived.Test.YtolbinhdmenekaaRkD
namespace Go.AI.RK
open Go Go.Proofs
set_option maxRecDepth 10000
set_option linter.unusedVariables false
set_option linter.unusedSimpArgs false

def same (nm : List UInt8) (d : List Var) : Bool := d.any fun u => decide (u.name = nm)

theorem eqK_str (a b : List UInt8) : eqK (.str a) (.str b) = decide (b = a) := by
  simp only [eqK]
  by_cases h : a = b
  · simp [h]
  · have h' : ¬ b = a := fun e => h e.symm
    simp [h, h']

theorem hasM_kss (nm : List UInt8) : ∀ d : List Var, hasM (.str nm) (kss d) = same nm d
  | [] => rfl
  | u :: d => by
    show (eqK (.str nm) (.str u.name) || hasM (.str nm) (kss d)) = _
    rw [hasM_kss nm d, eqK_str]; rfl

theorem findM_kss (a : List Var) (nm : List UInt8) : ∀ d : List Var, same nm d = true → ∃ u : Var, findM (.str nm) (kss d) (vss a d) = some (plcOf (lk (lookG a u.name 0)))
  | [], h => by simp [same] at h
  | u :: d, h => by
    show ∃ u', (bif eqK (.str nm) (.str u.name) then some (plcOf (lk (lookG a u.name 0))) else findM (.str nm) (kss d) (vss a d)) = _
    rw [eqK_str]
    by_cases hu : u.name = nm
    · exact ⟨u, by simp [hu]⟩
    · obtain ⟨u', h1⟩ := findM_kss a nm d (by simpa [same, hu] using h)
      exact ⟨u', by simp [hu, h1]⟩

theorem setK_kss (nm : List UInt8) : ∀ d : List Var, same nm d = false → setK (.str nm) (kss d) = kss d ++ [.str nm]
  | [], _ => rfl
  | u :: d, h => by
    simp only [same, List.any_cons, Bool.or_eq_false_iff] at h
    show (bif eqK (.str nm) (.str u.name) then _ else DV.str u.name :: setK (.str nm) (kss d)) = _
    rw [eqK_str, h.1, cond_false, setK_kss nm d h.2]; rfl

theorem setV_kss (a : List Var) (nm : List UInt8) (x : AV) : ∀ d : List Var, same nm d = false → setV (.str nm) x (kss d) (vss a d) = vss a d ++ [x]
  | [], _ => rfl
  | u :: d, h => by
    simp only [same, List.any_cons, Bool.or_eq_false_iff] at h
    show (bif eqK (.str nm) (.str u.name) then _ else plcOf (lk (lookG a u.name 0)) :: setV (.str nm) x (kss d) (vss a d)) = _
    rw [eqK_str, h.1, cond_false, setV_kss a nm x d h.2]; rfl

theorem kss_snoc (d : List Var) (v : Var) : kss (d ++ [v]) = kss d ++ [.str v.name] := by simp [kss]
theorem vss_snoc (a d : List Var) (v : Var) : vss a (d ++ [v]) = vss a d ++ [plcOf (lk (lookG a v.name 0))] := by simp [vss]

def nilC : List AV := [.osl 1 [], .osl 18 [], .osl 18 [], .osl 18 [], .osl 18 []]
def hpF (ks : List DV) (vs : List AV) : Hp := [[.mpb .str ks vs], [.mp 0, .d (.bool false), .d (.bool false)]]

theorem maxI1 (z : Int) : (if z < 1 then 1 else z) = max z 1 := by split <;> omega



theorem sum_resolve_0 : SumOK Try.prog gl (ann 9) L_resolve_0 (.loop l_resolve_0) := by
  refine SumOK.of_inv (X := Xrs) (xok_Xrs 9) (by simp only [Sums, l_resolve_0, and_true]) (by kernel_rfl) (lv := [1, 2, 5, 31, 32, 33]) (rt := [2, 3]) (xs := [(0, [1, 2, 5])]) (by decide)
    (fun k st r => ∃ (l d : List Var) (n : Nat), n ≤ l.length ∧ (l.length : Int) ≤ big ∧
      st = ⟨[(1, .box (prog0 (l.map encVar))), (2, .box nilC), (5, .hp 1 0), (31, .d (.sl 3 (l.map encVar))), (32, .d (.int .i64 (l.length : Int))), (33, .d (.int .i64 (n : Int)))], hpF (kss d) (vss l d)⟩ ∧
      r = (bif dupB d (l.drop n) then (.ret, ⟨[(2, .box nilC), (3, .d (.int .i64 2))], hpF (kss (pref d (l.drop n))) (vss l (pref d (l.drop n)))⟩)
        else (.ext 0, ⟨[(1, .box (prog0 (l.map encVar))), (2, .box nilC), (5, .hp 1 0)], hpF (kss (pref d (l.drop n))) (vss l (pref d (l.drop n)))⟩)) ∧ k = l.length - n) ?_ ?_
  · intro st r h
    unfold L_resolve_0 at h
    split at h
    · rename_i xs ys m n
      obtain ⟨l, hl, h0⟩ := Tr.opt_some h
      obtain rfl := unL_inv unVar_ok hl
      obtain ⟨q, hq, h0⟩ := Tr.opt_some h0
      obtain rfl := unL_inv unVar_ok hq
      rcases Tr.br_some h0 with ⟨h1, h2⟩ | ⟨_, h2⟩
      · obtain ⟨rfl, rfl, h5, rfl⟩ := of_decide_eq_true h1
        refine ⟨_, l, [], 0, by omega, h5, rfl, ?_, rfl⟩
        rw [List.drop_zero]
        rcases Tr.br_some h2 with ⟨hs, h8⟩ | ⟨hs, h8⟩ <;> rw [hs] <;> exact (Tr.leaf_some h8).symm
      · exact Tr.fail_some h2
    · exact Tr.fail_some h
  · rintro k st r ⟨l, d, n, h1, h2, rfl, rfl, rfl⟩
    unfold prog0 nilC hpF
    rw [body_resolve_0]
    cases hb : l[n]? with
    | none =>
      have hl : l.length ≤ n := by simpa using hb
      have he : l.drop n = [] := List.drop_eq_nil_of_le hl
      refine ⟨.ext 0, _, ?_, .inl ⟨by simp, by rw [he]; rfl⟩⟩
      have h5 : ¬ ((n : Int) < l.length) := by omega
      simp [Tr.run_br, Tr.run_leaf, h5, pref]
    | some v =>
      have hl := at_len hb
      have h5 : ((n : Int) < l.length) := by omega
      rw [vdrop hb]
      cases hs : same v.name d with
      | true =>
        obtain ⟨u, hu⟩ := findM_kss l v.name d hs
        have hh := hasM_kss v.name d
        rw [hs] at hh
        have e1 : dupB d (v :: l.drop (n + 1)) = true := by simp only [dupB]; rw [if_pos]; exact hs
        have e2 : pref d (v :: l.drop (n + 1)) = d := by simp only [pref]; rw [if_pos]; exact hs
        refine ⟨.ret, _, ?_, .inl ⟨by simp, by rw [e1, e2]; rfl⟩⟩
        simp [Tr.run_br, Tr.run_leaf, Tr.run_opt_, h5, unVar_enc, hb, hh, hu, plcOf, deAV, deDs, unPlc]
      | false =>
        have hh := hasM_kss v.name d
        rw [hs] at hh
        have e1 : dupB d (v :: l.drop (n + 1)) = dupB (d ++ [v]) (l.drop (n + 1)) := by
          simp only [dupB]; rw [if_neg]; rw [show (d.any fun u => decide (u.name = v.name)) = same v.name d from rfl, hs]; simp
        have e2 : pref d (v :: l.drop (n + 1)) = pref (d ++ [v]) (l.drop (n + 1)) := by
          simp only [pref]; rw [if_neg]; rw [show (d.any fun u => decide (u.name = v.name)) = same v.name d from rfl, hs]; simp
        have h8 : IntKind.i64.wrap ((n : Int) + 1) = ((n + 1 : Nat) : Int) := by unfold big at h2; rw [wrap_in] <;> omega
        refine ⟨.nrm, ⟨[(1, .box (prog0 (l.map encVar))), (2, .box nilC), (5, .hp 1 0), (31, .d (.sl 3 (l.map encVar))), (32, .d (.int .i64 (l.length : Int))), (33, .d (.int .i64 ((n + 1 : Nat) : Int)))], hpF (kss (d ++ [v])) (vss l (d ++ [v]))⟩, ?_,
          .inr ⟨rfl, _, ?_, l, d ++ [v], n + 1, by omega, h2, rfl, by rw [e1, e2], rfl⟩⟩
        · have hk := setK_kss v.name d hs
          have hv := setV_kss l v.name (plcOf (lk (lookG l v.name 0))) d hs
          unfold plcOf at hv
          rw [kss_snoc, vss_snoc]
          unfold prog0 nilC hpF plcOf
          rw [← hk, ← hv]
          have hun := unL_map (un := unVar) (enc := encVar) unVar_enc l
          simp only [h8]
          simp [Tr.run_br, Tr.run_leaf, Tr.run_opt_, h5, unVar_enc, hb, hh, hun, h2]
        · omega

theorem ini_cons (v : Var) (l : List Var) : ini (v :: l) = iniOf v ++ ini l := rfl
theorem iniOf_len (v : Var) : (iniOf v).length = (max v.size 1).toNat := by simp [iniOf]; omega

theorem sum_resolve_1 : SumOK Try.prog gl (ann 9) L_resolve_1 (.loop l_resolve_1) := by
  refine SumOK.of_inv (X := Xrs) (xok_Xrs 9) (by
      simp only [Sums, l_resolve_1, and_true, true_and]
      exact poke_sum (T := 36) (S := 34) (I := 3) (V := 25) (c := 13) (n := 16) (x := 15) (d0 := 86) ⟨rfl, rfl, rfl, rfl, rfl, rfl, rfl, rfl, rfl, rfl⟩ (by decide) (by decide) (by decide) (by decide) (by decide) (by decide) (by rfl)) (by kernel_rfl) (lv := [1, 2, 5, 13, 65, 66, 67]) (rt := [2, 3]) (xs := [(2, [1, 2, 5, 13])]) (by decide)
    (fun k st r => ∃ (xs ks is : List DV) (vs : List AV) (l : List Var) (n : Nat), n ≤ l.length ∧ (l.length : Int) ≤ big ∧ is.length ≤ 32 ∧
      st = ⟨[(1, .box (prog0 xs)), (2, .box nilC), (5, .hp 1 0), (13, .box [.osl 1 is, .osl 18 [], .osl 18 [], .osl 18 [], .osl 18 []]), (65, .d (.sl 3 (l.map encVar))), (66, .d (.int .i64 (l.length : Int))), (67, .d (.int .i64 (n : Int)))], hpF ks vs⟩ ∧
      r = (bif many is.length (l.drop n) then (.ret, ⟨[(2, .box nilC), (3, .d (.int .i64 4))], hpF ks vs⟩)
        else (.ext 2, ⟨[(1, .box (prog0 xs)), (2, .box nilC), (5, .hp 1 0), (13, .box [.osl 1 (is ++ ini (l.drop n)), .osl 18 [], .osl 18 [], .osl 18 [], .osl 18 []])], hpF ks vs⟩)) ∧ k = l.length - n) ?_ ?_
  · intro st r h
    unfold L_resolve_1 at h
    split at h
    · rename_i xs ys m n ks vs
      obtain ⟨l, hl, h0⟩ := Tr.opt_some h
      obtain rfl := unL_inv unVar_ok hl
      rcases Tr.br_some h0 with ⟨h1, h2⟩ | ⟨_, h2⟩
      · obtain ⟨rfl, rfl, h5⟩ := of_decide_eq_true h1
        refine ⟨_, xs, ks, [], vs, l, 0, by omega, h5, by simp, rfl, ?_, rfl⟩
        rw [List.drop_zero]
        simp only [List.length_nil, Int.natCast_zero, List.nil_append]
        rcases Tr.br_some h2 with ⟨hs, h8⟩ | ⟨hs, h8⟩ <;> rw [hs] <;> exact (Tr.leaf_some h8).symm
      · exact Tr.fail_some h2
    · exact Tr.fail_some h
  · rintro k st r ⟨xs, ks, is, vs, l, n, h1, h2, h3, rfl, rfl, rfl⟩
    unfold prog0 nilC hpF
    rw [body_resolve_1]
    cases hb : l[n]? with
    | none =>
      have hl : l.length ≤ n := by simpa using hb
      have he : l.drop n = [] := List.drop_eq_nil_of_le hl
      refine ⟨.ext 2, _, ?_, .inl ⟨by simp, by rw [he]; rfl⟩⟩
      have h5 : ¬ ((n : Int) < l.length) := by omega
      simp [Tr.run_br, Tr.run_leaf, h5, ini]
    | some v =>
      have hl := at_len hb
      have h5 : ((n : Int) < l.length) := by omega
      have hw : IntKind.i64.wrap (32 - (is.length : Int)) = 32 - (is.length : Int) := by rw [wrap_in] <;> omega
      rw [vdrop hb]
      simp only [maxI1, hw]
      by_cases h6 : 32 - (is.length : Int) < max v.size 1
      · refine ⟨.ret, _, ?_, .inl ⟨by simp, by simp only [many, if_pos h6]; rfl⟩⟩
        simp [Tr.run_br, Tr.run_leaf, Tr.run_opt_, h5, unVar_enc, hb, h6]
      · have h8 : IntKind.i64.wrap ((n : Int) + 1) = ((n + 1 : Nat) : Int) := by unfold big at h2; rw [wrap_in] <;> omega
        have h9 : (0 : Int) < max v.size 1 := by omega
        have h10 : (is.length + (max v.size 1).toNat) * 8 ≤ 70368744177664 := by omega
        have h11 : is.length + (max v.size 1).toNat ≤ 4611686018427387904 := by omega
        have hil : (((is ++ iniOf v).length : Nat) : Int) = is.length + max v.size 1 := by rw [List.length_append, iniOf_len]; omega
        refine ⟨.nrm, ⟨[(1, .box (prog0 xs)), (2, .box nilC), (5, .hp 1 0), (13, .box [.osl 1 (is ++ iniOf v), .osl 18 [], .osl 18 [], .osl 18 [], .osl 18 []]), (65, .d (.sl 3 (l.map encVar))), (66, .d (.int .i64 (l.length : Int))), (67, .d (.int .i64 ((n + 1 : Nat) : Int)))], hpF ks vs⟩, ?_,
          .inr ⟨rfl, _, ?_, xs, ks, is ++ iniOf v, vs, l, n + 1, by omega, h2, by omega, rfl, ?_, rfl⟩⟩
        · simp only [h8]
          simp [Tr.run_br, Tr.run_leaf, Tr.run_opt_, h5, unVar_enc, hb, h6, h9, h10, h11, iniOf, prog0, nilC, hpF]
        · omega
        · rw [hil, ini_cons, List.append_assoc]
          simp only [many, if_neg h6]

/-- Resolve's answer for declarations alone: the error and the initial values. -/
def resE (l : List Var) : Int × List DV :=
  if chk l = 0 then (if 16 < (l.length : Int) then (4, []) else if dupB [] l then (2, []) else if many 0 l then (4, []) else (0, ini l)) else (chk l, [])

def resolveT : FT
  | [.agg [.d (.sl 3 xs), .d (.sl 18 []), .d (.sl 18 []), .d (.sl 18 []), .d (.sl 18 [])]], [] => .opt (unL unVar xs) fun l => .br (decide ((l.length : Int) ≤ big) && short l) (.leaf (.tup [.agg [.d (.sl 1 (resE l).2), .d (.sl 18 []), .d (.sl 18 []), .d (.sl 18 []), .d (.sl 18 [])], .d (.int .i64 (resE l).1)], [])) .fail
  | _, _ => .fail


/-- The same, with the shared heap as it is left. -/
def resolveT0 : FT
  | [.agg [.d (.sl 3 xs), .d (.sl 18 []), .d (.sl 18 []), .d (.sl 18 []), .d (.sl 18 [])]], [] => .opt (unL unVar xs) fun l => .br (decide ((l.length : Int) ≤ big) && short l)
      (.leaf (.tup [.agg [.d (.sl 1 (resE l).2), .d (.sl 18 []), .d (.sl 18 []), .d (.sl 18 []), .d (.sl 18 [])], .d (.int .i64 (resE l).1)],
        if chk l = 0 ∧ ¬ 16 < (l.length : Int) then hpF (kss (pref [] l)) (vss l (pref [] l)) else [])) .fail
  | _, _ => .fail

theorem ok_resolve0 : FnOK Try.prog gl 9 resolveT0 := by
  refine fn_of (X := Xrs) (xok_Xrs 9) Try.func9 c_resolve_eq (by kernel_rfl) (by simp only [Sums, c_resolve, and_true, true_and]; exact ⟨sum_resolve_0, sum_resolve_1⟩) ?_
  intro xs H o h
  unfold resolveT0 at h
  split at h
  · rename_i xs
    rw [tree_resolve]
    obtain ⟨l, hl, h⟩ := Tr.opt_some h
    rcases Tr.br_some h with ⟨h1, h2⟩ | ⟨_, h2⟩
    · obtain rfl := Tr.leaf_some h2
      have h3 := h1
      simp only [Bool.and_eq_true, decide_eq_true_eq] at h3
      obtain ⟨h4, h5⟩ := h3
      have hlen : xs.length = l.length := by rw [unL_inv unVar_ok hl, List.length_map]
      refine Tr.opt_to hl ?_
      unfold resE
      by_cases h6 : chk l = 0
      · by_cases h7 : 16 < (l.length : Int)
        · simp [Tr.run_br, Tr.run_leaf, h4, h5, h6, h7, hlen]
        · cases h8 : dupB [] l with
          | true => simp [Tr.run_br, Tr.run_leaf, Tr.run_opt_, h4, h5, h6, h7, h8, hlen, hl, hpF]
          | false =>
            cases h9 : many 0 l <;> simp [Tr.run_br, Tr.run_leaf, Tr.run_opt_, h4, h5, h6, h7, h8, h9, hlen, hl, hpF]
      · simp [Tr.run_br, Tr.run_leaf, h4, h5, h6]
    · exact Tr.fail_some h2
  · exact Tr.fail_some h

theorem ok_resolve : FnOK Try.prog gl 9 resolveT := by
  refine ok_resolve0.drop fun ar H v H' h => ?_
  unfold resolveT at h
  split at h
  · rename_i xs
    obtain ⟨l, hl, h⟩ := Tr.opt_some h
    rcases Tr.br_some h with ⟨h1, h2⟩ | ⟨_, h2⟩
    · obtain ⟨rfl, rfl⟩ := Prod.mk.inj (Tr.leaf_some h2)
      refine ⟨rfl, rfl, rfl, (if chk l = 0 ∧ ¬ 16 < (l.length : Int) then hpF (kss (pref [] l)) (vss l (pref [] l)) else []), ?_⟩
      unfold resolveT0
      exact Tr.opt_to hl (by rw [Tr.run_yes h1]; rfl)
    · exact Tr.fail_some h2
  · exact Tr.fail_some h

noncomputable abbrev Xaw : TX := ⟨Try.prog, tbl [(9, resolveT), (7, lookupT)], iso, gl, vw⟩

theorem xok_Xaw (f : Nat) : XOK Xaw (ann f) gl := XOK.of base (l := [(9, resolveT), (7, lookupT)]) ⟨ok_resolve, ok_lookup, trivial⟩ f

def awakeT : FT
  | [], [] => .leaf (.d (.bool true), [])
  | _, _ => .fail

/-- rollbacknet/rollbacknetlaw03.awake -/
def c_awake : CC := .seq (.region [
    ⟨.yes, (some 0), .assign (.const (.bool false)), false, false, []⟩] []) <|
  .seq (.region [
    ⟨.yes, (some 7), .build 25 #[(0, (.const (.string ⟨#[120]⟩))), (2, (.const (.int .i64 (3))))], false, false, []⟩,
    ⟨.yes, (some 8), .build 25 #[(0, (.const (.string ⟨#[97]⟩))), (1, (.const (.int .i64 (2))))], false, false, []⟩,
    ⟨.yes, (some 9), .build 25 #[(0, (.const (.string ⟨#[121]⟩)))], false, false, []⟩,
    ⟨.yes, (some 10), .buildSlice 22 3 #[(0, (.tmp 7)), (1, (.tmp 8)), (2, (.tmp 9))], false, false, [(some 3)]⟩,
    ⟨.yes, (some 11), .build 32 #[(0, (.tmp 10))], true, false, [(some 3), (some 18), (some 18), (some 18), (some 18)]⟩,
    ⟨.yes, (some 1), .alloc 32, false, false, []⟩,
    ⟨.yes, none, .store 32 (.tmp 1) (.tmp 11), true, false, []⟩] [1]) <|
  .seq (.region [
    ⟨.yes, (some 13), .load 32 (.tmp 1), false, false, [(some 3), (some 18), (some 18), (some 18), (some 18)]⟩,
    ⟨.yes, (some 14), .call ⟨.value (.func 9), #[(.tmp 13)], #[32]⟩, false, false, []⟩,
    ⟨.yes, (some 12), .move (.tmp 14), true, false, []⟩,
    ⟨.yes, (some 15), .extract (.tmp 12) 0, false, false, [(some 1), (some 18), (some 18), (some 18), (some 18)]⟩,
    ⟨.yes, (some 16), .extract (.tmp 12) 1, false, false, []⟩,
    ⟨.yes, (some 2), .alloc 36, false, false, []⟩,
    ⟨.yes, none, .store 36 (.tmp 2) (.tmp 15), true, false, []⟩,
    ⟨.yes, (some 3), .assign (.tmp 16), true, false, []⟩] [1, 2, 3]) <|
  .seq (.region [
    ⟨.yes, (some 18), .fieldAddr 32 (.tmp 1) 0, false, false, []⟩,
    ⟨.yes, (some 19), .load 22 (.tmp 18), false, false, [(some 3)]⟩,
    ⟨.yes, (some 20), .call ⟨.value (.func 7), #[(.tmp 19), (.const (.string ⟨#[121]⟩))], #[22, 9]⟩, false, false, []⟩,
    ⟨.yes, (some 17), .move (.tmp 20), true, false, []⟩,
    ⟨.yes, (some 21), .extract (.tmp 17) 0, false, false, []⟩,
    ⟨.yes, (some 22), .extract (.tmp 17) 1, false, false, []⟩,
    ⟨.yes, (some 23), .extract (.tmp 17) 2, false, false, []⟩,
    ⟨.yes, (some 4), .assign (.tmp 21), true, false, []⟩,
    ⟨.yes, (some 5), .assign (.tmp 22), true, false, []⟩,
    ⟨.yes, (some 6), .assign (.tmp 23), true, false, []⟩] [2, 3, 4, 6]) <|
  .seq (.region [
    ⟨.yes, (some 24), .move (.tmp 3), true, false, []⟩,
    ⟨.yes, (some 25), .binOp .eql 33 (.tmp 24) (.const (.int .i64 (0))) 33, false, false, []⟩,
    ⟨.yes, (some 26), .move (.tmp 25), true, false, []⟩,
    ⟨(.on 26 true), (some 27), .fieldAddr 36 (.tmp 2) 0, false, false, []⟩,
    ⟨(.on 26 true), (some 28), .load 34 (.tmp 27), false, false, [(some 1)]⟩,
    ⟨(.on 26 true), (some 29), .call ⟨.builtin .len, #[(.tmp 28)], #[34]⟩, false, false, []⟩,
    ⟨(.on 26 true), (some 30), .binOp .eql 3 (.tmp 29) (.const (.int .i64 (4))) 3, false, false, []⟩,
    ⟨.yes, (some 31), .pick (.tmp 26) (.tmp 30) (.const (.bool false)), false, false, []⟩,
    ⟨.yes, (some 32), .move (.tmp 31), true, false, []⟩,
    ⟨(.on 32 true), (some 33), .fieldAddr 36 (.tmp 2) 0, false, false, []⟩,
    ⟨(.on 32 true), (some 34), .load 34 (.tmp 33), false, false, [(some 1)]⟩,
    ⟨(.on 32 true), (some 35), .indexAddr 34 (.tmp 34) (.const (.int .i64 (0))), false, false, []⟩,
    ⟨(.on 32 true), (some 36), .load 3 (.tmp 35), false, false, []⟩,
    ⟨(.on 32 true), (some 37), .binOp .eql 3 (.tmp 36) (.const (.int .i64 (3))) 3, false, false, []⟩,
    ⟨.yes, (some 38), .pick (.tmp 32) (.tmp 37) (.const (.bool false)), false, false, []⟩,
    ⟨.yes, (some 39), .move (.tmp 38), true, false, []⟩,
    ⟨(.on 39 true), (some 40), .move (.tmp 6), true, false, []⟩,
    ⟨.yes, (some 41), .pick (.tmp 39) (.tmp 40) (.const (.bool false)), false, false, []⟩,
    ⟨.yes, (some 42), .move (.tmp 41), true, false, []⟩,
    ⟨(.on 42 true), (some 43), .move (.tmp 4), true, false, []⟩,
    ⟨(.on 42 true), (some 44), .binOp .eql 3 (.tmp 43) (.const (.int .i64 (3))) 3, false, false, []⟩,
    ⟨.yes, (some 45), .pick (.tmp 42) (.tmp 44) (.const (.bool false)), false, false, []⟩,
    ⟨.yes, (some 0), .assign (.tmp 45), true, false, []⟩] [0]) <|
  .ret

theorem c_awake_eq : ∃ c, Try.f5.body = some c ∧ codeOK Try.f5.ntmps c = true ∧ comp Try.prog (ann 5) c = erase c_awake := ⟨_, rfl, by kernel_rfl, by kernel_rfl⟩

theorem tree_awake : fnT Xaw c_awake Try.f5.results.toList [] [] = (
    .opt (unL unVar ([(.agg [(.str [120]), (.int .i64 0), (.int .i64 3)]), (.agg [(.str [97]), (.int .i64 2), (.int .i64 0)]), (.agg [(.str [121]), (.int .i64 0), (.int .i64 0)])] : List DV)) fun l1 => .br (decide ((l1.length : Int) ≤ big) && short l1)
    (.opt (unL unVar ([(.agg [(.str [120]), (.int .i64 0), (.int .i64 3)]), (.agg [(.str [97]), (.int .i64 2), (.int .i64 0)]), (.agg [(.str [121]), (.int .i64 0), (.int .i64 0)])] : List DV)) fun l2 => .br (decide ((l2.length : Int) ≤ big))
      (.br (decide (((resE l1).1) = 0))
        (.br (decide ((((resE l1).2).length : Int) = 4))
          (.br (decide ((0 : Int) ≤ 0))
            (.opt ((((resE l1).2)[0]?).bind (unInt .i64)) fun y3 => .br (decide (y3 = 3))
              (.br ((lk (lookG l2 ([121] : List UInt8) 0)).2.2)
                (.leaf ((.d (.bool (decide (((lk (lookG l2 ([121] : List UInt8) 0)).1) = 3)))), []))
                (.leaf ((.d (.bool false)), [])))
              (.leaf ((.d (.bool false)), [])))
            (.fail))
          (.leaf ((.d (.bool false)), [])))
        (.leaf ((.d (.bool false)), [])))
      (.fail))
    (.fail) : Tr (AV × Hp)) := by kernel_rfl

theorem ok_awake : FnOK Try.prog gl 5 awakeT := by
  refine fn_of (X := Xaw) (xok_Xaw 5) Try.func5 c_awake_eq (by kernel_rfl) (by simp only [Sums, c_awake, and_true]) ?_
  intro xs H o h
  unfold awakeT at h
  split at h
  · rw [tree_awake]
    obtain rfl := Tr.leaf_some h
    kernel_rfl
  · exact Tr.fail_some h

end Go.AI.RK
