/- rollbacknetlaw03.other and rename, in sum. -/
import Derived.Test.YtolbinhdmenekaaDoorDsA
namespace Go.AI.RD
open Go Go.Proofs
set_option maxRecDepth 10000
set_option linter.unusedVariables false
set_option linter.unusedSimpArgs false

def npre (nm : List UInt8) : List UInt8 := if nm = [] then [] else [110, 95] ++ nm
def rnX : Nat → Xp → Xp
  | 0, e => e
  | n + 1, e => match unL unXp e.args with
    | some l => ⟨e.op, e.value, npre e.name, e.slot, e.size, (l.map (rnX n)).map encXp⟩
    | none => e
theorem rnX_eq {n : Nat} {o v : Int} {nm : List UInt8} {sl sz : Int} {l : List Xp} : rnX (n + 1) ⟨o, v, nm, sl, sz, l.map encXp⟩ = ⟨o, v, npre nm, sl, sz, (l.map (rnX n)).map encXp⟩ := by
  have hu : unL unXp (l.map encXp) = some l := unL_map (un := unXp) (enc := encXp) unXp_enc l
  simp only [rnX, hu]

def otherT (N : Nat) : FT
  | [.agg [.d (.int .i64 o), .d (.int .i64 v), .d (.str nm), .d (.int .i64 sl), .d (.int .i64 sz), .d (.sl 6 ar)]], [] => .br (fitX N ⟨o, v, nm, sl, sz, ar⟩) (.leaf (.agg [.d (.int .i64 (rnX N ⟨o, v, nm, sl, sz, ar⟩).op), .d (.int .i64 (rnX N ⟨o, v, nm, sl, sz, ar⟩).value), .d (.str (rnX N ⟨o, v, nm, sl, sz, ar⟩).name), .d (.int .i64 (rnX N ⟨o, v, nm, sl, sz, ar⟩).slot), .d (.int .i64 (rnX N ⟨o, v, nm, sl, sz, ar⟩).size), .d (.sl 6 (rnX N ⟨o, v, nm, sl, sz, ar⟩).args)], [])) .fail
  | _, _ => .fail

def L_other_0 (N : Nat) : ST → Tr (Ex × ST)
  | ⟨[(1, .box [.d (.int .i64 o), .d (.int .i64 v), .d (.str nm), .d (.int .i64 sl), .d (.int .i64 sz), .d (.sl 6 ar)]), (2, .box [.d (.int .i64 0), .d (.int .i64 0), .d (.str []), .d (.int .i64 0), .d (.int .i64 0), .osl 6 []]), (3, .osl 6 out), (14, .d (.int .i64 m)), (15, .d (.int .i64 n))], []⟩ => .opt (unL unXp ar) fun l => .br (decide (m = l.length ∧ n = 0 ∧ m ≤ 100000 ∧ out.length = 0) && l.all (fitX N)) (.leaf ((.ext 0), ⟨[(1, .box [.d (.int .i64 o), .d (.int .i64 v), .d (.str nm), .d (.int .i64 sl), .d (.int .i64 sz), .d (.sl 6 ar)]), (2, .box [.d (.int .i64 0), .d (.int .i64 0), .d (.str []), .d (.int .i64 0), .d (.int .i64 0), .osl 6 []]), (3, .osl 6 ((l.map (rnX N)).map encXp))], []⟩)) .fail
  | _ => .fail

noncomputable abbrev Xot (N : Nat) : TX := ⟨Tryd.prog, tbl [(29, otherT N)], iso, gl, vw⟩

theorem xok_Xot (N : Nat) (h_other : FnOK Tryd.prog gl 29 (otherT N)) (f : Nat) : XOK (Xot N) (ann f) gl := XOK.of base (l := [(29, otherT N)]) ⟨h_other, trivial⟩ f

-- loop 0: live [1, 2, 3, 14, 15], exits {0: [1, 2, 3]}

def l_other_0 : CC := .seq (.region [
    ⟨.yes, (some 16), .binOp .lss 3 (.tmp 15) (.tmp 14) 3, false, false, []⟩] [1, 2, 3, 14, 15, 16]) <|
  .seq (.cond (.tmp 16)
    (.skip)
    (.exit 0)) <|
  .seq (.block 1 <| .seq (.region [
    ⟨.yes, (some 17), .move (.tmp 15), false, false, []⟩,
    ⟨.yes, (some 4), .assign (.tmp 17), true, false, []⟩] [1, 2, 3, 4, 14, 15]) <|
  .region [
    ⟨.yes, (some 18), .move (.tmp 3), true, false, [(some 6)]⟩,
    ⟨.yes, (some 19), .fieldAddr 56 (.tmp 1) 5, false, false, []⟩,
    ⟨.yes, (some 20), .load 54 (.tmp 19), false, false, [(some 6)]⟩,
    ⟨.yes, (some 21), .move (.tmp 4), true, false, []⟩,
    ⟨.yes, (some 22), .indexAddr 54 (.tmp 20) (.tmp 21), false, false, []⟩,
    ⟨.yes, (some 23), .load 56 (.tmp 22), false, false, [none, none, none, none, none, (some 6)]⟩,
    ⟨.yes, (some 24), .call ⟨.value (.func 29), #[(.tmp 23)], #[56]⟩, false, false, [none, none, none, none, none, (some 6)]⟩,
    ⟨.yes, (some 25), .buildSlice 54 1 #[(0, (.tmp 24))], false, false, [(some 6)]⟩,
    ⟨.yes, (some 26), .call ⟨.builtin .append, #[(.tmp 18), (.tmp 25)], #[54, 54]⟩, true, false, [(some 6)]⟩,
    ⟨.yes, (some 3), .assign (.tmp 26), true, false, [(some 6)]⟩] [1, 2, 3, 14, 15]) <|
  .region [
    ⟨.yes, (some 27), .binOp .add 3 (.tmp 15) (.const (.int .i64 (1))) 3, false, false, []⟩,
    ⟨.yes, (some 15), .move (.tmp 27), true, false, []⟩] [1, 2, 3, 14, 15]

def c_other (N : Nat) : CC := .seq (.region [
    ⟨.yes, (some 1), .box 56 (.tmp 0), true, false, []⟩,
    ⟨.yes, (some 2), .alloc 56, false, false, []⟩] [1, 2]) <|
  .seq (.seq (.region [
    ⟨.yes, (some 5), .fieldAddr 56 (.tmp 1) 2, false, false, []⟩,
    ⟨.yes, (some 6), .load 9 (.tmp 5), false, false, []⟩,
    ⟨.yes, (some 7), .binOp .neq 9 (.tmp 6) (.const (.string ⟨#[]⟩)) 9, false, false, []⟩] [1, 2, 7]) <|
  .cond (.tmp 7)
    (.region [
      ⟨.yes, (some 8), .fieldAddr 56 (.tmp 1) 2, false, false, []⟩,
      ⟨.yes, (some 9), .load 9 (.tmp 8), false, false, []⟩,
      ⟨.yes, (some 10), .binOp .add 9 (.const (.string ⟨#[110, 95]⟩)) (.tmp 9) 9, false, false, []⟩,
      ⟨.yes, (some 11), .fieldAddr 56 (.tmp 1) 2, false, false, []⟩,
      ⟨.yes, none, .store 9 (.tmp 11) (.tmp 10), true, false, []⟩] [1, 2])
    (.skip)) <|
  .seq (.region [
    ⟨.yes, (some 3), .assign (.const (.slice none 0 0)), false, false, [(some 6)]⟩] [1, 2, 3]) <|
  .seq (.seq (.region [
    ⟨.yes, (some 12), .fieldAddr 56 (.tmp 1) 5, false, false, []⟩,
    ⟨.yes, (some 13), .load 54 (.tmp 12), false, false, [(some 6)]⟩,
    ⟨.yes, (some 14), .call ⟨.builtin .len, #[(.tmp 13)], #[54]⟩, false, false, []⟩,
    ⟨.yes, (some 15), .move (.const (.int .i64 (0))), false, false, []⟩] [1, 2, 3, 14, 15]) <|
  .block 0 <| .keep [1, 2, 3, 14, 15] <| .sum (L_other_0 N) (.loop l_other_0)) <|
  .seq (.region [
    ⟨.yes, (some 28), .move (.tmp 3), true, false, [(some 6)]⟩,
    ⟨.yes, (some 29), .fieldAddr 56 (.tmp 1) 5, false, false, []⟩,
    ⟨.yes, none, .store 54 (.tmp 29) (.tmp 28), true, false, []⟩] [1, 2]) <|
  .seq (.region [
    ⟨.yes, (some 30), .load 56 (.tmp 1), false, false, [none, none, none, none, none, (some 6)]⟩,
    ⟨.yes, none, .store 56 (.tmp 2) (.tmp 30), true, false, []⟩] [2]) <|
  .ret

theorem c_other_eq (N : Nat) : ∃ c, Tryd.f29.body = some c ∧ codeOK Tryd.f29.ntmps c = true ∧ comp Tryd.prog (ann 29) c = erase (c_other N) := ⟨_, rfl, by kernel_rfl, by kernel_rfl⟩

theorem body_other_0 (N : Nat) (ar out : List DV) (nm : List UInt8) (o v sl sz m n : Int) : bodyT (Xot N) [1, 2, 3, 14, 15] [2] [(0, [1, 2, 3])] l_other_0 ⟨[(1, .box [.d (.int .i64 o), .d (.int .i64 v), .d (.str nm), .d (.int .i64 sl), .d (.int .i64 sz), .d (.sl 6 ar)]), (2, .box [.d (.int .i64 0), .d (.int .i64 0), .d (.str []), .d (.int .i64 0), .d (.int .i64 0), .osl 6 []]), (3, .osl 6 out), (14, .d (.int .i64 m)), (15, .d (.int .i64 n))], []⟩ = (
    .br (decide (n < m))
 (.br (decide ((0 : Int) ≤ n))
 (.opt ((ar[(Int.toNat n)]?).bind unXp) fun y1 => .br (fitX N ⟨y1.op, y1.value, y1.name, y1.slot, y1.size, y1.args⟩)
 (.br (decide ((out.length + ([(.agg [.int .i64 ((rnX N ⟨y1.op, y1.value, y1.name, y1.slot, y1.size, y1.args⟩).op), .int .i64 ((rnX N ⟨y1.op, y1.value, y1.name, y1.slot, y1.size, y1.args⟩).value), .str ((rnX N ⟨y1.op, y1.value, y1.name, y1.slot, y1.size, y1.args⟩).name), .int .i64 ((rnX N ⟨y1.op, y1.value, y1.name, y1.slot, y1.size, y1.args⟩).slot), .int .i64 ((rnX N ⟨y1.op, y1.value, y1.name, y1.slot, y1.size, y1.args⟩).size), .sl 6 ((rnX N ⟨y1.op, y1.value, y1.name, y1.slot, y1.size, y1.args⟩).args)])] : List DV).length) * 72 ≤ 70368744177664))
 (.leaf (.nrm, ⟨[(1, .box [.d (.int .i64 o), .d (.int .i64 v), .d (.str nm), .d (.int .i64 sl), .d (.int .i64 sz), .d (.sl 6 ar)]), (2, .box [.d (.int .i64 0), .d (.int .i64 0), .d (.str []), .d (.int .i64 0), .d (.int .i64 0), .osl 6 []]), (3, .osl 6 (out ++ [(.agg [.int .i64 ((rnX N ⟨y1.op, y1.value, y1.name, y1.slot, y1.size, y1.args⟩).op), .int .i64 ((rnX N ⟨y1.op, y1.value, y1.name, y1.slot, y1.size, y1.args⟩).value), .str ((rnX N ⟨y1.op, y1.value, y1.name, y1.slot, y1.size, y1.args⟩).name), .int .i64 ((rnX N ⟨y1.op, y1.value, y1.name, y1.slot, y1.size, y1.args⟩).slot), .int .i64 ((rnX N ⟨y1.op, y1.value, y1.name, y1.slot, y1.size, y1.args⟩).size), .sl 6 ((rnX N ⟨y1.op, y1.value, y1.name, y1.slot, y1.size, y1.args⟩).args)])])), (14, .d (.int .i64 m)), (15, .d (.int .i64 (IntKind.i64.wrap (n + 1))))], []⟩))
 (.fail))
 (.fail))
 (.fail))
 (.leaf ((.ext 0), ⟨[(1, .box [.d (.int .i64 o), .d (.int .i64 v), .d (.str nm), .d (.int .i64 sl), .d (.int .i64 sz), .d (.sl 6 ar)]), (2, .box [.d (.int .i64 0), .d (.int .i64 0), .d (.str []), .d (.int .i64 0), .d (.int .i64 0), .osl 6 []]), (3, .osl 6 out)], []⟩)) : Tr (Ex × ST)) := by kernel_rfl

theorem tree_other (N : Nat) (ar : List DV) (nm : List UInt8) (o v sl sz : Int) : fnT (Xot N) (c_other N) Tryd.f29.results.toList [.agg [.d (.int .i64 o), .d (.int .i64 v), .d (.str nm), .d (.int .i64 sl), .d (.int .i64 sz), .d (.sl 6 ar)]] [] = (
    .br (!decide (nm = []))
 (.br (decide (([110, 95] : List UInt8).length + nm.length ≤ 9223372036854775807))
 (.opt (unL unXp ar) fun l1 => .br (decide ((ar.length : Int) = l1.length ∧ (0 : Int) = 0 ∧ (ar.length : Int) ≤ 100000 ∧ ([] : List DV).length = 0) && l1.all (fitX N))
 (.leaf (.agg [.d (.int .i64 o), .d (.int .i64 v), .d (.str ([110, 95] ++ nm)), .d (.int .i64 sl), .d (.int .i64 sz), .d (.sl 6 ((l1.map (rnX N)).map encXp))], []))
 (.fail))
 (.fail))
 (.opt (unL unXp ar) fun l2 => .br (decide ((ar.length : Int) = l2.length ∧ (0 : Int) = 0 ∧ (ar.length : Int) ≤ 100000 ∧ ([] : List DV).length = 0) && l2.all (fitX N))
 (.leaf (.agg [.d (.int .i64 o), .d (.int .i64 v), .d (.str nm), .d (.int .i64 sl), .d (.int .i64 sz), .d (.sl 6 ((l2.map (rnX N)).map encXp))], []))
 (.fail)) : Tr (AV × Hp)) := by kernel_rfl


theorem len_nil {α : Type} {l : List α} (h : l.length = 0) : l = [] := List.length_eq_zero_iff.1 h

theorem sum_other_0 (N : Nat) (h : FnOK Tryd.prog gl 29 (otherT N)) : SumOK Tryd.prog gl (ann 29) (L_other_0 N) (.loop l_other_0) := by
  refine SumOK.range (X := Xot N) (xok_Xot N h 29) (by simp only [Sums, l_other_0, and_true]) (by kernel_rfl) (lv := [1, 2, 3, 14, 15]) (rt := [2]) (xs := [(0, [1, 2, 3])]) (by decide) unXp_enc
    (σ := Xp)
    (fun e l n => ⟨[(1, .box [.d (.int .i64 e.op), .d (.int .i64 e.value), .d (.str e.name), .d (.int .i64 e.slot), .d (.int .i64 e.size), .d (.sl 6 (l.map encXp))]), (2, .box [.d (.int .i64 0), .d (.int .i64 0), .d (.str []), .d (.int .i64 0), .d (.int .i64 0), .osl 6 []]), (3, .osl 6 (((l.take n).map (rnX N)).map encXp)), (14, .d (.int .i64 (l.length : Int))), (15, .d (.int .i64 (n : Int)))], []⟩)
    (fun e l n => (l.length : Int) ≤ 100000 ∧ l.all (fitX N) = true)
    (fun e l n r => (.ext 0, ⟨[(1, .box [.d (.int .i64 e.op), .d (.int .i64 e.value), .d (.str e.name), .d (.int .i64 e.slot), .d (.int .i64 e.size), .d (.sl 6 (l.map encXp))]), (2, .box [.d (.int .i64 0), .d (.int .i64 0), .d (.str []), .d (.int .i64 0), .d (.int .i64 0), .osl 6 []]), (3, .osl 6 ((l.map (rnX N)).map encXp))], []⟩)) ?_ ?_ ?_
  · intro st r h
    unfold L_other_0 at h
    split at h
    · rename_i o v nm sl sz ar out m n
      obtain ⟨l, hl, h0⟩ := Tr.opt_some h
      obtain rfl := unL_inv unXp_ok hl
      rcases Tr.br_some h0 with ⟨h1, h2⟩ | ⟨_, h2⟩
      · simp only [Bool.and_eq_true, decide_eq_true_eq] at h1
        obtain ⟨⟨rfl, rfl, h3, h4⟩, h5⟩ := h1
        obtain rfl := len_nil h4
        exact ⟨⟨o, v, nm, sl, sz, []⟩, l, 0, rfl, by omega, ⟨h3, h5⟩, (Tr.leaf_some h2).symm⟩
      · exact Tr.fail_some h2
    · exact Tr.fail_some h
  · rintro e l n ⟨h1, h2⟩ hn hb
    refine ⟨.ext 0, _, ?_, by simp, rfl⟩
    try dsimp only
    rw [body_other_0]
    refine Tr.dec_no (by omega) ?_
    rw [List.take_of_length_le (by omega)]; rfl
  · rintro e l n v ⟨h1, h2⟩ hn hb hat
    have hfit : fitX N v = true := (List.all_eq_true.1 h2) v (List.mem_of_getElem? hb)
    have hw : IntKind.i64.wrap ((n : Int) + 1) = ((n + 1 : Nat) : Int) := by rw [wrap_in] <;> omega
    refine .inr ⟨e, ?_, ⟨h1, h2⟩, rfl⟩
    try dsimp only
    rw [body_other_0]
    refine Tr.dec_yes (by omega) (Tr.dec_yes (by omega) (Tr.opt_to hat ((Tr.run_yes hfit).trans (Tr.dec_yes ?_ ?_))))
    · simp only [List.length_map, List.length_take, List.length_cons, List.length_nil]; omega
    · rw [hw, List.take_add_one, hb]
      simp only [Option.toList_some, List.map_append, List.map_cons, List.map_nil]
      rfl

theorem ok_other : ∀ N : Nat, FnOK Tryd.prog gl 29 (otherT N)
  | 0 => by
    refine ⟨⟨_, Tryd.func29, rfl⟩, fun ar H v H' h => ?_⟩
    unfold otherT at h
    split at h
    · exact Tr.fail_some h
    · exact Tr.fail_some h
  | N + 1 => by
    have ih := ok_other N
    refine fn_of (X := Xot N) (xok_Xot N ih 29) Tryd.func29 (c_other_eq N) (by kernel_rfl) (by simp only [Sums, c_other, and_true, true_and]; exact sum_other_0 N ih) ?_
    intro ar H r h
    unfold otherT at h
    split at h
    · rename_i o v nm sl sz ar
      rw [tree_other]
      rcases Tr.br_some h with ⟨h1, h2⟩ | ⟨_, h2⟩
      · obtain rfl := Tr.leaf_some h2
        unfold fitX at h1
        split at h1
        · rename_i l hl
          simp only [Bool.and_eq_true, decide_eq_true_eq] at h1
          obtain ⟨⟨h3, h4⟩, h5⟩ := h1
          have hl' : unL unXp ar = some l := hl
          have he := unL_inv unXp_ok hl'
          have hlen : ar.length = l.length := by rw [he, List.length_map]
          have hrn : rnX (N + 1) ⟨o, v, nm, sl, sz, ar⟩ = ⟨o, v, npre nm, sl, sz, (l.map (rnX N)).map encXp⟩ := by rw [he]; exact rnX_eq
          have hq : (decide ((ar.length : Int) = l.length ∧ (0 : Int) = 0 ∧ (ar.length : Int) ≤ 100000 ∧ ([] : List DV).length = 0) && l.all (fitX N)) = true := by
            rw [h5, Bool.and_true]; exact decide_eq_true ⟨by omega, rfl, by omega, rfl⟩
          rw [hrn]
          have h4' : (nm.length : Int) ≤ 100000 := h4
          unfold npre
          by_cases hn : nm = []
          · refine (Tr.run_no (by simp [hn])).trans (Tr.opt_to hl' ((Tr.run_yes hq).trans ?_))
            rw [if_pos hn, hn]; rfl
          · refine (Tr.run_yes (by simp [hn])).trans (Tr.dec_yes (by simp; omega) (Tr.opt_to hl' ((Tr.run_yes hq).trans ?_)))
            rw [if_neg hn]; rfl
        · cases h1
      · exact Tr.fail_some h2
    · exact Tr.fail_some h
end Go.AI.RD

/- rollbacknetlaw03.rename, in sum. -/
namespace Go.AI.RD
open Go Go.Proofs
set_option maxRecDepth 10000
set_option linter.unusedVariables false
set_option linter.unusedSimpArgs false

theorem ok_other9 : FnOK Tryd.prog gl 29 (otherT 9) := ok_other 9
def rn1 (f : List DV → List St) (s : St) : St := ⟨s.kind, npre s.name, s.slot, s.size, rnX 9 s.place, rnX 9 s.value, (f s.body).map encSt, (f s.els).map encSt⟩
def rnS : Nat → List DV → List St
  | 0, _ => []
  | n + 1, ss => match unL unSt ss with
    | some l => l.map (rn1 (rnS n))
    | none => []

def renameT (N : Nat) : FT
  | [.d (.sl 18 ss)], [] => .br (fitS N ss) (.leaf (.d (.sl 18 ((rnS N ss).map encSt)), [])) .fail
  | _, _ => .fail

def L_rename_0 (N : Nat) : ST → Tr (Ex × ST)
  | ⟨[(0, .d (.sl 18 ss)), (3, .osl 18 out), (7, .d (.int .i64 m)), (8, .d (.int .i64 n))], []⟩ => .opt (unL unSt ss) fun l => .br (decide (m = l.length ∧ n = 0 ∧ m ≤ 100000 ∧ out.length = 0) && l.all (fit1 N)) (.leaf ((.ext 0), ⟨[(3, .osl 18 ((l.map (rn1 (rnS N))).map encSt))], []⟩)) .fail
  | _ => .fail

noncomputable abbrev Xrn (N : Nat) : TX := ⟨Tryd.prog, tbl [(29, (otherT 9)), (15, renameT N)], iso, gl, vw⟩

theorem xok_Xrn (N : Nat) (h_rename : FnOK Tryd.prog gl 15 (renameT N)) (f : Nat) : XOK (Xrn N) (ann f) gl := XOK.of base (l := [(29, (otherT 9)), (15, renameT N)]) ⟨ok_other9, h_rename, trivial⟩ f

-- loop 0: live [0, 3, 7, 8], exits {0: [3]}

def l_rename_0 : CC := .seq (.region [
    ⟨.yes, (some 9), .binOp .lss 3 (.tmp 8) (.tmp 7) 3, false, false, []⟩] [0, 3, 7, 8, 9]) <|
  .seq (.cond (.tmp 9)
    (.skip)
    (.exit 0)) <|
  .seq (.block 1 <| .seq (.region [
    ⟨.yes, (some 10), .move (.tmp 8), false, false, []⟩,
    ⟨.yes, (some 4), .assign (.tmp 10), true, false, []⟩] [0, 3, 4, 7, 8]) <|
  .seq (.region [
    ⟨.yes, (some 11), .move (.tmp 0), false, false, [(some 18)]⟩,
    ⟨.yes, (some 12), .move (.tmp 4), true, false, []⟩,
    ⟨.yes, (some 13), .indexAddr 27 (.tmp 11) (.tmp 12), false, false, []⟩,
    ⟨.yes, (some 14), .load 59 (.tmp 13), false, false, [none, none, none, none, none, none, none, none, none, (some 6), none, none, none, none, none, (some 6), (some 18), (some 18)]⟩,
    ⟨.yes, (some 5), .alloc 59, false, false, []⟩,
    ⟨.yes, none, .store 59 (.tmp 5) (.tmp 14), true, false, []⟩] [0, 3, 5, 7, 8]) <|
  .seq (.seq (.region [
    ⟨.yes, (some 15), .fieldAddr 59 (.tmp 5) 1, false, false, []⟩,
    ⟨.yes, (some 16), .load 9 (.tmp 15), false, false, []⟩,
    ⟨.yes, (some 17), .binOp .neq 9 (.tmp 16) (.const (.string ⟨#[]⟩)) 9, false, false, []⟩] [0, 3, 5, 7, 8, 17]) <|
  .cond (.tmp 17)
    (.region [
      ⟨.yes, (some 18), .fieldAddr 59 (.tmp 5) 1, false, false, []⟩,
      ⟨.yes, (some 19), .load 9 (.tmp 18), false, false, []⟩,
      ⟨.yes, (some 20), .binOp .add 9 (.const (.string ⟨#[110, 95]⟩)) (.tmp 19) 9, false, false, []⟩,
      ⟨.yes, (some 21), .fieldAddr 59 (.tmp 5) 1, false, false, []⟩,
      ⟨.yes, none, .store 9 (.tmp 21) (.tmp 20), true, false, []⟩] [0, 3, 5, 7, 8])
    (.skip)) <|
  .seq (.drawn ⟨[13, 15, 17, 19], [], [0, 3, 5, 7, 8]⟩ [
    ⟨(some 22), .fieldAddr 59 (.tmp 5) 4, 0, "law.go:142", #[], none⟩,
    ⟨(some 23), .load 56 (.tmp 22), 56, "law.go:142", #[⟨0, .data⟩], none⟩,
    ⟨(some 24), .call ⟨.value (.func 29), #[(.tmp 23)], #[56]⟩, 56, "law.go:142", #[⟨1, .data⟩], none⟩,
    ⟨(some 25), .fieldAddr 59 (.tmp 5) 5, 0, "law.go:142", #[], none⟩,
    ⟨(some 26), .load 56 (.tmp 25), 56, "law.go:142", #[⟨3, .data⟩], none⟩,
    ⟨(some 27), .call ⟨.value (.func 29), #[(.tmp 26)], #[56]⟩, 56, "law.go:142", #[⟨4, .data⟩, ⟨2, .chain⟩], none⟩,
    ⟨(some 28), .fieldAddr 59 (.tmp 5) 6, 0, "law.go:142", #[], none⟩,
    ⟨(some 29), .load 27 (.tmp 28), 27, "law.go:142", #[⟨6, .data⟩], none⟩,
    ⟨(some 30), .call ⟨.value (.func 15), #[(.tmp 29)], #[27]⟩, 27, "law.go:142", #[⟨7, .data⟩, ⟨5, .chain⟩], none⟩,
    ⟨(some 31), .fieldAddr 59 (.tmp 5) 7, 0, "law.go:142", #[], none⟩,
    ⟨(some 32), .load 27 (.tmp 31), 27, "law.go:142", #[⟨9, .data⟩], none⟩,
    ⟨(some 33), .call ⟨.value (.func 15), #[(.tmp 32)], #[27]⟩, 27, "law.go:142", #[⟨10, .data⟩, ⟨8, .chain⟩], none⟩,
    ⟨(some 34), .fieldAddr 59 (.tmp 5) 4, 0, "law.go:142", #[⟨0, .phase⟩, ⟨1, .phase⟩, ⟨2, .phase⟩, ⟨3, .phase⟩, ⟨4, .phase⟩, ⟨5, .textOnly .lateStoresUnsure⟩, ⟨6, .phase⟩, ⟨7, .phase⟩, ⟨8, .textOnly .lateStoresUnsure⟩, ⟨9, .phase⟩, ⟨10, .phase⟩, ⟨11, .textOnly .lateStoresUnsure⟩], none⟩,
    ⟨none, .store 56 (.tmp 34) (.tmp 24), 0, "law.go:142", #[⟨12, .data⟩, ⟨2, .data⟩, ⟨11, .chain⟩, ⟨0, .phase⟩, ⟨1, .phase⟩, ⟨2, .phase⟩, ⟨3, .phase⟩, ⟨4, .phase⟩, ⟨5, .textOnly .lateStoresUnsure⟩, ⟨6, .phase⟩, ⟨7, .phase⟩, ⟨8, .textOnly .lateStoresUnsure⟩, ⟨9, .phase⟩, ⟨10, .phase⟩, ⟨11, .textOnly .lateStoresUnsure⟩], none⟩,
    ⟨(some 35), .fieldAddr 59 (.tmp 5) 5, 0, "law.go:142", #[⟨0, .phase⟩, ⟨1, .phase⟩, ⟨2, .phase⟩, ⟨3, .phase⟩, ⟨4, .phase⟩, ⟨5, .phase⟩, ⟨6, .phase⟩, ⟨7, .phase⟩, ⟨8, .textOnly .lateStoresUnsure⟩, ⟨9, .phase⟩, ⟨10, .phase⟩, ⟨11, .textOnly .lateStoresUnsure⟩, ⟨12, .phase⟩, ⟨13, .phase⟩], none⟩,
    ⟨none, .store 56 (.tmp 35) (.tmp 27), 0, "law.go:142", #[⟨14, .data⟩, ⟨5, .data⟩, ⟨13, .chain⟩, ⟨0, .phase⟩, ⟨1, .phase⟩, ⟨2, .phase⟩, ⟨3, .phase⟩, ⟨4, .phase⟩, ⟨5, .phase⟩, ⟨6, .phase⟩, ⟨7, .phase⟩, ⟨8, .textOnly .lateStoresUnsure⟩, ⟨9, .phase⟩, ⟨10, .phase⟩, ⟨11, .textOnly .lateStoresUnsure⟩, ⟨12, .phase⟩, ⟨13, .phase⟩], none⟩,
    ⟨(some 36), .fieldAddr 59 (.tmp 5) 6, 0, "law.go:142", #[⟨0, .phase⟩, ⟨1, .phase⟩, ⟨2, .phase⟩, ⟨3, .phase⟩, ⟨4, .phase⟩, ⟨5, .phase⟩, ⟨6, .phase⟩, ⟨7, .phase⟩, ⟨8, .phase⟩, ⟨9, .phase⟩, ⟨10, .phase⟩, ⟨11, .textOnly .lateStoresUnsure⟩, ⟨12, .phase⟩, ⟨13, .phase⟩, ⟨14, .phase⟩, ⟨15, .phase⟩], none⟩,
    ⟨none, .store 27 (.tmp 36) (.tmp 30), 0, "law.go:142", #[⟨16, .data⟩, ⟨8, .data⟩, ⟨15, .chain⟩, ⟨0, .phase⟩, ⟨1, .phase⟩, ⟨2, .phase⟩, ⟨3, .phase⟩, ⟨4, .phase⟩, ⟨5, .phase⟩, ⟨6, .phase⟩, ⟨7, .phase⟩, ⟨8, .phase⟩, ⟨9, .phase⟩, ⟨10, .phase⟩, ⟨11, .textOnly .lateStoresUnsure⟩, ⟨12, .phase⟩, ⟨13, .phase⟩, ⟨14, .phase⟩, ⟨15, .phase⟩], none⟩,
    ⟨(some 37), .fieldAddr 59 (.tmp 5) 7, 0, "law.go:142", #[⟨0, .phase⟩, ⟨1, .phase⟩, ⟨2, .phase⟩, ⟨3, .phase⟩, ⟨4, .phase⟩, ⟨5, .phase⟩, ⟨6, .phase⟩, ⟨7, .phase⟩, ⟨8, .phase⟩, ⟨9, .phase⟩, ⟨10, .phase⟩, ⟨11, .phase⟩, ⟨12, .phase⟩, ⟨13, .phase⟩, ⟨14, .phase⟩, ⟨15, .phase⟩, ⟨16, .phase⟩, ⟨17, .phase⟩], none⟩,
    ⟨none, .store 27 (.tmp 37) (.tmp 33), 0, "law.go:142", #[⟨18, .data⟩, ⟨11, .data⟩, ⟨17, .chain⟩, ⟨0, .phase⟩, ⟨1, .phase⟩, ⟨2, .phase⟩, ⟨3, .phase⟩, ⟨4, .phase⟩, ⟨5, .phase⟩, ⟨6, .phase⟩, ⟨7, .phase⟩, ⟨8, .phase⟩, ⟨9, .phase⟩, ⟨10, .phase⟩, ⟨11, .phase⟩, ⟨12, .phase⟩, ⟨13, .phase⟩, ⟨14, .phase⟩, ⟨15, .phase⟩, ⟨16, .phase⟩, ⟨17, .phase⟩], none⟩]) <|
  .region [
    ⟨.yes, (some 38), .move (.tmp 3), true, false, [(some 18)]⟩,
    ⟨.yes, (some 39), .load 59 (.tmp 5), false, false, [none, none, none, none, none, none, none, none, none, (some 6), none, none, none, none, none, (some 6), (some 18), (some 18)]⟩,
    ⟨.yes, (some 40), .buildSlice 27 1 #[(0, (.tmp 39))], false, false, [(some 18)]⟩,
    ⟨.yes, (some 41), .call ⟨.builtin .append, #[(.tmp 38), (.tmp 40)], #[27, 27]⟩, true, false, [(some 18)]⟩,
    ⟨.yes, (some 3), .assign (.tmp 41), true, false, [(some 18)]⟩] [0, 3, 7, 8]) <|
  .region [
    ⟨.yes, (some 42), .binOp .add 3 (.tmp 8) (.const (.int .i64 (1))) 3, false, false, []⟩,
    ⟨.yes, (some 8), .move (.tmp 42), true, false, []⟩] [0, 3, 7, 8]

def c_rename (N : Nat) : CC := .seq (.region [
    ⟨.yes, (some 2), .assign (.const (.slice none 0 0)), false, false, [(some 18)]⟩] [0]) <|
  .seq (.region [
    ⟨.yes, (some 3), .assign (.const (.slice none 0 0)), false, false, [(some 18)]⟩] [0, 3]) <|
  .seq (.seq (.region [
    ⟨.yes, (some 6), .move (.tmp 0), false, false, [(some 18)]⟩,
    ⟨.yes, (some 7), .call ⟨.builtin .len, #[(.tmp 6)], #[27]⟩, false, false, []⟩,
    ⟨.yes, (some 8), .move (.const (.int .i64 (0))), false, false, []⟩] [0, 3, 7, 8]) <|
  .block 0 <| .keep [0, 3, 7, 8] <| .sum (L_rename_0 N) (.loop l_rename_0)) <|
  .seq (.region [
    ⟨.yes, (some 43), .move (.tmp 3), true, false, [(some 18)]⟩,
    ⟨.yes, (some 2), .assign (.tmp 43), true, false, [(some 18)]⟩] [2]) <|
  .ret

theorem c_rename_eq (N : Nat) : ∃ c, Tryd.f15.body = some c ∧ codeOK Tryd.f15.ntmps c = true ∧ comp Tryd.prog (ann 15) c = erase (c_rename N) := ⟨_, rfl, by kernel_rfl, by kernel_rfl⟩

theorem body_rename_0 (N : Nat) (ss out : List DV) (m n : Int) : bodyT (Xrn N) [0, 3, 7, 8] [2] [(0, [3])] l_rename_0 ⟨[(0, .d (.sl 18 ss)), (3, .osl 18 out), (7, .d (.int .i64 m)), (8, .d (.int .i64 n))], []⟩ = (
    .br (decide (n < m))
 (.br (decide ((0 : Int) ≤ n))
 (.opt ((ss[(Int.toNat n)]?).bind unSt) fun y1 => .br (!decide (y1.name = []))
 (.br (decide (([110, 95] : List UInt8).length + y1.name.length ≤ 9223372036854775807))
 (.br (fitX 9 ⟨y1.place.op, y1.place.value, y1.place.name, y1.place.slot, y1.place.size, y1.place.args⟩)
 (.br (fitX 9 ⟨y1.value.op, y1.value.value, y1.value.name, y1.value.slot, y1.value.size, y1.value.args⟩)
 (.br (fitS N y1.body)
 (.br (fitS N y1.els)
 (.br (decide ((out.length + ([(.agg [.int .i64 y1.kind, .str ([110, 95] ++ y1.name), .int .i64 y1.slot, .int .i64 y1.size, .int .i64 ((rnX 9 ⟨y1.place.op, y1.place.value, y1.place.name, y1.place.slot, y1.place.size, y1.place.args⟩).op), .int .i64 ((rnX 9 ⟨y1.place.op, y1.place.value, y1.place.name, y1.place.slot, y1.place.size, y1.place.args⟩).value), .str ((rnX 9 ⟨y1.place.op, y1.place.value, y1.place.name, y1.place.slot, y1.place.size, y1.place.args⟩).name), .int .i64 ((rnX 9 ⟨y1.place.op, y1.place.value, y1.place.name, y1.place.slot, y1.place.size, y1.place.args⟩).slot), .int .i64 ((rnX 9 ⟨y1.place.op, y1.place.value, y1.place.name, y1.place.slot, y1.place.size, y1.place.args⟩).size), .sl 6 ((rnX 9 ⟨y1.place.op, y1.place.value, y1.place.name, y1.place.slot, y1.place.size, y1.place.args⟩).args), .int .i64 ((rnX 9 ⟨y1.value.op, y1.value.value, y1.value.name, y1.value.slot, y1.value.size, y1.value.args⟩).op), .int .i64 ((rnX 9 ⟨y1.value.op, y1.value.value, y1.value.name, y1.value.slot, y1.value.size, y1.value.args⟩).value), .str ((rnX 9 ⟨y1.value.op, y1.value.value, y1.value.name, y1.value.slot, y1.value.size, y1.value.args⟩).name), .int .i64 ((rnX 9 ⟨y1.value.op, y1.value.value, y1.value.name, y1.value.slot, y1.value.size, y1.value.args⟩).slot), .int .i64 ((rnX 9 ⟨y1.value.op, y1.value.value, y1.value.name, y1.value.slot, y1.value.size, y1.value.args⟩).size), .sl 6 ((rnX 9 ⟨y1.value.op, y1.value.value, y1.value.name, y1.value.slot, y1.value.size, y1.value.args⟩).args), .sl 18 ((rnS N y1.body).map encSt), .sl 18 ((rnS N y1.els).map encSt)])] : List DV).length) * 232 ≤ 70368744177664))
 (.leaf (.nrm, ⟨[(0, .d (.sl 18 ss)), (3, .osl 18 (out ++ [(.agg [.int .i64 y1.kind, .str ([110, 95] ++ y1.name), .int .i64 y1.slot, .int .i64 y1.size, .int .i64 ((rnX 9 ⟨y1.place.op, y1.place.value, y1.place.name, y1.place.slot, y1.place.size, y1.place.args⟩).op), .int .i64 ((rnX 9 ⟨y1.place.op, y1.place.value, y1.place.name, y1.place.slot, y1.place.size, y1.place.args⟩).value), .str ((rnX 9 ⟨y1.place.op, y1.place.value, y1.place.name, y1.place.slot, y1.place.size, y1.place.args⟩).name), .int .i64 ((rnX 9 ⟨y1.place.op, y1.place.value, y1.place.name, y1.place.slot, y1.place.size, y1.place.args⟩).slot), .int .i64 ((rnX 9 ⟨y1.place.op, y1.place.value, y1.place.name, y1.place.slot, y1.place.size, y1.place.args⟩).size), .sl 6 ((rnX 9 ⟨y1.place.op, y1.place.value, y1.place.name, y1.place.slot, y1.place.size, y1.place.args⟩).args), .int .i64 ((rnX 9 ⟨y1.value.op, y1.value.value, y1.value.name, y1.value.slot, y1.value.size, y1.value.args⟩).op), .int .i64 ((rnX 9 ⟨y1.value.op, y1.value.value, y1.value.name, y1.value.slot, y1.value.size, y1.value.args⟩).value), .str ((rnX 9 ⟨y1.value.op, y1.value.value, y1.value.name, y1.value.slot, y1.value.size, y1.value.args⟩).name), .int .i64 ((rnX 9 ⟨y1.value.op, y1.value.value, y1.value.name, y1.value.slot, y1.value.size, y1.value.args⟩).slot), .int .i64 ((rnX 9 ⟨y1.value.op, y1.value.value, y1.value.name, y1.value.slot, y1.value.size, y1.value.args⟩).size), .sl 6 ((rnX 9 ⟨y1.value.op, y1.value.value, y1.value.name, y1.value.slot, y1.value.size, y1.value.args⟩).args), .sl 18 ((rnS N y1.body).map encSt), .sl 18 ((rnS N y1.els).map encSt)])])), (7, .d (.int .i64 m)), (8, .d (.int .i64 (IntKind.i64.wrap (n + 1))))], []⟩))
 (.fail))
 (.fail))
 (.fail))
 (.fail))
 (.fail))
 (.fail))
 (.br (fitX 9 ⟨y1.place.op, y1.place.value, y1.place.name, y1.place.slot, y1.place.size, y1.place.args⟩)
 (.br (fitX 9 ⟨y1.value.op, y1.value.value, y1.value.name, y1.value.slot, y1.value.size, y1.value.args⟩)
 (.br (fitS N y1.body)
 (.br (fitS N y1.els)
 (.br (decide ((out.length + ([(.agg [.int .i64 y1.kind, .str y1.name, .int .i64 y1.slot, .int .i64 y1.size, .int .i64 ((rnX 9 ⟨y1.place.op, y1.place.value, y1.place.name, y1.place.slot, y1.place.size, y1.place.args⟩).op), .int .i64 ((rnX 9 ⟨y1.place.op, y1.place.value, y1.place.name, y1.place.slot, y1.place.size, y1.place.args⟩).value), .str ((rnX 9 ⟨y1.place.op, y1.place.value, y1.place.name, y1.place.slot, y1.place.size, y1.place.args⟩).name), .int .i64 ((rnX 9 ⟨y1.place.op, y1.place.value, y1.place.name, y1.place.slot, y1.place.size, y1.place.args⟩).slot), .int .i64 ((rnX 9 ⟨y1.place.op, y1.place.value, y1.place.name, y1.place.slot, y1.place.size, y1.place.args⟩).size), .sl 6 ((rnX 9 ⟨y1.place.op, y1.place.value, y1.place.name, y1.place.slot, y1.place.size, y1.place.args⟩).args), .int .i64 ((rnX 9 ⟨y1.value.op, y1.value.value, y1.value.name, y1.value.slot, y1.value.size, y1.value.args⟩).op), .int .i64 ((rnX 9 ⟨y1.value.op, y1.value.value, y1.value.name, y1.value.slot, y1.value.size, y1.value.args⟩).value), .str ((rnX 9 ⟨y1.value.op, y1.value.value, y1.value.name, y1.value.slot, y1.value.size, y1.value.args⟩).name), .int .i64 ((rnX 9 ⟨y1.value.op, y1.value.value, y1.value.name, y1.value.slot, y1.value.size, y1.value.args⟩).slot), .int .i64 ((rnX 9 ⟨y1.value.op, y1.value.value, y1.value.name, y1.value.slot, y1.value.size, y1.value.args⟩).size), .sl 6 ((rnX 9 ⟨y1.value.op, y1.value.value, y1.value.name, y1.value.slot, y1.value.size, y1.value.args⟩).args), .sl 18 ((rnS N y1.body).map encSt), .sl 18 ((rnS N y1.els).map encSt)])] : List DV).length) * 232 ≤ 70368744177664))
 (.leaf (.nrm, ⟨[(0, .d (.sl 18 ss)), (3, .osl 18 (out ++ [(.agg [.int .i64 y1.kind, .str y1.name, .int .i64 y1.slot, .int .i64 y1.size, .int .i64 ((rnX 9 ⟨y1.place.op, y1.place.value, y1.place.name, y1.place.slot, y1.place.size, y1.place.args⟩).op), .int .i64 ((rnX 9 ⟨y1.place.op, y1.place.value, y1.place.name, y1.place.slot, y1.place.size, y1.place.args⟩).value), .str ((rnX 9 ⟨y1.place.op, y1.place.value, y1.place.name, y1.place.slot, y1.place.size, y1.place.args⟩).name), .int .i64 ((rnX 9 ⟨y1.place.op, y1.place.value, y1.place.name, y1.place.slot, y1.place.size, y1.place.args⟩).slot), .int .i64 ((rnX 9 ⟨y1.place.op, y1.place.value, y1.place.name, y1.place.slot, y1.place.size, y1.place.args⟩).size), .sl 6 ((rnX 9 ⟨y1.place.op, y1.place.value, y1.place.name, y1.place.slot, y1.place.size, y1.place.args⟩).args), .int .i64 ((rnX 9 ⟨y1.value.op, y1.value.value, y1.value.name, y1.value.slot, y1.value.size, y1.value.args⟩).op), .int .i64 ((rnX 9 ⟨y1.value.op, y1.value.value, y1.value.name, y1.value.slot, y1.value.size, y1.value.args⟩).value), .str ((rnX 9 ⟨y1.value.op, y1.value.value, y1.value.name, y1.value.slot, y1.value.size, y1.value.args⟩).name), .int .i64 ((rnX 9 ⟨y1.value.op, y1.value.value, y1.value.name, y1.value.slot, y1.value.size, y1.value.args⟩).slot), .int .i64 ((rnX 9 ⟨y1.value.op, y1.value.value, y1.value.name, y1.value.slot, y1.value.size, y1.value.args⟩).size), .sl 6 ((rnX 9 ⟨y1.value.op, y1.value.value, y1.value.name, y1.value.slot, y1.value.size, y1.value.args⟩).args), .sl 18 ((rnS N y1.body).map encSt), .sl 18 ((rnS N y1.els).map encSt)])])), (7, .d (.int .i64 m)), (8, .d (.int .i64 (IntKind.i64.wrap (n + 1))))], []⟩))
 (.fail))
 (.fail))
 (.fail))
 (.fail))
 (.fail)))
 (.fail))
 (.leaf ((.ext 0), ⟨[(3, .osl 18 out)], []⟩)) : Tr (Ex × ST)) := by kernel_rfl

theorem tree_rename (N : Nat) (ss : List DV) : fnT (Xrn N) (c_rename N) Tryd.f15.results.toList [.d (.sl 18 ss)] [] = (
    .opt (unL unSt ss) fun l1 => .br (decide ((ss.length : Int) = l1.length ∧ (0 : Int) = 0 ∧ (ss.length : Int) ≤ 100000 ∧ ([] : List DV).length = 0) && l1.all (fit1 N))
 (.leaf (.d (.sl 18 ((l1.map (rn1 (rnS N))).map encSt)), []))
 (.fail) : Tr (AV × Hp)) := by kernel_rfl


theorem sum_rename_0 (N : Nat) (h : FnOK Tryd.prog gl 15 (renameT N)) : SumOK Tryd.prog gl (ann 15) (L_rename_0 N) (.loop l_rename_0) := by
  refine SumOK.range (X := Xrn N) (xok_Xrn N h 15) (by simp only [Sums, l_rename_0, and_true]) (by kernel_rfl) (lv := [0, 3, 7, 8]) (rt := [2]) (xs := [(0, [3])]) (by decide) unSt_enc
    (σ := Unit)
    (fun e l n => ⟨[(0, .d (.sl 18 (l.map encSt))), (3, .osl 18 (((l.take n).map (rn1 (rnS N))).map encSt)), (7, .d (.int .i64 (l.length : Int))), (8, .d (.int .i64 (n : Int)))], []⟩)
    (fun e l n => (l.length : Int) ≤ 100000 ∧ l.all (fit1 N) = true)
    (fun e l n r => (.ext 0, ⟨[(3, .osl 18 ((l.map (rn1 (rnS N))).map encSt))], []⟩)) ?_ ?_ ?_
  · intro st r h
    unfold L_rename_0 at h
    split at h
    · rename_i ss out m n
      obtain ⟨l, hl, h0⟩ := Tr.opt_some h
      obtain rfl := unL_inv unSt_ok hl
      rcases Tr.br_some h0 with ⟨h1, h2⟩ | ⟨_, h2⟩
      · simp only [Bool.and_eq_true, decide_eq_true_eq] at h1
        obtain ⟨⟨rfl, rfl, h3, h4⟩, h5⟩ := h1
        obtain rfl := len_nil h4
        exact ⟨(), l, 0, rfl, by omega, ⟨h3, h5⟩, (Tr.leaf_some h2).symm⟩
      · exact Tr.fail_some h2
    · exact Tr.fail_some h
  · rintro e l n ⟨h1, h2⟩ hn hb
    refine ⟨.ext 0, _, ?_, by simp, rfl⟩
    rw [body_rename_0]
    refine Tr.dec_no (by omega) ?_
    rw [List.take_of_length_le (by omega)]; rfl
  · rintro e l n v ⟨h1, h2⟩ hn hb hat
    have hfit : fit1 N v = true := (List.all_eq_true.1 h2) v (List.mem_of_getElem? hb)
    have hw : IntKind.i64.wrap ((n : Int) + 1) = ((n + 1 : Nat) : Int) := by rw [wrap_in] <;> omega
    refine .inr ⟨e, ?_, ⟨h1, h2⟩, rfl⟩
    rw [body_rename_0]
    simp only [fit1, Bool.and_eq_true, decide_eq_true_eq] at hfit
    obtain ⟨f1, f2, f3, f4, f5⟩ := hfit
    have key : ∀ nm', nm' = npre v.name → (((l.take n).map (rn1 (rnS N))).map encSt ++ [encSt ⟨v.kind, nm', v.slot, v.size, rnX 9 v.place, rnX 9 v.value, (rnS N v.body).map encSt, (rnS N v.els).map encSt⟩]) = ((l.take (n + 1)).map (rn1 (rnS N))).map encSt := by
      rintro _ rfl
      rw [List.take_add_one, hb]
      simp only [Option.toList_some, List.map_append, List.map_cons, List.map_nil]
      rfl
    have hlen : ∀ x : DV, ((((l.take n).map (rn1 (rnS N))).map encSt).length + ([x] : List DV).length) * 232 ≤ 70368744177664 := by
      intro x; simp only [List.length_map, List.length_take, List.length_cons, List.length_nil]; omega
    refine Tr.dec_yes (by omega) (Tr.dec_yes (by omega) (Tr.opt_to hat ?_))
    by_cases hn0 : v.name = []
    · refine (Tr.run_no (by simp [hn0])).trans ((Tr.run_yes f1).trans ((Tr.run_yes f2).trans ((Tr.run_yes f3).trans ((Tr.run_yes f4).trans (Tr.dec_yes (hlen _) ?_)))))
      rw [hw, ← key v.name (by simp [npre, hn0])]
      rfl
    · refine (Tr.run_yes (by simp [hn0])).trans (Tr.dec_yes (by simp; omega) ((Tr.run_yes f1).trans ((Tr.run_yes f2).trans ((Tr.run_yes f3).trans ((Tr.run_yes f4).trans (Tr.dec_yes (hlen _) ?_))))))
      rw [hw, ← key ([110, 95] ++ v.name) (by simp [npre, hn0])]
      rfl

theorem ok_rename : ∀ N : Nat, FnOK Tryd.prog gl 15 (renameT N)
  | 0 => by
    refine ⟨⟨_, Tryd.func15, rfl⟩, fun ar H v H' h => ?_⟩
    unfold renameT at h
    split at h
    · exact Tr.fail_some h
    · exact Tr.fail_some h
  | N + 1 => by
    have ih := ok_rename N
    refine fn_of (X := Xrn N) (xok_Xrn N ih 15) Tryd.func15 (c_rename_eq N) (by kernel_rfl) (by simp only [Sums, c_rename, and_true, true_and]; exact sum_rename_0 N ih) ?_
    intro ar H r h
    unfold renameT at h
    split at h
    · rename_i ss
      rw [tree_rename]
      rcases Tr.br_some h with ⟨h1, h2⟩ | ⟨_, h2⟩
      · obtain rfl := Tr.leaf_some h2
        unfold fitS at h1
        split at h1
        · rename_i l hl
          simp only [Bool.and_eq_true, decide_eq_true_eq] at h1
          obtain ⟨h3, h5⟩ := h1
          have hlen : ss.length = l.length := by rw [unL_inv unSt_ok hl, List.length_map]
          have hq : (decide ((ss.length : Int) = l.length ∧ (0 : Int) = 0 ∧ (ss.length : Int) ≤ 100000 ∧ ([] : List DV).length = 0) && l.all (fit1 N)) = true := by
            rw [Bool.and_eq_true]; exact ⟨decide_eq_true ⟨by omega, rfl, by omega, rfl⟩, h5⟩
          refine Tr.opt_to hl ((Tr.run_yes hq).trans ?_)
          simp only [rnS, hl]
          rfl
        · cases h1
      · exact Tr.fail_some h2
    · exact Tr.fail_some h
end Go.AI.RD

/- SameInts, SameExpr and SameStmts of the document's answer, at equal things, in sum. -/
namespace Go.AI.RD
open Go Go.Proofs
set_option maxRecDepth 10000
set_option linter.unusedVariables false
set_option linter.unusedSimpArgs false
noncomputable section

/-- Two things are one. -/
def eqB {α : Type} (a b : α) : Bool := @decide (a = b) (Classical.propDecidable _)
theorem eqB_iff {α : Type} {a b : α} : eqB a b = true ↔ a = b := by unfold eqB; exact @decide_eq_true_iff _ (Classical.propDecidable _)
theorem eqB_self {α : Type} (a : α) : eqB a a = true := eqB_iff.2 rfl

def sameintsT : FT
  | [.d (.sl 1 xs), .d (.sl 1 ys)], [] => .opt (unL unI xs) fun l => .br (eqB xs ys && decide ((l.length : Int) ≤ 100000)) (.leaf (.d (.bool true), [])) .fail
  | _, _ => .fail

def L_sameints_0 : ST → Tr (Ex × ST)
  | ⟨[(0, .d (.sl 1 xs)), (1, .d (.sl 1 ys)), (5, .d (.int .i64 n))], []⟩ => .opt (unL unI xs) fun l => .br (eqB xs ys && decide (n = 0 ∧ (l.length : Int) ≤ 100000)) (.leaf ((.ext 0), ⟨[], []⟩)) .fail
  | _ => .fail

noncomputable abbrev Xsi : TX := ⟨Tryd.prog, tbl [], iso, gl, vw⟩

theorem xok_Xsi (f : Nat) : XOK Xsi (ann f) gl := XOK.of base (l := []) trivial f

def l_sameints_0 : CC := .seq (.seq (.region [
    ⟨.yes, (some 11), .move (.tmp 5), false, false, []⟩,
    ⟨.yes, (some 12), .move (.tmp 0), false, false, [(some 1)]⟩,
    ⟨.yes, (some 13), .call ⟨.builtin .len, #[(.tmp 12)], #[33]⟩, false, false, []⟩,
    ⟨.yes, (some 14), .binOp .lss 3 (.tmp 11) (.tmp 13) 3, false, false, []⟩] [0, 1, 5, 14]) <|
  .cond (.tmp 14)
    (.skip)
    (.exit 0)) <|
  .seq (.block 1 <| .seq (.drawn ⟨[], [], [0, 1, 5, 25]⟩ [
    ⟨(some 17), .move (.tmp 0), 33, "ref.go:147", #[], none⟩,
    ⟨(some 18), .move (.tmp 5), 3, "ref.go:147", #[], none⟩,
    ⟨(some 19), .indexAddr 33 (.tmp 17) (.tmp 18), 0, "ref.go:147", #[⟨0, .data⟩, ⟨1, .data⟩], none⟩,
    ⟨(some 20), .load 3 (.tmp 19), 3, "ref.go:147", #[⟨2, .data⟩], none⟩,
    ⟨(some 21), .move (.tmp 1), 33, "ref.go:147", #[], none⟩,
    ⟨(some 22), .move (.tmp 5), 3, "ref.go:147", #[], none⟩,
    ⟨(some 23), .indexAddr 33 (.tmp 21) (.tmp 22), 0, "ref.go:147", #[⟨4, .data⟩, ⟨5, .data⟩], none⟩,
    ⟨(some 24), .load 3 (.tmp 23), 3, "ref.go:147", #[⟨6, .data⟩], none⟩,
    ⟨(some 25), .binOp .neq 3 (.tmp 20) (.tmp 24) 3, 4, "ref.go:147", #[⟨3, .data⟩, ⟨7, .data⟩], none⟩]) <|
  .cond (.tmp 25)
    (.seq (.region [
      ⟨.yes, (some 4), .assign (.const (.bool false)), false, false, []⟩] [4]) <|
    .ret)
    (.skip)) <|
  .region [
    ⟨.yes, (some 15), .move (.tmp 5), true, false, []⟩,
    ⟨.yes, (some 16), .binOp .add 3 (.tmp 15) (.const (.int .i64 (1))) 3, false, false, []⟩,
    ⟨.yes, (some 5), .assign (.tmp 16), true, false, []⟩] [0, 1, 5]

/-- rollbacknet/rollbacknetref03.SameInts -/
def c_sameints : CC := .seq (.region [
    ⟨.yes, (some 4), .assign (.const (.bool false)), false, false, []⟩] [0, 1]) <|
  .seq (.seq (.region [
    ⟨.yes, (some 6), .move (.tmp 0), false, false, [(some 1)]⟩,
    ⟨.yes, (some 7), .call ⟨.builtin .len, #[(.tmp 6)], #[33]⟩, false, false, []⟩,
    ⟨.yes, (some 8), .move (.tmp 1), false, false, [(some 1)]⟩,
    ⟨.yes, (some 9), .call ⟨.builtin .len, #[(.tmp 8)], #[33]⟩, false, false, []⟩,
    ⟨.yes, (some 10), .binOp .neq 3 (.tmp 7) (.tmp 9) 3, false, false, []⟩] [0, 1, 10]) <|
  .cond (.tmp 10)
    (.seq (.region [
      ⟨.yes, (some 4), .assign (.const (.bool false)), false, false, []⟩] [4]) <|
    .ret)
    (.skip)) <|
  .seq (.seq (.region [
    ⟨.yes, (some 5), .assign (.const (.int .i64 (0))), false, false, []⟩] [0, 1, 5]) <|
  .block 0 <| .keep [0, 1, 5] <| .sum L_sameints_0 (.loop l_sameints_0)) <|
  .seq (.region [
    ⟨.yes, (some 4), .assign (.const (.bool true)), false, false, []⟩] [4]) <|
  .ret

theorem c_sameints_eq : ∃ c, Tryd.f16.body = some c ∧ codeOK Tryd.f16.ntmps c = true ∧ comp Tryd.prog (ann 16) c = erase c_sameints := ⟨_, rfl, by kernel_rfl, by kernel_rfl⟩

theorem body_sameints_0 (xs ys : List DV) (n : Int) : bodyT Xsi [0, 1, 5] [4] [(0, [])] l_sameints_0 ⟨[(0, .d (.sl 1 xs)), (1, .d (.sl 1 ys)), (5, .d (.int .i64 n))], []⟩ = (
    .br (decide (n < (xs.length : Int)))
 (.br (decide ((0 : Int) ≤ n))
 (.opt ((xs[(Int.toNat n)]?).bind (unInt .i64)) fun y1 => .br (decide ((0 : Int) ≤ n))
 (.opt ((ys[(Int.toNat n)]?).bind (unInt .i64)) fun y2 => .br (!decide (y1 = y2))
 (.leaf (.ret, ⟨[(4, .d (.bool false))], []⟩))
 (.leaf (.nrm, ⟨[(0, .d (.sl 1 xs)), (1, .d (.sl 1 ys)), (5, .d (.int .i64 (IntKind.i64.wrap (n + 1))))], []⟩)))
 (.fail))
 (.fail))
 (.leaf ((.ext 0), ⟨[], []⟩)) : Tr (Ex × ST)) := by kernel_rfl

theorem tree_sameints (xs ys : List DV) : fnT Xsi c_sameints Tryd.f16.results.toList [.d (.sl 1 xs), .d (.sl 1 ys)] [] = (
    .br (!decide ((xs.length : Int) = (ys.length : Int)))
 (.leaf (.d (.bool false), []))
 (.opt (unL unI xs) fun l1 => .br (eqB xs ys && decide ((0 : Int) = 0 ∧ (l1.length : Int) ≤ 100000))
 (.leaf (.d (.bool true), []))
 (.fail)) : Tr (AV × Hp)) := by kernel_rfl

def sameexprT (N : Nat) : FT
  | [.agg [.d (.int .i64 o), .d (.int .i64 v), .d (.str nm), .d (.int .i64 sl), .d (.int .i64 sz), .d (.sl 6 ar)], .agg [.d (.int .i64 o2), .d (.int .i64 v2), .d (.str nm2), .d (.int .i64 sl2), .d (.int .i64 sz2), .d (.sl 6 ar2)]], [] => .br (eqB (⟨o, v, nm, sl, sz, ar⟩ : Xp) ⟨o2, v2, nm2, sl2, sz2, ar2⟩ && fitX N ⟨o, v, nm, sl, sz, ar⟩) (.leaf (.d (.bool true), [])) .fail
  | _, _ => .fail

def L_sameexpr_0 (N : Nat) : ST → Tr (Ex × ST)
  | ⟨[(2, .box [.d (.int .i64 o), .d (.int .i64 v), .d (.str nm), .d (.int .i64 sl), .d (.int .i64 sz), .d (.sl 6 ar)]), (3, .box [.d (.int .i64 o2), .d (.int .i64 v2), .d (.str nm2), .d (.int .i64 sl2), .d (.int .i64 sz2), .d (.sl 6 ar2)]), (5, .d (.int .i64 n))], []⟩ => .opt (unL unXp ar) fun l => .br (eqB ar ar2 && (decide (n = 0 ∧ (l.length : Int) ≤ 100000) && l.all (fitX N))) (.leaf ((.ext 0), ⟨[], []⟩)) .fail
  | _ => .fail

noncomputable abbrev Xse (N : Nat) : TX := ⟨Tryd.prog, tbl [(30, sameexprT N)], iso, gl, vw⟩

theorem xok_Xse (N : Nat) (h_sameexpr : FnOK Tryd.prog gl 30 (sameexprT N)) (f : Nat) : XOK (Xse N) (ann f) gl := XOK.of base (l := [(30, sameexprT N)]) ⟨h_sameexpr, trivial⟩ f

-- loop 0: live [2, 3, 5], exits {0: []}

def l_sameexpr_0 : CC := .seq (.seq (.region [
    ⟨.yes, (some 48), .move (.tmp 5), false, false, []⟩,
    ⟨.yes, (some 49), .fieldAddr 56 (.tmp 2) 5, false, false, []⟩,
    ⟨.yes, (some 50), .load 54 (.tmp 49), false, false, [(some 6)]⟩,
    ⟨.yes, (some 51), .call ⟨.builtin .len, #[(.tmp 50)], #[54]⟩, false, false, []⟩,
    ⟨.yes, (some 52), .binOp .lss 3 (.tmp 48) (.tmp 51) 3, false, false, []⟩] [2, 3, 5, 52]) <|
  .cond (.tmp 52)
    (.skip)
    (.exit 0)) <|
  .seq (.block 1 <| .seq (.drawn ⟨[], [], [2, 3, 5, 66]⟩ [
    ⟨(some 55), .fieldAddr 56 (.tmp 2) 5, 0, "ref.go:538", #[], none⟩,
    ⟨(some 56), .load 54 (.tmp 55), 54, "ref.go:538", #[⟨0, .data⟩], none⟩,
    ⟨(some 57), .move (.tmp 5), 3, "ref.go:538", #[], none⟩,
    ⟨(some 58), .indexAddr 54 (.tmp 56) (.tmp 57), 0, "ref.go:538", #[⟨1, .data⟩, ⟨2, .data⟩], none⟩,
    ⟨(some 59), .load 56 (.tmp 58), 56, "ref.go:538", #[⟨3, .data⟩], none⟩,
    ⟨(some 60), .fieldAddr 56 (.tmp 3) 5, 0, "ref.go:538", #[], none⟩,
    ⟨(some 61), .load 54 (.tmp 60), 54, "ref.go:538", #[⟨5, .data⟩], none⟩,
    ⟨(some 62), .move (.tmp 5), 3, "ref.go:538", #[], none⟩,
    ⟨(some 63), .indexAddr 54 (.tmp 61) (.tmp 62), 0, "ref.go:538", #[⟨6, .data⟩, ⟨7, .data⟩], none⟩,
    ⟨(some 64), .load 56 (.tmp 63), 56, "ref.go:538", #[⟨8, .data⟩], none⟩,
    ⟨(some 65), .call ⟨.value (.func 30), #[(.tmp 59), (.tmp 64)], #[56, 56]⟩, 4, "ref.go:538", #[⟨4, .data⟩, ⟨9, .data⟩], none⟩,
    ⟨(some 66), .unOp .not 4 (.tmp 65), 4, "ref.go:538", #[⟨10, .data⟩], none⟩]) <|
  .cond (.tmp 66)
    (.seq (.region [
      ⟨.yes, (some 4), .assign (.const (.bool false)), false, false, []⟩] [4]) <|
    .ret)
    (.skip)) <|
  .region [
    ⟨.yes, (some 53), .move (.tmp 5), true, false, []⟩,
    ⟨.yes, (some 54), .binOp .add 3 (.tmp 53) (.const (.int .i64 (1))) 3, false, false, []⟩,
    ⟨.yes, (some 5), .assign (.tmp 54), true, false, []⟩] [2, 3, 5]

def c_sameexpr (N : Nat) : CC := .seq (.region [
    ⟨.yes, (some 2), .box 56 (.tmp 0), true, false, []⟩,
    ⟨.yes, (some 3), .box 56 (.tmp 1), true, false, []⟩,
    ⟨.yes, (some 4), .assign (.const (.bool false)), false, false, []⟩] [2, 3]) <|
  .seq (.seq (.region [
    ⟨.yes, (some 6), .fieldAddr 56 (.tmp 2) 0, false, false, []⟩,
    ⟨.yes, (some 7), .load 3 (.tmp 6), false, false, []⟩,
    ⟨.yes, (some 8), .fieldAddr 56 (.tmp 3) 0, false, false, []⟩,
    ⟨.yes, (some 9), .load 3 (.tmp 8), false, false, []⟩,
    ⟨.yes, (some 10), .binOp .neq 3 (.tmp 7) (.tmp 9) 3, false, false, []⟩,
    ⟨.yes, (some 11), .move (.tmp 10), true, false, []⟩,
    ⟨(.on 11 false), (some 12), .fieldAddr 56 (.tmp 2) 1, false, false, []⟩,
    ⟨(.on 11 false), (some 13), .load 3 (.tmp 12), false, false, []⟩,
    ⟨(.on 11 false), (some 14), .fieldAddr 56 (.tmp 3) 1, false, false, []⟩,
    ⟨(.on 11 false), (some 15), .load 3 (.tmp 14), false, false, []⟩,
    ⟨(.on 11 false), (some 16), .binOp .neq 3 (.tmp 13) (.tmp 15) 3, false, false, []⟩,
    ⟨.yes, (some 17), .pick (.tmp 11) (.const (.bool true)) (.tmp 16), false, false, []⟩,
    ⟨.yes, (some 18), .move (.tmp 17), true, false, []⟩,
    ⟨(.on 18 false), (some 19), .fieldAddr 56 (.tmp 2) 2, false, false, []⟩,
    ⟨(.on 18 false), (some 20), .load 9 (.tmp 19), false, false, []⟩,
    ⟨(.on 18 false), (some 21), .fieldAddr 56 (.tmp 3) 2, false, false, []⟩,
    ⟨(.on 18 false), (some 22), .load 9 (.tmp 21), false, false, []⟩,
    ⟨(.on 18 false), (some 23), .binOp .neq 9 (.tmp 20) (.tmp 22) 9, false, false, []⟩,
    ⟨.yes, (some 24), .pick (.tmp 18) (.const (.bool true)) (.tmp 23), false, false, []⟩,
    ⟨.yes, (some 25), .move (.tmp 24), true, false, []⟩,
    ⟨(.on 25 false), (some 26), .fieldAddr 56 (.tmp 2) 3, false, false, []⟩,
    ⟨(.on 25 false), (some 27), .load 3 (.tmp 26), false, false, []⟩,
    ⟨(.on 25 false), (some 28), .fieldAddr 56 (.tmp 3) 3, false, false, []⟩,
    ⟨(.on 25 false), (some 29), .load 3 (.tmp 28), false, false, []⟩,
    ⟨(.on 25 false), (some 30), .binOp .neq 3 (.tmp 27) (.tmp 29) 3, false, false, []⟩,
    ⟨.yes, (some 31), .pick (.tmp 25) (.const (.bool true)) (.tmp 30), false, false, []⟩,
    ⟨.yes, (some 32), .move (.tmp 31), true, false, []⟩,
    ⟨(.on 32 false), (some 33), .fieldAddr 56 (.tmp 2) 4, false, false, []⟩,
    ⟨(.on 32 false), (some 34), .load 3 (.tmp 33), false, false, []⟩,
    ⟨(.on 32 false), (some 35), .fieldAddr 56 (.tmp 3) 4, false, false, []⟩,
    ⟨(.on 32 false), (some 36), .load 3 (.tmp 35), false, false, []⟩,
    ⟨(.on 32 false), (some 37), .binOp .neq 3 (.tmp 34) (.tmp 36) 3, false, false, []⟩,
    ⟨.yes, (some 38), .pick (.tmp 32) (.const (.bool true)) (.tmp 37), false, false, []⟩,
    ⟨.yes, (some 39), .move (.tmp 38), true, false, []⟩,
    ⟨(.on 39 false), (some 40), .fieldAddr 56 (.tmp 2) 5, false, false, []⟩,
    ⟨(.on 39 false), (some 41), .load 54 (.tmp 40), false, false, [(some 6)]⟩,
    ⟨(.on 39 false), (some 42), .call ⟨.builtin .len, #[(.tmp 41)], #[54]⟩, false, false, []⟩,
    ⟨(.on 39 false), (some 43), .fieldAddr 56 (.tmp 3) 5, false, false, []⟩,
    ⟨(.on 39 false), (some 44), .load 54 (.tmp 43), false, false, [(some 6)]⟩,
    ⟨(.on 39 false), (some 45), .call ⟨.builtin .len, #[(.tmp 44)], #[54]⟩, false, false, []⟩,
    ⟨(.on 39 false), (some 46), .binOp .neq 3 (.tmp 42) (.tmp 45) 3, false, false, []⟩,
    ⟨.yes, (some 47), .pick (.tmp 39) (.const (.bool true)) (.tmp 46), false, false, []⟩] [2, 3, 47]) <|
  .cond (.tmp 47)
    (.seq (.region [
      ⟨.yes, (some 4), .assign (.const (.bool false)), false, false, []⟩] [4]) <|
    .ret)
    (.skip)) <|
  .seq (.seq (.region [
    ⟨.yes, (some 5), .assign (.const (.int .i64 (0))), false, false, []⟩] [2, 3, 5]) <|
  .block 0 <| .keep [2, 3, 5] <| .sum (L_sameexpr_0 N) (.loop l_sameexpr_0)) <|
  .seq (.region [
    ⟨.yes, (some 4), .assign (.const (.bool true)), false, false, []⟩] [4]) <|
  .ret

theorem c_sameexpr_eq (N : Nat) : ∃ c, Tryd.f30.body = some c ∧ codeOK Tryd.f30.ntmps c = true ∧ comp Tryd.prog (ann 30) c = erase (c_sameexpr N) := ⟨_, rfl, by kernel_rfl, by kernel_rfl⟩

theorem body_sameexpr_0 (N : Nat) (ar ar2 : List DV) (nm nm2 : List UInt8) (o v sl sz o2 v2 sl2 sz2 n : Int) : bodyT (Xse N) [2, 3, 5] [4] [(0, [])] l_sameexpr_0 ⟨[(2, .box [.d (.int .i64 o), .d (.int .i64 v), .d (.str nm), .d (.int .i64 sl), .d (.int .i64 sz), .d (.sl 6 ar)]), (3, .box [.d (.int .i64 o2), .d (.int .i64 v2), .d (.str nm2), .d (.int .i64 sl2), .d (.int .i64 sz2), .d (.sl 6 ar2)]), (5, .d (.int .i64 n))], []⟩ = (
    .br (decide (n < (ar.length : Int)))
 (.br (decide ((0 : Int) ≤ n))
 (.opt ((ar[(Int.toNat n)]?).bind unXp) fun y1 => .br (decide ((0 : Int) ≤ n))
 (.opt ((ar2[(Int.toNat n)]?).bind unXp) fun y2 => .br (eqB (⟨y1.op, y1.value, y1.name, y1.slot, y1.size, y1.args⟩ : Xp) ⟨y2.op, y2.value, y2.name, y2.slot, y2.size, y2.args⟩ && fitX N ⟨y1.op, y1.value, y1.name, y1.slot, y1.size, y1.args⟩)
 (.br false
 (.leaf (.ret, ⟨[(4, .d (.bool false))], []⟩))
 (.leaf (.nrm, ⟨[(2, .box [.d (.int .i64 o), .d (.int .i64 v), .d (.str nm), .d (.int .i64 sl), .d (.int .i64 sz), .d (.sl 6 ar)]), (3, .box [.d (.int .i64 o2), .d (.int .i64 v2), .d (.str nm2), .d (.int .i64 sl2), .d (.int .i64 sz2), .d (.sl 6 ar2)]), (5, .d (.int .i64 (IntKind.i64.wrap (n + 1))))], []⟩)))
 (.fail))
 (.fail))
 (.fail))
 (.leaf ((.ext 0), ⟨[], []⟩)) : Tr (Ex × ST)) := by kernel_rfl

theorem tree_sameexpr (N : Nat) (ar ar2 : List DV) (nm nm2 : List UInt8) (o v sl sz o2 v2 sl2 sz2 : Int) : fnT (Xse N) (c_sameexpr N) Tryd.f30.results.toList [.agg [.d (.int .i64 o), .d (.int .i64 v), .d (.str nm), .d (.int .i64 sl), .d (.int .i64 sz), .d (.sl 6 ar)], .agg [.d (.int .i64 o2), .d (.int .i64 v2), .d (.str nm2), .d (.int .i64 sl2), .d (.int .i64 sz2), .d (.sl 6 ar2)]] [] = (
    .br (!decide (o = o2))
 (.leaf (.d (.bool false), []))
 (.br (!decide (v = v2))
 (.leaf (.d (.bool false), []))
 (.br (!decide (nm = nm2))
 (.leaf (.d (.bool false), []))
 (.br (!decide (sl = sl2))
 (.leaf (.d (.bool false), []))
 (.br (!decide (sz = sz2))
 (.leaf (.d (.bool false), []))
 (.br (!decide ((ar.length : Int) = (ar2.length : Int)))
 (.leaf (.d (.bool false), []))
 (.opt (unL unXp ar) fun l1 => .br (eqB ar ar2 && (decide ((0 : Int) = 0 ∧ (l1.length : Int) ≤ 100000) && l1.all (fitX N)))
 (.leaf (.d (.bool true), []))
 (.fail))))))) : Tr (AV × Hp)) := by kernel_rfl


theorem ne_self {α : Type} [DecidableEq α] (a : α) : (!decide (a = a)) = false := by simp

theorem sum_sameints_0 : SumOK Tryd.prog gl (ann 16) L_sameints_0 (.loop l_sameints_0) := by
  refine SumOK.range (X := Xsi) (xok_Xsi 16) (by simp only [Sums, l_sameints_0, and_true]) (by kernel_rfl) (lv := [0, 1, 5]) (rt := [4]) (xs := [(0, [])]) (by decide) unI_enc
    (σ := Unit)
    (fun e l n => ⟨[(0, .d (.sl 1 (l.map encI))), (1, .d (.sl 1 (l.map encI))), (5, .d (.int .i64 (n : Int)))], []⟩)
    (fun e l n => (l.length : Int) ≤ 100000)
    (fun e l n r => (.ext 0, ⟨[], []⟩)) ?_ ?_ ?_
  · intro st r h
    unfold L_sameints_0 at h
    split at h
    · rename_i xs ys n
      obtain ⟨l, hl, h0⟩ := Tr.opt_some h
      obtain rfl := unL_inv unI_ok hl
      rcases Tr.br_some h0 with ⟨h1, h2⟩ | ⟨_, h2⟩
      · simp only [Bool.and_eq_true, decide_eq_true_eq] at h1
        obtain ⟨h3, rfl, h4⟩ := h1
        obtain rfl := eqB_iff.1 h3
        exact ⟨(), l, 0, rfl, by omega, h4, (Tr.leaf_some h2).symm⟩
      · exact Tr.fail_some h2
    · exact Tr.fail_some h
  · rintro e l n h1 hn hb
    refine ⟨.ext 0, _, ?_, by simp, rfl⟩
    rw [body_sameints_0]
    exact Tr.dec_no (by simp; omega) rfl
  · rintro e l n v h1 hn hb hat
    have hw : IntKind.i64.wrap ((n : Int) + 1) = ((n + 1 : Nat) : Int) := by rw [wrap_in] <;> omega
    refine .inr ⟨e, ?_, h1, rfl⟩
    rw [body_sameints_0]
    refine Tr.dec_yes (by simp; omega) (Tr.dec_yes (by omega) (Tr.opt_to hat (Tr.dec_yes (by omega) (Tr.opt_to hat ((Tr.run_no (ne_self v)).trans ?_)))))
    rw [hw]; rfl

theorem ok_sameints : FnOK Tryd.prog gl 16 sameintsT := by
  refine fn_of (X := Xsi) (xok_Xsi 16) Tryd.func16 c_sameints_eq (by kernel_rfl) (by simp only [Sums, c_sameints, and_true, true_and]; exact sum_sameints_0) ?_
  intro xs H o h
  unfold sameintsT at h
  split at h
  · rename_i xs ys
    rw [tree_sameints]
    obtain ⟨l, hl, h0⟩ := Tr.opt_some h
    rcases Tr.br_some h0 with ⟨h1, h2⟩ | ⟨_, h2⟩
    · simp only [Bool.and_eq_true, decide_eq_true_eq] at h1
      obtain rfl := Tr.leaf_some h2
      obtain rfl := eqB_iff.1 h1.1
      refine (Tr.run_no (ne_self _)).trans (Tr.opt_to hl ((Tr.run_yes ?_).trans rfl))
      rw [eqB_self]; simpa using h1.2
    · exact Tr.fail_some h2
  · exact Tr.fail_some h


theorem sum_sameexpr_0 (N : Nat) (h : FnOK Tryd.prog gl 30 (sameexprT N)) : SumOK Tryd.prog gl (ann 30) (L_sameexpr_0 N) (.loop l_sameexpr_0) := by
  refine SumOK.range (X := Xse N) (xok_Xse N h 30) (by simp only [Sums, l_sameexpr_0, and_true]) (by kernel_rfl) (lv := [2, 3, 5]) (rt := [4]) (xs := [(0, [])]) (by decide) unXp_enc
    (σ := Xp × Xp)
    (fun e l n => ⟨[(2, .box [.d (.int .i64 e.1.op), .d (.int .i64 e.1.value), .d (.str e.1.name), .d (.int .i64 e.1.slot), .d (.int .i64 e.1.size), .d (.sl 6 (l.map encXp))]), (3, .box [.d (.int .i64 e.2.op), .d (.int .i64 e.2.value), .d (.str e.2.name), .d (.int .i64 e.2.slot), .d (.int .i64 e.2.size), .d (.sl 6 (l.map encXp))]), (5, .d (.int .i64 (n : Int)))], []⟩)
    (fun e l n => (l.length : Int) ≤ 100000 ∧ l.all (fitX N) = true)
    (fun e l n r => (.ext 0, ⟨[], []⟩)) ?_ ?_ ?_
  · intro st r h
    unfold L_sameexpr_0 at h
    split at h
    · rename_i o v nm sl sz ar o2 v2 nm2 sl2 sz2 ar2 n
      obtain ⟨l, hl, h0⟩ := Tr.opt_some h
      obtain rfl := unL_inv unXp_ok hl
      rcases Tr.br_some h0 with ⟨h1, h2⟩ | ⟨_, h2⟩
      · simp only [Bool.and_eq_true, decide_eq_true_eq] at h1
        obtain ⟨h3, ⟨rfl, h4⟩, h5⟩ := h1
        obtain rfl := eqB_iff.1 h3
        exact ⟨(⟨o, v, nm, sl, sz, []⟩, ⟨o2, v2, nm2, sl2, sz2, []⟩), l, 0, rfl, by omega, ⟨h4, h5⟩, (Tr.leaf_some h2).symm⟩
      · exact Tr.fail_some h2
    · exact Tr.fail_some h
  · rintro e l n ⟨h1, h2⟩ hn hb
    refine ⟨.ext 0, _, ?_, by simp, rfl⟩
    rw [body_sameexpr_0]
    exact Tr.dec_no (by simp; omega) rfl
  · rintro e l n v ⟨h1, h2⟩ hn hb hat
    have hfit : fitX N v = true := (List.all_eq_true.1 h2) v (List.mem_of_getElem? hb)
    have hw : IntKind.i64.wrap ((n : Int) + 1) = ((n + 1 : Nat) : Int) := by rw [wrap_in] <;> omega
    refine .inr ⟨e, ?_, ⟨h1, h2⟩, rfl⟩
    rw [body_sameexpr_0]
    refine Tr.dec_yes (by simp; omega) (Tr.dec_yes (by omega) (Tr.opt_to hat (Tr.dec_yes (by omega) (Tr.opt_to hat ((Tr.run_yes ?_).trans ((Tr.run_no rfl).trans ?_))))))
    · show (eqB v v && fitX N v) = true
      rw [eqB_self, hfit]; rfl
    · rw [hw]; rfl

theorem ok_sameexpr : ∀ N : Nat, FnOK Tryd.prog gl 30 (sameexprT N)
  | 0 => by
    refine ⟨⟨_, Tryd.func30, rfl⟩, fun ar H v H' h => ?_⟩
    unfold sameexprT at h
    split at h
    · rcases Tr.br_some h with ⟨h1, h2⟩ | ⟨_, h2⟩
      · simp [fitX] at h1
      · exact Tr.fail_some h2
    · exact Tr.fail_some h
  | N + 1 => by
    have ih := ok_sameexpr N
    refine fn_of (X := Xse N) (xok_Xse N ih 30) Tryd.func30 (c_sameexpr_eq N) (by kernel_rfl) (by simp only [Sums, c_sameexpr, and_true, true_and]; exact sum_sameexpr_0 N ih) ?_
    intro ar H r h
    unfold sameexprT at h
    split at h
    · rename_i o v nm sl sz ar o2 v2 nm2 sl2 sz2 ar2
      rw [tree_sameexpr]
      rcases Tr.br_some h with ⟨h1, h2⟩ | ⟨_, h2⟩
      · obtain rfl := Tr.leaf_some h2
        simp only [Bool.and_eq_true] at h1
        obtain ⟨h0, h1⟩ := h1
        have h0 := eqB_iff.1 h0
        simp only [Xp.mk.injEq] at h0
        obtain ⟨rfl, rfl, rfl, rfl, rfl, rfl⟩ := h0
        unfold fitX at h1
        split at h1
        · rename_i l hl
          simp only [Bool.and_eq_true, decide_eq_true_eq] at h1
          obtain ⟨⟨h3, h4⟩, h5⟩ := h1
          have hl' : unL unXp ar = some l := hl
          refine (Tr.run_no (ne_self _)).trans ((Tr.run_no (ne_self _)).trans ((Tr.run_no (ne_self _)).trans ((Tr.run_no (ne_self _)).trans ((Tr.run_no (ne_self _)).trans ((Tr.run_no (ne_self _)).trans (Tr.opt_to hl' ((Tr.run_yes ?_).trans rfl)))))))
          rw [eqB_self, h5, Bool.and_true, Bool.true_and]
          exact decide_eq_true ⟨rfl, h3⟩
        · cases h1
      · exact Tr.fail_some h2
    · exact Tr.fail_some h

theorem ok_sameexpr9 : FnOK Tryd.prog gl 30 (sameexprT 9) := ok_sameexpr 9

def samestmtsT (N : Nat) : FT
  | [.d (.sl 18 ss), .d (.sl 18 tt)], [] => .br (eqB ss tt && fitS N ss) (.leaf (.d (.bool true), [])) .fail
  | _, _ => .fail

def L_samestmts_0 (N : Nat) : ST → Tr (Ex × ST)
  | ⟨[(0, .d (.sl 18 ss)), (1, .d (.sl 18 tt)), (5, .d (.int .i64 n))], []⟩ => .opt (unL unSt ss) fun l => .br (eqB ss tt && (decide (n = 0 ∧ (l.length : Int) ≤ 100000) && l.all (fit1 N))) (.leaf ((.ext 0), ⟨[], []⟩)) .fail
  | _ => .fail

noncomputable abbrev Xsm (N : Nat) : TX := ⟨Tryd.prog, tbl [(30, (sameexprT 9)), (17, samestmtsT N)], iso, gl, vw⟩

theorem xok_Xsm (N : Nat) (h_samestmts : FnOK Tryd.prog gl 17 (samestmtsT N)) (f : Nat) : XOK (Xsm N) (ann f) gl := XOK.of base (l := [(30, (sameexprT 9)), (17, samestmtsT N)]) ⟨ok_sameexpr9, h_samestmts, trivial⟩ f

-- loop 0: live [0, 1, 5], exits {0: []}

def l_samestmts_0 : CC := .seq (.seq (.region [
    ⟨.yes, (some 13), .move (.tmp 5), false, false, []⟩,
    ⟨.yes, (some 14), .move (.tmp 0), false, false, [(some 18)]⟩,
    ⟨.yes, (some 15), .call ⟨.builtin .len, #[(.tmp 14)], #[27]⟩, false, false, []⟩,
    ⟨.yes, (some 16), .binOp .lss 3 (.tmp 13) (.tmp 15) 3, false, false, []⟩] [0, 1, 5, 16]) <|
  .cond (.tmp 16)
    (.skip)
    (.exit 0)) <|
  .seq (.block 1 <| .seq (.drawn ⟨[10, 11], [], [0, 1, 5, 6, 7]⟩ [
    ⟨(some 19), .move (.tmp 0), 27, "ref.go:551", #[], none⟩,
    ⟨(some 20), .move (.tmp 5), 3, "ref.go:551", #[], none⟩,
    ⟨(some 21), .indexAddr 27 (.tmp 19) (.tmp 20), 0, "ref.go:551", #[⟨0, .data⟩, ⟨1, .data⟩], none⟩,
    ⟨(some 22), .load 59 (.tmp 21), 59, "ref.go:551", #[⟨2, .data⟩], none⟩,
    ⟨(some 23), .move (.tmp 1), 27, "ref.go:551", #[⟨10, .gcOnly .lateStores⟩], none⟩,
    ⟨(some 24), .move (.tmp 5), 3, "ref.go:551", #[⟨10, .gcOnly .lateStores⟩], none⟩,
    ⟨(some 25), .indexAddr 27 (.tmp 23) (.tmp 24), 0, "ref.go:551", #[⟨4, .data⟩, ⟨5, .data⟩, ⟨10, .gcOnly .lateStores⟩], none⟩,
    ⟨(some 26), .load 59 (.tmp 25), 59, "ref.go:551", #[⟨6, .data⟩, ⟨10, .gcOnly .lateStores⟩], none⟩,
    ⟨(some 6), .alloc 59, 0, "ref.go:551", #[], none⟩,
    ⟨(some 7), .alloc 59, 0, "ref.go:551", #[], none⟩,
    ⟨none, .store 59 (.tmp 6) (.tmp 22), 0, "ref.go:551", #[⟨8, .data⟩, ⟨3, .data⟩, ⟨0, .phase⟩, ⟨1, .phase⟩, ⟨2, .phase⟩, ⟨3, .phase⟩, ⟨4, .textOnly .lateStores⟩, ⟨5, .textOnly .lateStores⟩, ⟨6, .textOnly .lateStores⟩, ⟨7, .textOnly .lateStores⟩, ⟨8, .phase⟩, ⟨9, .phase⟩], none⟩,
    ⟨none, .store 59 (.tmp 7) (.tmp 26), 0, "ref.go:551", #[⟨9, .data⟩, ⟨7, .data⟩, ⟨10, .chain⟩, ⟨0, .phase⟩, ⟨1, .phase⟩, ⟨2, .phase⟩, ⟨3, .phase⟩, ⟨4, .phase⟩, ⟨5, .phase⟩, ⟨6, .phase⟩, ⟨7, .phase⟩, ⟨8, .phase⟩, ⟨9, .phase⟩, ⟨10, .phase⟩], none⟩]) <|
  .seq (.region [
    ⟨.yes, (some 27), .fieldAddr 59 (.tmp 6) 0, false, false, []⟩,
    ⟨.yes, (some 28), .load 3 (.tmp 27), false, false, []⟩,
    ⟨.yes, (some 29), .fieldAddr 59 (.tmp 7) 0, false, false, []⟩,
    ⟨.yes, (some 30), .load 3 (.tmp 29), false, false, []⟩,
    ⟨.yes, (some 31), .binOp .neq 3 (.tmp 28) (.tmp 30) 3, false, false, []⟩,
    ⟨.yes, (some 32), .move (.tmp 31), true, false, []⟩,
    ⟨(.on 32 false), (some 33), .fieldAddr 59 (.tmp 6) 1, false, false, []⟩,
    ⟨(.on 32 false), (some 34), .load 9 (.tmp 33), false, false, []⟩,
    ⟨(.on 32 false), (some 35), .fieldAddr 59 (.tmp 7) 1, false, false, []⟩,
    ⟨(.on 32 false), (some 36), .load 9 (.tmp 35), false, false, []⟩,
    ⟨(.on 32 false), (some 37), .binOp .neq 9 (.tmp 34) (.tmp 36) 9, false, false, []⟩,
    ⟨.yes, (some 38), .pick (.tmp 32) (.const (.bool true)) (.tmp 37), false, false, []⟩,
    ⟨.yes, (some 39), .move (.tmp 38), true, false, []⟩,
    ⟨(.on 39 false), (some 40), .fieldAddr 59 (.tmp 6) 2, false, false, []⟩,
    ⟨(.on 39 false), (some 41), .load 3 (.tmp 40), false, false, []⟩,
    ⟨(.on 39 false), (some 42), .fieldAddr 59 (.tmp 7) 2, false, false, []⟩,
    ⟨(.on 39 false), (some 43), .load 3 (.tmp 42), false, false, []⟩,
    ⟨(.on 39 false), (some 44), .binOp .neq 3 (.tmp 41) (.tmp 43) 3, false, false, []⟩,
    ⟨.yes, (some 45), .pick (.tmp 39) (.const (.bool true)) (.tmp 44), false, false, []⟩,
    ⟨.yes, (some 46), .move (.tmp 45), true, false, []⟩,
    ⟨(.on 46 false), (some 47), .fieldAddr 59 (.tmp 6) 3, false, false, []⟩,
    ⟨(.on 46 false), (some 48), .load 3 (.tmp 47), false, false, []⟩,
    ⟨(.on 46 false), (some 49), .fieldAddr 59 (.tmp 7) 3, false, false, []⟩,
    ⟨(.on 46 false), (some 50), .load 3 (.tmp 49), false, false, []⟩,
    ⟨(.on 46 false), (some 51), .binOp .neq 3 (.tmp 48) (.tmp 50) 3, false, false, []⟩,
    ⟨.yes, (some 52), .pick (.tmp 46) (.const (.bool true)) (.tmp 51), false, false, []⟩,
    ⟨.yes, (some 53), .move (.tmp 52), true, false, []⟩,
    ⟨(.on 53 false), (some 54), .fieldAddr 59 (.tmp 6) 4, false, false, []⟩,
    ⟨(.on 53 false), (some 55), .load 56 (.tmp 54), false, false, [none, none, none, none, none, (some 6)]⟩,
    ⟨(.on 53 false), (some 56), .fieldAddr 59 (.tmp 7) 4, false, false, []⟩,
    ⟨(.on 53 false), (some 57), .load 56 (.tmp 56), false, false, [none, none, none, none, none, (some 6)]⟩,
    ⟨(.on 53 false), (some 58), .call ⟨.value (.func 30), #[(.tmp 55), (.tmp 57)], #[56, 56]⟩, false, false, []⟩,
    ⟨(.on 53 false), (some 59), .unOp .not 4 (.tmp 58), false, false, []⟩,
    ⟨.yes, (some 60), .pick (.tmp 53) (.const (.bool true)) (.tmp 59), false, false, []⟩,
    ⟨.yes, (some 61), .move (.tmp 60), true, false, []⟩,
    ⟨(.on 61 false), (some 62), .fieldAddr 59 (.tmp 6) 5, false, false, []⟩,
    ⟨(.on 61 false), (some 63), .load 56 (.tmp 62), false, false, [none, none, none, none, none, (some 6)]⟩,
    ⟨(.on 61 false), (some 64), .fieldAddr 59 (.tmp 7) 5, false, false, []⟩,
    ⟨(.on 61 false), (some 65), .load 56 (.tmp 64), false, false, [none, none, none, none, none, (some 6)]⟩,
    ⟨(.on 61 false), (some 66), .call ⟨.value (.func 30), #[(.tmp 63), (.tmp 65)], #[56, 56]⟩, false, false, []⟩,
    ⟨(.on 61 false), (some 67), .unOp .not 4 (.tmp 66), false, false, []⟩,
    ⟨.yes, (some 68), .pick (.tmp 61) (.const (.bool true)) (.tmp 67), false, false, []⟩,
    ⟨.yes, (some 69), .move (.tmp 68), true, false, []⟩,
    ⟨(.on 69 false), (some 70), .fieldAddr 59 (.tmp 6) 6, false, false, []⟩,
    ⟨(.on 69 false), (some 71), .load 27 (.tmp 70), false, false, [(some 18)]⟩,
    ⟨(.on 69 false), (some 72), .fieldAddr 59 (.tmp 7) 6, false, false, []⟩,
    ⟨(.on 69 false), (some 73), .load 27 (.tmp 72), false, false, [(some 18)]⟩,
    ⟨(.on 69 false), (some 74), .call ⟨.value (.func 17), #[(.tmp 71), (.tmp 73)], #[27, 27]⟩, false, false, []⟩,
    ⟨(.on 69 false), (some 75), .unOp .not 4 (.tmp 74), false, false, []⟩,
    ⟨.yes, (some 76), .pick (.tmp 69) (.const (.bool true)) (.tmp 75), false, false, []⟩,
    ⟨.yes, (some 77), .move (.tmp 76), true, false, []⟩,
    ⟨(.on 77 false), (some 78), .fieldAddr 59 (.tmp 6) 7, false, false, []⟩,
    ⟨(.on 77 false), (some 79), .load 27 (.tmp 78), false, false, [(some 18)]⟩,
    ⟨(.on 77 false), (some 80), .fieldAddr 59 (.tmp 7) 7, false, false, []⟩,
    ⟨(.on 77 false), (some 81), .load 27 (.tmp 80), false, false, [(some 18)]⟩,
    ⟨(.on 77 false), (some 82), .call ⟨.value (.func 17), #[(.tmp 79), (.tmp 81)], #[27, 27]⟩, false, false, []⟩,
    ⟨(.on 77 false), (some 83), .unOp .not 4 (.tmp 82), false, false, []⟩,
    ⟨.yes, (some 84), .pick (.tmp 77) (.const (.bool true)) (.tmp 83), false, false, []⟩] [0, 1, 5, 84]) <|
  .cond (.tmp 84)
    (.seq (.region [
      ⟨.yes, (some 4), .assign (.const (.bool false)), false, false, []⟩] [4]) <|
    .ret)
    (.skip)) <|
  .region [
    ⟨.yes, (some 17), .move (.tmp 5), true, false, []⟩,
    ⟨.yes, (some 18), .binOp .add 3 (.tmp 17) (.const (.int .i64 (1))) 3, false, false, []⟩,
    ⟨.yes, (some 5), .assign (.tmp 18), true, false, []⟩] [0, 1, 5]

def c_samestmts (N : Nat) : CC := .seq (.region [
    ⟨.yes, (some 4), .assign (.const (.bool false)), false, false, []⟩] [0, 1]) <|
  .seq (.seq (.region [
    ⟨.yes, (some 8), .move (.tmp 0), false, false, [(some 18)]⟩,
    ⟨.yes, (some 9), .call ⟨.builtin .len, #[(.tmp 8)], #[27]⟩, false, false, []⟩,
    ⟨.yes, (some 10), .move (.tmp 1), false, false, [(some 18)]⟩,
    ⟨.yes, (some 11), .call ⟨.builtin .len, #[(.tmp 10)], #[27]⟩, false, false, []⟩,
    ⟨.yes, (some 12), .binOp .neq 3 (.tmp 9) (.tmp 11) 3, false, false, []⟩] [0, 1, 12]) <|
  .cond (.tmp 12)
    (.seq (.region [
      ⟨.yes, (some 4), .assign (.const (.bool false)), false, false, []⟩] [4]) <|
    .ret)
    (.skip)) <|
  .seq (.seq (.region [
    ⟨.yes, (some 5), .assign (.const (.int .i64 (0))), false, false, []⟩] [0, 1, 5]) <|
  .block 0 <| .keep [0, 1, 5] <| .sum (L_samestmts_0 N) (.loop l_samestmts_0)) <|
  .seq (.region [
    ⟨.yes, (some 4), .assign (.const (.bool true)), false, false, []⟩] [4]) <|
  .ret

theorem c_samestmts_eq (N : Nat) : ∃ c, Tryd.f17.body = some c ∧ codeOK Tryd.f17.ntmps c = true ∧ comp Tryd.prog (ann 17) c = erase (c_samestmts N) := ⟨_, rfl, by kernel_rfl, by kernel_rfl⟩

theorem body_samestmts_0 (N : Nat) (ss tt : List DV) (n : Int) : bodyT (Xsm N) [0, 1, 5] [4] [(0, [])] l_samestmts_0 ⟨[(0, .d (.sl 18 ss)), (1, .d (.sl 18 tt)), (5, .d (.int .i64 n))], []⟩ = (
    .br (decide (n < (ss.length : Int)))
 (.br (decide ((0 : Int) ≤ n))
 (.opt ((ss[(Int.toNat n)]?).bind unSt) fun y1 => .br (decide ((0 : Int) ≤ n))
 (.opt ((tt[(Int.toNat n)]?).bind unSt) fun y2 => .br (!decide (y1.kind = y2.kind))
 (.leaf (.ret, ⟨[(4, .d (.bool false))], []⟩))
 (.br (!decide (y1.name = y2.name))
 (.leaf (.ret, ⟨[(4, .d (.bool false))], []⟩))
 (.br (!decide (y1.slot = y2.slot))
 (.leaf (.ret, ⟨[(4, .d (.bool false))], []⟩))
 (.br (!decide (y1.size = y2.size))
 (.leaf (.ret, ⟨[(4, .d (.bool false))], []⟩))
 (.br (eqB (⟨y1.place.op, y1.place.value, y1.place.name, y1.place.slot, y1.place.size, y1.place.args⟩ : Xp) ⟨y2.place.op, y2.place.value, y2.place.name, y2.place.slot, y2.place.size, y2.place.args⟩ && fitX 9 ⟨y1.place.op, y1.place.value, y1.place.name, y1.place.slot, y1.place.size, y1.place.args⟩)
 (.br false
 (.leaf (.ret, ⟨[(4, .d (.bool false))], []⟩))
 (.br (eqB (⟨y1.value.op, y1.value.value, y1.value.name, y1.value.slot, y1.value.size, y1.value.args⟩ : Xp) ⟨y2.value.op, y2.value.value, y2.value.name, y2.value.slot, y2.value.size, y2.value.args⟩ && fitX 9 ⟨y1.value.op, y1.value.value, y1.value.name, y1.value.slot, y1.value.size, y1.value.args⟩)
 (.br false
 (.leaf (.ret, ⟨[(4, .d (.bool false))], []⟩))
 (.br (eqB y1.body y2.body && fitS N y1.body)
 (.br false
 (.leaf (.ret, ⟨[(4, .d (.bool false))], []⟩))
 (.br (eqB y1.els y2.els && fitS N y1.els)
 (.br false
 (.leaf (.ret, ⟨[(4, .d (.bool false))], []⟩))
 (.leaf (.nrm, ⟨[(0, .d (.sl 18 ss)), (1, .d (.sl 18 tt)), (5, .d (.int .i64 (IntKind.i64.wrap (n + 1))))], []⟩)))
 (.fail)))
 (.fail)))
 (.fail)))
 (.fail))))))
 (.fail))
 (.fail))
 (.leaf ((.ext 0), ⟨[], []⟩)) : Tr (Ex × ST)) := by kernel_rfl

theorem tree_samestmts (N : Nat) (ss tt : List DV) : fnT (Xsm N) (c_samestmts N) Tryd.f17.results.toList [.d (.sl 18 ss), .d (.sl 18 tt)] [] = (
    .br (!decide ((ss.length : Int) = (tt.length : Int)))
 (.leaf (.d (.bool false), []))
 (.opt (unL unSt ss) fun l1 => .br (eqB ss tt && (decide ((0 : Int) = 0 ∧ (l1.length : Int) ≤ 100000) && l1.all (fit1 N)))
 (.leaf (.d (.bool true), []))
 (.fail)) : Tr (AV × Hp)) := by kernel_rfl


theorem sum_samestmts_0 (N : Nat) (h : FnOK Tryd.prog gl 17 (samestmtsT N)) : SumOK Tryd.prog gl (ann 17) (L_samestmts_0 N) (.loop l_samestmts_0) := by
  refine SumOK.range (X := Xsm N) (xok_Xsm N h 17) (by simp only [Sums, l_samestmts_0, and_true]) (by kernel_rfl) (lv := [0, 1, 5]) (rt := [4]) (xs := [(0, [])]) (by decide) unSt_enc
    (σ := Unit)
    (fun e l n => ⟨[(0, .d (.sl 18 (l.map encSt))), (1, .d (.sl 18 (l.map encSt))), (5, .d (.int .i64 (n : Int)))], []⟩)
    (fun e l n => (l.length : Int) ≤ 100000 ∧ l.all (fit1 N) = true)
    (fun e l n r => (.ext 0, ⟨[], []⟩)) ?_ ?_ ?_
  · intro st r h
    unfold L_samestmts_0 at h
    split at h
    · rename_i ss tt n
      obtain ⟨l, hl, h0⟩ := Tr.opt_some h
      obtain rfl := unL_inv unSt_ok hl
      rcases Tr.br_some h0 with ⟨h1, h2⟩ | ⟨_, h2⟩
      · simp only [Bool.and_eq_true, decide_eq_true_eq] at h1
        obtain ⟨h3, ⟨rfl, h4⟩, h5⟩ := h1
        obtain rfl := eqB_iff.1 h3
        exact ⟨(), l, 0, rfl, by omega, ⟨h4, h5⟩, (Tr.leaf_some h2).symm⟩
      · exact Tr.fail_some h2
    · exact Tr.fail_some h
  · rintro e l n ⟨h1, h2⟩ hn hb
    refine ⟨.ext 0, _, ?_, by simp, rfl⟩
    rw [body_samestmts_0]
    exact Tr.dec_no (by simp; omega) rfl
  · rintro e l n v ⟨h1, h2⟩ hn hb hat
    have hfit : fit1 N v = true := (List.all_eq_true.1 h2) v (List.mem_of_getElem? hb)
    have hw : IntKind.i64.wrap ((n : Int) + 1) = ((n + 1 : Nat) : Int) := by rw [wrap_in] <;> omega
    refine .inr ⟨e, ?_, ⟨h1, h2⟩, rfl⟩
    rw [body_samestmts_0]
    simp only [fit1, Bool.and_eq_true, decide_eq_true_eq] at hfit
    obtain ⟨f1, f2, f3, f4, f5⟩ := hfit
    have e1 : ∀ w : Xp, fitX 9 w = true → (eqB w w && fitX 9 w) = true := fun w hw => by rw [eqB_self, hw]; rfl
    have e2 : ∀ w : List DV, fitS N w = true → (eqB w w && fitS N w) = true := fun w hw => by rw [eqB_self, hw]; rfl
    refine Tr.dec_yes (by simp; omega) (Tr.dec_yes (by omega) (Tr.opt_to hat (Tr.dec_yes (by omega) (Tr.opt_to hat ?_))))
    refine (Tr.run_no (ne_self _)).trans ((Tr.run_no (ne_self _)).trans ((Tr.run_no (ne_self _)).trans ((Tr.run_no (ne_self _)).trans ?_)))
    refine (Tr.run_yes (e1 v.place f1)).trans ((Tr.run_no rfl).trans ((Tr.run_yes (e1 v.value f2)).trans ((Tr.run_no rfl).trans ((Tr.run_yes (e2 v.body f3)).trans ((Tr.run_no rfl).trans ((Tr.run_yes (e2 v.els f4)).trans ((Tr.run_no rfl).trans ?_)))))))
    rw [hw]; rfl

theorem ok_samestmts : ∀ N : Nat, FnOK Tryd.prog gl 17 (samestmtsT N)
  | 0 => by
    refine ⟨⟨_, Tryd.func17, rfl⟩, fun ar H v H' h => ?_⟩
    unfold samestmtsT at h
    split at h
    · rcases Tr.br_some h with ⟨h1, h2⟩ | ⟨_, h2⟩
      · simp [fitS] at h1
      · exact Tr.fail_some h2
    · exact Tr.fail_some h
  | N + 1 => by
    have ih := ok_samestmts N
    refine fn_of (X := Xsm N) (xok_Xsm N ih 17) Tryd.func17 (c_samestmts_eq N) (by kernel_rfl) (by simp only [Sums, c_samestmts, and_true, true_and]; exact sum_samestmts_0 N ih) ?_
    intro ar H r h
    unfold samestmtsT at h
    split at h
    · rename_i ss tt
      rw [tree_samestmts]
      rcases Tr.br_some h with ⟨h1, h2⟩ | ⟨_, h2⟩
      · obtain rfl := Tr.leaf_some h2
        simp only [Bool.and_eq_true] at h1
        obtain ⟨h0, h1⟩ := h1
        obtain rfl := eqB_iff.1 h0
        unfold fitS at h1
        split at h1
        · rename_i l hl
          simp only [Bool.and_eq_true, decide_eq_true_eq] at h1
          obtain ⟨h3, h5⟩ := h1
          refine (Tr.run_no (ne_self _)).trans (Tr.opt_to hl ((Tr.run_yes ?_).trans rfl))
          rw [eqB_self, Bool.true_and, Bool.and_eq_true]
          exact ⟨decide_eq_true ⟨rfl, h3⟩, h5⟩
        · cases h1
      · exact Tr.fail_some h2
    · exact Tr.fail_some h
end
end Go.AI.RD
