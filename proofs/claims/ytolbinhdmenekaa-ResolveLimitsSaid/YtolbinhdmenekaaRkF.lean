/- The laws of chapter 3 about declarations. -/
import Derived.Test.YtolbinhdmenekaaRkE
namespace Go.AI.RK
open Go Go.Proofs
set_option maxRecDepth 10000
set_option linter.unusedVariables false
set_option linter.unusedSimpArgs false
def looksT : FT
  | [.d (.sl 3 xs), .d (.str nm), .d (.int .i64 n)], [] => .opt (unL unVar xs) fun l => .leaf (.d (.bool true), [])
  | _, _ => .fail

noncomputable abbrev Xlk : TX := ⟨Try.prog, tbl [(5, awakeT), (6, modT), (7, lookupT), (8, rlookupT)], iso, gl, vw⟩

theorem xok_Xlk (f : Nat) : XOK Xlk (ann f) gl := XOK.of base (l := [(5, awakeT), (6, modT), (7, lookupT), (8, rlookupT)]) ⟨ok_awake, ok_mod, ok_lookup, ok_rlookup, trivial⟩ f

/-- rollbacknet/rollbacknetlaw03.ResolveLooks -/
def c_looks : CC := .seq (.region [
    ⟨.yes, (some 6), .assign (.const (.bool false)), false, false, []⟩] [0, 1, 2]) <|
  .seq (.seq (.region [
    ⟨.yes, (some 13), .call ⟨.value (.func 5), #[], #[]⟩, false, false, []⟩,
    ⟨.yes, (some 14), .unOp .not 4 (.tmp 13), false, false, []⟩] [0, 1, 2, 14]) <|
  .cond (.tmp 14)
    (.seq (.region [
      ⟨.yes, (some 6), .assign (.const (.bool false)), false, false, []⟩] [6]) <|
    .ret)
    (.skip)) <|
  .seq (.seq (.region [
    ⟨.yes, (some 15), .move (.tmp 0), false, false, [(some 3)]⟩,
    ⟨.yes, (some 16), .call ⟨.builtin .len, #[(.tmp 15)], #[22]⟩, false, false, []⟩,
    ⟨.yes, (some 17), .binOp .gtr 3 (.tmp 16) (.const (.int .i64 (30))) 3, false, false, []⟩] [0, 1, 2, 17]) <|
  .cond (.tmp 17)
    (.seq (.region [
      ⟨.yes, (some 6), .assign (.const (.bool true)), false, false, []⟩] [6]) <|
    .ret)
    (.skip)) <|
  .seq (.seq (.region [
    ⟨.yes, (some 18), .move (.tmp 0), false, false, [(some 3)]⟩,
    ⟨.yes, (some 19), .call ⟨.builtin .len, #[(.tmp 18)], #[22]⟩, false, false, []⟩,
    ⟨.yes, (some 20), .binOp .gtr 3 (.tmp 19) (.const (.int .i64 (0))) 3, false, false, []⟩,
    ⟨.yes, (some 21), .move (.tmp 20), true, false, []⟩,
    ⟨(.on 21 true), (some 22), .move (.tmp 2), false, false, []⟩,
    ⟨(.on 21 true), (some 23), .binOp .rem 3 (.tmp 22) (.const (.int .i64 (2))) 3, false, false, []⟩,
    ⟨(.on 21 true), (some 24), .binOp .eql 3 (.tmp 23) (.const (.int .i64 (0))) 3, false, false, []⟩,
    ⟨.yes, (some 25), .pick (.tmp 21) (.tmp 24) (.const (.bool false)), false, false, []⟩] [0, 1, 2, 25]) <|
  .cond (.tmp 25)
    (.region [
      ⟨.yes, (some 26), .move (.tmp 0), false, false, [(some 3)]⟩,
      ⟨.yes, (some 27), .move (.tmp 2), true, false, []⟩,
      ⟨.yes, (some 28), .move (.tmp 0), false, false, [(some 3)]⟩,
      ⟨.yes, (some 29), .call ⟨.builtin .len, #[(.tmp 28)], #[22]⟩, false, false, []⟩,
      ⟨.yes, (some 30), .call ⟨.value (.func 6), #[(.tmp 27), (.tmp 29)], #[3, 3]⟩, false, false, []⟩,
      ⟨.yes, (some 31), .indexAddr 22 (.tmp 26) (.tmp 30), false, false, []⟩,
      ⟨.yes, (some 32), .fieldAddr 25 (.tmp 31) 0, false, false, []⟩,
      ⟨.yes, (some 33), .load 9 (.tmp 32), false, false, []⟩,
      ⟨.yes, (some 1), .assign (.tmp 33), true, false, []⟩] [0, 1])
    (.skip)) <|
  .seq (.region [
    ⟨.yes, (some 35), .move (.tmp 0), false, false, [(some 3)]⟩,
    ⟨.yes, (some 36), .move (.tmp 1), false, false, []⟩,
    ⟨.yes, (some 37), .call ⟨.value (.func 7), #[(.tmp 35), (.tmp 36)], #[22, 9]⟩, false, false, []⟩,
    ⟨.yes, (some 34), .move (.tmp 37), true, false, []⟩,
    ⟨.yes, (some 38), .extract (.tmp 34) 0, false, false, []⟩,
    ⟨.yes, (some 39), .extract (.tmp 34) 1, false, false, []⟩,
    ⟨.yes, (some 40), .extract (.tmp 34) 2, false, false, []⟩,
    ⟨.yes, (some 7), .assign (.tmp 38), true, false, []⟩,
    ⟨.yes, (some 8), .assign (.tmp 39), true, false, []⟩,
    ⟨.yes, (some 9), .assign (.tmp 40), true, false, []⟩] [0, 1, 7, 8, 9]) <|
  .seq (.region [
    ⟨.yes, (some 42), .move (.tmp 0), true, false, [(some 3)]⟩,
    ⟨.yes, (some 43), .move (.tmp 1), true, false, []⟩,
    ⟨.yes, (some 44), .call ⟨.value (.func 8), #[(.tmp 42), (.tmp 43)], #[22, 9]⟩, false, false, []⟩,
    ⟨.yes, (some 41), .move (.tmp 44), true, false, []⟩,
    ⟨.yes, (some 45), .extract (.tmp 41) 0, false, false, []⟩,
    ⟨.yes, (some 46), .extract (.tmp 41) 1, false, false, []⟩,
    ⟨.yes, (some 47), .extract (.tmp 41) 2, false, false, []⟩,
    ⟨.yes, (some 10), .assign (.tmp 45), true, false, []⟩,
    ⟨.yes, (some 11), .assign (.tmp 46), true, false, []⟩,
    ⟨.yes, (some 12), .assign (.tmp 47), true, false, []⟩] [7, 8, 9, 10, 11, 12]) <|
  .seq (.region [
    ⟨.yes, (some 48), .move (.tmp 7), true, false, []⟩,
    ⟨.yes, (some 49), .move (.tmp 10), true, false, []⟩,
    ⟨.yes, (some 50), .binOp .eql 3 (.tmp 48) (.tmp 49) 3, false, false, []⟩,
    ⟨.yes, (some 51), .move (.tmp 50), true, false, []⟩,
    ⟨(.on 51 true), (some 52), .move (.tmp 8), true, false, []⟩,
    ⟨(.on 51 true), (some 53), .move (.tmp 11), true, false, []⟩,
    ⟨(.on 51 true), (some 54), .binOp .eql 3 (.tmp 52) (.tmp 53) 3, false, false, []⟩,
    ⟨.yes, (some 55), .pick (.tmp 51) (.tmp 54) (.const (.bool false)), false, false, []⟩,
    ⟨.yes, (some 56), .move (.tmp 55), true, false, []⟩,
    ⟨(.on 56 true), (some 57), .move (.tmp 9), true, false, []⟩,
    ⟨(.on 56 true), (some 58), .move (.tmp 12), true, false, []⟩,
    ⟨(.on 56 true), (some 59), .binOp .eql 4 (.tmp 57) (.tmp 58) 4, false, false, []⟩,
    ⟨.yes, (some 60), .pick (.tmp 56) (.tmp 59) (.const (.bool false)), false, false, []⟩,
    ⟨.yes, (some 6), .assign (.tmp 60), true, false, []⟩] [6]) <|
  .ret

theorem c_looks_eq : ∃ c, Try.f3.body = some c ∧ codeOK Try.f3.ntmps c = true ∧ comp Try.prog (ann 3) c = erase c_looks := ⟨_, rfl, by kernel_rfl, by kernel_rfl⟩

theorem tree_looks (xs : List DV) (nm : List UInt8) (n : Int) : fnT Xlk c_looks Try.f3.results.toList [.d (.sl 3 xs), .d (.str nm), .d (.int .i64 n)] [] = (
    .br false
    (.leaf ((.d (.bool false)), []))
    (.br (decide ((30 : Int) < (xs.length : Int)))
      (.leaf ((.d (.bool true)), []))
      (.br (decide ((0 : Int) < (xs.length : Int)))
        (.br (decide ((2 : Int) = 0))
          (.fail)
          (.br (decide ((Int.tmod n 2) = 0))
            (.br (decide ((xs.length : Int) = 0))
              (.fail)
              (.br (decide ((0 : Int) ≤ (modR n (xs.length : Int))))
                (.opt ((xs[(Int.toNat (modR n (xs.length : Int)))]?).bind unVar) fun y1 => .opt (unL unVar xs) fun l2 => .br (decide ((l2.length : Int) ≤ big))
                  (.opt (unL unVar xs) fun l3 => .br (decide ((l3.length : Int) ≤ big))
                    (.br (decide (((lk (lookG l2 y1.name 0)).1) = (((lookR l3 y1.name 0).getD (0, 0, false)).1)))
                      (.br (decide (((lk (lookG l2 y1.name 0)).2.1) = (((lookR l3 y1.name 0).getD (0, 0, false)).2.1)))
                        (.leaf ((.d (.bool (((lk (lookG l2 y1.name 0)).2.2) == (((lookR l3 y1.name 0).getD (0, 0, false)).2.2)))), []))
                        (.leaf ((.d (.bool false)), [])))
                      (.leaf ((.d (.bool false)), [])))
                    (.fail))
                  (.fail))
                (.fail)))
            (.opt (unL unVar xs) fun l4 => .br (decide ((l4.length : Int) ≤ big))
              (.opt (unL unVar xs) fun l5 => .br (decide ((l5.length : Int) ≤ big))
                (.br (decide (((lk (lookG l4 nm 0)).1) = (((lookR l5 nm 0).getD (0, 0, false)).1)))
                  (.br (decide (((lk (lookG l4 nm 0)).2.1) = (((lookR l5 nm 0).getD (0, 0, false)).2.1)))
                    (.leaf ((.d (.bool (((lk (lookG l4 nm 0)).2.2) == (((lookR l5 nm 0).getD (0, 0, false)).2.2)))), []))
                    (.leaf ((.d (.bool false)), [])))
                  (.leaf ((.d (.bool false)), [])))
                (.fail))
              (.fail))))
        (.opt (unL unVar xs) fun l6 => .br (decide ((l6.length : Int) ≤ big))
          (.opt (unL unVar xs) fun l7 => .br (decide ((l7.length : Int) ≤ big))
            (.br (decide (((lk (lookG l6 nm 0)).1) = (((lookR l7 nm 0).getD (0, 0, false)).1)))
              (.br (decide (((lk (lookG l6 nm 0)).2.1) = (((lookR l7 nm 0).getD (0, 0, false)).2.1)))
                (.leaf ((.d (.bool (((lk (lookG l6 nm 0)).2.2) == (((lookR l7 nm 0).getD (0, 0, false)).2.2)))), []))
                (.leaf ((.d (.bool false)), [])))
              (.leaf ((.d (.bool false)), [])))
            (.fail))
          (.fail)))) : Tr (AV × Hp)) := by kernel_rfl


theorem modR_in {n m : Int} (h : 0 < m) (h2 : m ≤ 4294967296) : 0 ≤ modR n m ∧ modR n m < m := by
  have h3 : n.tmod m < m := Int.tmod_lt_of_pos n h
  have h4 : -m < n.tmod m := by
    have h6 := Int.tmod_lt_of_pos (-n) h
    rw [Int.neg_tmod] at h6
    omega
  unfold modR
  split
  · rw [wrap_in] <;> omega
  · omega

theorem two_looks {l : List Var} {nm : List UInt8} {o : AV × Hp} (ho : o = (.d (.bool true), [])) {xs : List DV} (hl : unL unVar xs = some l) (h : (l.length : Int) ≤ big) :
    (Tr.opt (unL unVar xs) fun l4 => .br (decide ((l4.length : Int) ≤ big))
      (.opt (unL unVar xs) fun l5 => .br (decide ((l5.length : Int) ≤ big))
        (.br (decide (((lk (lookG l4 nm 0)).1) = (((lookR l5 nm 0).getD (0, 0, false)).1)))
          (.br (decide (((lk (lookG l4 nm 0)).2.1) = (((lookR l5 nm 0).getD (0, 0, false)).2.1)))
            (.leaf ((.d (.bool (((lk (lookG l4 nm 0)).2.2) == (((lookR l5 nm 0).getD (0, 0, false)).2.2)))), []))
            (.leaf ((.d (.bool false)), [])))
          (.leaf ((.d (.bool false)), [])))
        (.fail))
      (.fail) : Tr (AV × Hp)).run = some o := by
  subst ho
  refine Tr.opt_to hl (Tr.dec_yes h (Tr.opt_to hl (Tr.dec_yes h ?_)))
  have := look_eq l nm 0 (by omega)
  rw [this]
  simp [Tr.run_br, Tr.run_leaf]

theorem ok_looks : FnOK Try.prog gl 3 looksT := by
  refine fn_of (X := Xlk) (xok_Xlk 3) Try.func3 c_looks_eq (by kernel_rfl) (by simp only [Sums, c_looks, and_true]) ?_
  intro xs H o h
  unfold looksT at h
  split at h
  · rename_i xs nm n
    rw [tree_looks]
    obtain ⟨l, hl, h⟩ := Tr.opt_some h
    · obtain rfl := Tr.leaf_some h
      have hx := unL_inv unVar_ok hl
      have hlen : xs.length = l.length := by rw [hx, List.length_map]
      refine Tr.run_no rfl |>.trans ?_
      by_cases h4 : (30 : Int) < (xs.length : Int)
      · exact Tr.dec_yes h4 rfl
      refine Tr.dec_no h4 ?_
      have h3 : (l.length : Int) ≤ big := by unfold big; omega
      by_cases h5 : (0 : Int) < (xs.length : Int)
      · refine Tr.dec_yes h5 (Tr.dec_no (by omega) ?_)
        by_cases h6 : Int.tmod n 2 = 0
        · refine Tr.dec_yes h6 (Tr.dec_no (by omega) ?_)
          obtain ⟨h7, h8⟩ := modR_in (n := n) h5 (by omega)
          refine Tr.dec_yes h7 ?_
          have h9 : (modR n (xs.length : Int)).toNat < l.length := by omega
          refine Tr.opt_to (y := l[(modR n (xs.length : Int)).toNat]) ?_ (two_looks rfl hl h3)
          have h10 : ((l.map encVar)[(modR n (xs.length : Int)).toNat]?).bind unVar = l[(modR n (xs.length : Int)).toNat]? := at_map unVar_enc l _
          rw [← hx] at h10
          rw [h10, List.getElem?_eq_getElem h9]
        · exact Tr.dec_no h6 (two_looks rfl hl h3)
      · exact Tr.dec_no h5 (two_looks rfl hl h3)
  · exact Tr.fail_some h

end Go.AI.RK
