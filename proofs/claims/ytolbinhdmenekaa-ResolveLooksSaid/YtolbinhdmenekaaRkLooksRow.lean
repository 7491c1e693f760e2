/- For every list of declarations, name and number, rollbacknetlaw03.ResolveLooks returns true, and what it was handed reads as before: resolve.Lookup says of any declarations where the cells of one lie, as the document does. No condition beyond those of the row. -/
import Derived.Test.YtolbinhdmenekaaRkF
import Derived.Test.YtolbinhdmenekaaAxArg
import Derived.Test.YtolbinhdmenekaaRows
import Derived.WalkKit
import Derived.ProofKit
import Derived.OpenShut
import Derived.ShutString
import Derived.ChangeOld
import Derived.SizedLaws
import Derived.Carry
namespace Go.Proofs.Ytolbinhdmenekaa.resolveLooks
open Go.ChangeShapes Go.WideShapes Go.ChangeAt Go.RowKit
open Go.ChangeMaps (open_string shut_string)
set_option linter.unusedVariables false
set_option linter.unusedSimpArgs false

theorem walk (l : List AI.RK.Var) (v0 : Value) (a1 : ByteArray) (a2 : Int) (W : World) (h0 : AI.CR (AI.full W) (.sl 3 (l.map AI.RK.encVar)) v0) : Calls Try.prog 3 #[v0, .string a1, .int .i64 a2] W fun e W' => e = .returned (.bool true) ∧ Below W.heap.size W W' := by
  refine AI.law_of AI.RK.ok_looks (xs := [.d (.sl 3 (l.map AI.RK.encVar)), .d (.str a1.data.toList), .d (.int .i64 a2)]) (H := []) (Φ := AI.full W) ?_ (AI.wok_full _) (fun g x hg => by simp [AI.RK.gl] at hg) (vals := [v0, .string a1, .int .i64 a2])
    (.cons ⟨h0, rfl⟩ (.cons ⟨.str _ _ rfl, rfl⟩ (.cons ⟨.int _ _, rfl⟩ .nil)))
  exact AI.Tr.opt_to (AI.unL_map AI.RK.unVar_enc l) rfl

theorem own : ownKnob Try.prog.godebug = none := by kernel_rfl
theorem laid : laidOutB Try.prog = true := by kernel_rfl

theorem elem {H : Type} {enc : TypeId × Value → H} {w : World} {base : Nat} {spare : Nat → Bool} {held : Bool} (n : Nat) (cs : List Value) (x : DataW H × List MemPlace) (h : DataW.trod enc Try.prog w base spare held n 25 cs = some x) :
    ∃ y : AI.RK.Var, AI.All2 (AI.CR (AI.full w)) (AI.RK.encVar y).cells cs := by
  obtain ⟨xs, m, _, _, hlen, hxl, hf⟩ := DataW.trod_struct Try.underlying25 h
  have h25 : Try.prog.cellsOf 25 = 3 := by kernel_rfl
  have h9 : Try.prog.cellsOf 9 = 1 := by kernel_rfl
  have h3 : Try.prog.cellsOf 3 = 1 := by kernel_rfl
  rw [h25] at hlen
  match cs, hlen, xs, hxl with
  | [c0, c1, c2], _, [x0, x1, x2], _ =>
    have f0 := hf 0 _ rfl
    have f1 := hf 1 _ rfl
    have f2 := hf 2 _ rfl
    simp only [h9, h3, List.drop, List.take, List.getElem?_cons_zero, List.getElem?_cons_succ] at f0 f1 f2
    obtain ⟨s, e0, _⟩ := DataW.trod_string Try.underlying9 f0
    obtain ⟨k1, e1, _⟩ := DataW.trod_int Try.underlying3 f1
    obtain ⟨k2, e2, _⟩ := DataW.trod_int Try.underlying3 f2
    cases e0; cases e1; cases e2
    exact ⟨⟨s.data.toList, k1, k2⟩, .cons (.str _ _ rfl) (.cons (.int _ _) (.cons (.int _ _) .nil))⟩

instance : Inhabited AI.RK.Var := ⟨⟨[], 0, 0⟩⟩

set_option maxRecDepth 100000 in
theorem lifted (os : Os) (started : os.Started) (H : Type) (enc : TypeId × Value → H) :
    ReturnsInHanded {} Try.checked os 3 .any (Rows.resolveLooksSpec.pre6 enc Try.prog Try.f3 Rows.resolveLooksRow.domain false) (Rows.resolveLooksSpec.post enc Try.prog Try.f3 false true false false) := by
  refine returnsInHanded_of_change_sized (C := Try.checked) own started (by kernel_rfl) Try.func3
    (ChangeSpec.witness6 (enc := enc) (C := Try.checked) false ⟨#[], #[.slice none 0 0, .string ByteArray.empty, .int .i64 0], []⟩ 8 (by kernel_rfl) (by kernel_rfl) (by kernel_rfl) (by kernel_rfl)) ?_
  intro W base args ds gs before hval0 hW hcnd hsz0 _
  have hval : ∀ (j : Nat) t v, Try.f3.params[j]? = some t → args[j]? = some v → Value.okWide Try.prog W .any base t v := hval0
  have hW' := hW
  have hlt := hW'.lt
  obtain ⟨p, q, hA0, hV, rfl, hfz, hnd⟩ := hW
  have hA : DataW.TrodAll enc Try.prog W 0 (fun _ => true) true Try.f3.params.toList args.toList ds p := hA0
  rw [Try.params3] at hA hval
  obtain ⟨v0, vs0, d0, ds0, p0, q0, hargs, rfl, rfl, h0, r0⟩ := trodAll_cons hA
  obtain ⟨v1, vs1, d1, ds1, p1, q1, rfl, rfl, rfl, h1, r1⟩ := trodAll_cons r0
  obtain ⟨v2, vs2, d2, ds2, p2, q2, rfl, rfl, rfl, h2, r2⟩ := trodAll_cons r1
  obtain ⟨rfl, rfl, rfl⟩ := trodAll_nil r2
  obtain rfl : args = #[v0, v1, v2] := by cases args; simp_all
  obtain ⟨rfl, rfl⟩ := trodVars_none hV
  obtain ⟨a1, rfl, rfl, rfl, y1⟩ := open_string Try.underlying9 (hval 1 9 v1 rfl rfl) h1
  obtain ⟨a2, rfl, rfl, rfl, w2⟩ := open_int Try.underlying3 (hval 2 3 v2 rfl rfl) h2
  obtain ⟨l, hl⟩ := AI.open_row (sz := 3) (en := AI.RK.encVar) (fun _ => rfl) Try.underlying22 (by kernel_rfl) (hval 0 22 v0 rfl rfl) elem h0
  clear hA0 hval0 hsz0
  refine (walk l v0 a1 a2 W hl).mono fun e W' ⟨he, bel⟩ => ?_
  subst he
  refine ⟨_, rfl, _, _, _, [], _, [], hW', trodAll_mk1 (shut_bool Try.underlying4 _), (trodAll_cons_mk (Below.trod laid (by kernel_rfl) (of_decide_eq_true (by kernel_rfl)) h0 bel fun x hx => ?_) (trodAll_cons_mk (shut_string Try.underlying9 y1) (trodAll_cons_mk (shut_int Try.underlying3 w2) trodAll_mk0))), rfl, bel.frame _, fun h => by cases h⟩
  exact hlt x (by simp [hx])

theorem over : Rows.resolveLooksRow.holds Try.pinned (OpenSpec.ofChange Rows.resolveLooksSpec) :=
  OpenClaim.holds_of_wide 3 Try.f3 rfl rfl rfl rfl rfl rfl rfl ⟨rfl, rfl, rfl, rfl, rfl⟩ rfl rfl rfl rfl rfl (by kernel_rfl) Try.func3 (by kernel_rfl)
    (of_decide_eq_true (by kernel_rfl)) (by unfold Func.isWrapper; first | (rw [if_pos (by decide +kernel)]; kernel_rfl) | (rw [if_neg (by decide +kernel)]; exact ⟨rfl, rfl⟩))
    (fun os started H enc _ => lifted os started H enc)
theorem proved : Rows.ResolveLooksSaid := over
#print axioms proved
end Go.Proofs.Ytolbinhdmenekaa.resolveLooks
