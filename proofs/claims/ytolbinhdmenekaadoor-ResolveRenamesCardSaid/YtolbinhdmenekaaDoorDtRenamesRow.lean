/- For every list of choices, rollbacknetlaw03.ResolveRenames returns true, and what it was handed reads as before: a drawn program with other names has the same code, but for the names. The names of drawn programs are laid by the program's own text (tied card). -/
import Derived.Test.YtolbinhdmenekaaDoorDsRow
import Derived.Test.YtolbinhdmenekaaDoorDtD
import Derived.Test.YtolbinhdmenekaaDoorRows
import Derived.Test.YtolbinhdmenekaaDoorCards
import Derived.Test.YtolbinhdmenekaaDoorTie
import Derived.WalkKit
import Derived.ProofKit
import Derived.OpenShut
import Derived.ChangeOld
import Derived.ChangeSame
import Derived.ChangeVars
import Derived.JoinedOf
import Derived.SizedLaws
import Derived.Carry
import Derived.LaidLaws
import Derived.LaidHandle
import Derived.SevenTiedAt
import Derived.Stop.Joined
namespace Go.Proofs.YtolbinhdmenekaaDoor.resolveRenames
open Go.ChangeShapes Go.WideShapes Go.ChangeAt Go.RowKit
set_option linter.unusedVariables false
set_option linter.unusedSimpArgs false

theorem walk (s : List UInt8) (v0 : Value) (W : World) (h0 : AI.CR (AI.full W) (.sl 1 (s.map AI.RD.encU8)) v0) (hg : AI.GOK AI.RD.gl (AI.full W)) : Calls Tryd.prog 5 #[v0] W fun e W' => e = .returned (.bool true) ∧ Below W.heap.size W W' := by
  obtain ⟨H, hr⟩ := AI.RD.lrenames_run s
  exact AI.law_of AI.RD.ok_lrenamesR (xs := [.d (.sl 1 (s.map AI.RD.encU8))]) (H := H) (Φ := AI.full W) hr (AI.wok_full _) hg (vals := [v0]) (.cons ⟨h0, rfl⟩ .nil)

theorem own : ownKnob Tryd.prog.godebug = none := by kernel_rfl
theorem laidOut : laidOutB Tryd.prog = true := by kernel_rfl

set_option maxRecDepth 100000 in
theorem lifted (os : Os) (started : os.Started) (H : Type) (enc : TypeId × Value → H) :
    ReturnsInHanded {} Tryd.checked os 5 .any (fun w args => (Rows.resolveRenamesSpec.pre enc Tryd.prog Tryd.f5 [] false w args ∧ laidMetH Tryd.prog Rows.resolveRenamesRow.laid w) ∧ sizedMet enc Tryd.prog Tryd.f5 (OpenSpec.ofChange Rows.resolveRenamesSpec) false w args)
      (Rows.resolveRenamesSpec.post enc Tryd.prog Tryd.f5 false true false false) := by
  refine returnsInHanded_of_change_and (C := Tryd.checked) (X := fun w _ => laidMetH Tryd.prog Rows.resolveRenamesRow.laid w) (fun _ _ _ hh h => h.of_heap hh) own started (by kernel_rfl) Tryd.func5
    (ChangeSpec.witness_at (enc := enc) (C := Tryd.checked) (os := os) (X := fun w _ => laidMetH Tryd.prog Rows.resolveRenamesRow.laid w) false (AI.RD.laidWorld os) #[.slice none 0 0] 8 rfl (by kernel_rfl) (by kernel_rfl) (by kernel_rfl) (by kernel_rfl) (by kernel_rfl) (AI.RD.laidWorld_met os _)) ?_
  intro W base args ds gs before hval0 hW _ _ hL _
  have hval : ∀ (j : Nat) t v, Tryd.f5.params[j]? = some t → args[j]? = some v → Value.okWide Tryd.prog W .any base t v := hval0
  have hW' := hW
  have hlt := hW'.lt
  obtain ⟨p, q, hA0, hV, rfl, hfz, hnd⟩ := hW
  have hA : DataW.TrodAll enc Tryd.prog W 0 (fun _ => true) true Tryd.f5.params.toList args.toList ds p := hA0
  rw [Tryd.params5] at hA hval
  obtain ⟨v0, vs0, d0, ds0, p0, q0, hargs, rfl, rfl, h0, r0⟩ := trodAll_cons hA
  obtain ⟨rfl, rfl, rfl⟩ := trodAll_nil r0
  obtain rfl : args = #[v0] := by cases args; simp_all
  obtain ⟨rfl, rfl⟩ := trodVars_none hV
  obtain ⟨s, hs⟩ := AI.open_row (sz := 1) (en := AI.RD.encU8) (fun _ => rfl) Tryd.underlying22 (by kernel_rfl) (hval 0 22 v0 rfl rfl) AI.RD.elemU8 h0
  have hg := AI.RD.gok_of_laid hL
  clear hA0 hval0
  refine (walk s v0 W hs hg).mono fun e W' ⟨he, bel⟩ => ?_
  subst he
  refine ⟨_, rfl, _, _, _, [], _, [], hW', trodAll_mk1 (shut_bool Tryd.underlying4 _), (trodAll_cons_mk (Below.trod laidOut (by kernel_rfl) (of_decide_eq_true (by kernel_rfl)) h0 bel fun x hx => ?_) trodAll_mk0), rfl, bel.frame _, fun h => by cases h⟩
  exact hlt x (by simp [hx])

theorem over : Rows.ResolveRenamesSaid :=
  OpenClaim.holds_of_wide 5 Tryd.f5 rfl rfl rfl rfl rfl rfl rfl ⟨rfl, rfl, rfl, rfl, rfl⟩ rfl rfl rfl rfl rfl (by kernel_rfl) Tryd.func5 (by kernel_rfl)
    (of_decide_eq_true (by kernel_rfl)) (by unfold Func.isWrapper; first | (rw [if_pos (by decide +kernel)]; kernel_rfl) | (rw [if_neg (by decide +kernel)]; exact ⟨rfl, rfl⟩))
    (fun os started H enc _ => lifted os started H enc)

theorem proved : Rows.ResolveRenamesCardSaid :=
  Claim7.holds_tied_plain_at .later [] [.data, .data] true (true, "87da42fcfd54b75ab3135c69ab746707f0875cf1d0b7003cbe3f6a1b883e8766") false
    over (fun _ h => by cases h) (by kernel_rfl) (fun _ h => by cases h) resolveRenames_row_tie rfl ⟨rfl, rfl⟩ (by kernel_rfl) rfl
    (fun f fn hf hfn => by
      obtain rfl : f = 5 := Option.some.inj ((show Tryd.prog.funcNamed "rollbacknet/rollbacknetlaw03.ResolveRenames" = some 5 by kernel_rfl).symm.trans hf) |>.symm
      obtain rfl : fn = Tryd.f5 := (Option.some.inj (Tryd.func5.symm.trans hfn)).symm
      exact ⟨by kernel_rfl, fun j t ht => by
        rw [Tryd.params5] at ht
        have h3 : t = 22 := by
          rcases j with _ | j
          · simpa using ht.symm
          · simp at ht
        subst h3
        exact (show Tryd.prog.wantsStandIn 22 = false by kernel_rfl)⟩)
    (by kernel_rfl)
#print axioms proved
end Go.Proofs.YtolbinhdmenekaaDoor.resolveRenames
