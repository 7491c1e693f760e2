/- From the interpreter to a row. -/
import Derived.Test.YtkkmdjkahdglhaaAiSim
import Derived.Below
namespace Go.AI
set_option linter.unusedVariables false
set_option linter.unusedSimpArgs false
open Go.RowKit

/-- A law that the interpreter finds true. -/
theorem law_of {P : Program} {iso : FuncId → Bool} {ann : FuncId → Ann} (hP : Fit P ann) {k f : Nat} {xs : List AV} {H : Hp} {Φ : Mem} {W : World} (h : callF P iso (fun _ => none) ann k f xs [] = some (.d (.bool true), H))
    (hw : WOK Φ W.heap) {vals : List Value} (ha : All2 (fun a x => AR1 ⟨Φ, W.heap, []⟩ a x []) xs vals) :
    Calls P f vals.toArray W fun e W' => e = .returned (.bool true) ∧ Below W.heap.size W W' := by
  refine (callF_sound hP k f xs [] _ H h W Φ [] [] vals hw (fun g x hg => by simp at hg) ha rfl List.nodup_nil).mono ?_
  rintro e W' ⟨x, rfl, Φ', μ', BH', hv, _, _, hI⟩
  have hx : x = .bool true := by
    have := hv.1
    cases this; rfl
  refine ⟨by rw [hx], hI.io.os, hI.io.tape, hI.io.output, hI.size, fun r hr => ?_⟩
  exact (hI.keep r hr (by simp)).1

theorem wok_none (heap : Array Obj) : WOK (fun _ _ => none) heap := fun r o v h => by simp at h

end Go.AI
