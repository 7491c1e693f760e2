/- What the laid variables of this seat give a walk: the names of drawn programs lie in memory. -/
import Derived.Test.YtolbinhdmenekaaDoorDsA
import Derived.Test.YtolbinhdmenekaaDoorAxPoke
import Derived.Test.YtolbinhdmenekaaDoorRows
import Derived.WalkKit
import Derived.ProofKit
import Derived.OpenShut
import Derived.LaidLaws
import Derived.LaidHandle
import Derived.FnData
namespace Go.AI.RD
open Go Go.Proofs Go.Proofs.YtolbinhdmenekaaDoor
set_option maxRecDepth 100000
set_option linter.unusedVariables false
set_option linter.unusedSimpArgs false

theorem g0 : Tryd.prog.globalNamed "rollbacknet/rollbacknetmake.scalars" = some 0 := by kernel_rfl
theorem g1 : Tryd.prog.globalNamed "rollbacknet/rollbacknetmake.arrays" = some 1 := by kernel_rfl
theorem gt0 : (Tryd.prog.globals[0]?).map (·.type) = some 76 := by kernel_rfl
theorem gt1 : (Tryd.prog.globals[1]?).map (·.type) = some 77 := by kernel_rfl

abbrev laidL : List (String × DataW Unit) := [("rollbacknet/rollbacknetmake.scalars", Rows.laid_rollbacknet_rollbacknetmake_scalars), ("rollbacknet/rollbacknetmake.arrays", Rows.laid_rollbacknet_rollbacknetmake_arrays)]

/-- An array of texts that reads as known. -/
theorem strs_of {W : World} {t e : TypeId} {n fuel : Nat} {cs : List Value} {p : List MemPlace} {d : DataW Unit} (ht : Tryd.prog.underlying t = some (.array n e)) (he : Tryd.prog.underlying e = some .string) (hc : Tryd.prog.cellsOf e = 1) (hn : Tryd.prog.cellsOf t = n)
    {l : List (List UInt8)} (hd : d = .agg (l.map fun s => .lit (.string s))) (h : DataW.trod (fun _ => ()) Tryd.prog W 0 (fun _ => true) false fuel t cs = some (d, p)) :
    ∀ (i : Nat) (s : List UInt8), l[i]? = some s → ∃ b : ByteArray, cs[i]? = some (.string b) ∧ b.data.toList = s := by
  obtain ⟨xs, m, _, hx, hl, hxl, hf⟩ := DataW.trod_array ht h
  subst hd
  simp only [Prod.mk.injEq, DataW.agg.injEq] at hx
  intro i s hi
  have hlen : l.length = n := by rw [← hxl]; have := congrArg List.length hx.1; simpa using this
  have hin : i < n := by rw [← hlen]; exact (List.getElem?_eq_some_iff.1 hi).1
  have h1 := hf i hin
  have h2 : (xs.map (·.1))[i]? = some (.lit (.string s)) := by rw [← hx.1, List.getElem?_map, hi]; rfl
  rw [List.getElem?_map] at h2
  cases hxi : xs[i]? with
  | none => rw [hxi] at h2; cases h2
  | some x =>
    rw [hxi] at h2 h1
    rw [hc, Nat.mul_one] at h1
    obtain ⟨b, e1, e2, _⟩ := DataW.trod_string he h1
    refine ⟨b, ?_, ?_⟩
    · have h3 : ((cs.drop i).take 1)[0]? = some (Value.string b) := by rw [e1]; rfl
      rw [List.getElem?_take, List.getElem?_drop] at h3
      simpa using h3
    · rw [e2] at h2
      simp only [Option.map_some, Option.some.injEq, DataW.lit.injEq, Lit.string.injEq] at h2
      exact h2

theorem ptr_of {W : World} {n : String} {g : Nat} {cs : Array Value} {l : List (List UInt8)} (hg : Tryd.prog.globalNamed n = some g) (hv : W.var? Tryd.prog n = some cs)
    (h : ∀ (i : Nat) (s : List UInt8), l[i]? = some s → ∃ b : ByteArray, cs.toList[i]? = some (.string b) ∧ b.data.toList = s) : AI.PtR (AI.full W) (.agg (l.map .str)) ⟨g, 0, none⟩ := by
  refine ⟨rfl, fun j c hj => ?_⟩
  have hj' : (l.map DV.str)[j]? = some c := hj
  rw [List.getElem?_map] at hj'
  cases hl : l[j]? with
  | none => rw [hl] at hj'; cases hj'
  | some s =>
    rw [hl] at hj'
    obtain rfl := Option.some.inj hj'
    obtain ⟨b, h1, h2⟩ := h j s hl
    have h3 := World.var?_cell hg hv j
    refine ⟨.string b, ?_, .str _ _ h2⟩
    have := AI.full_cell (h3.trans (by rw [← Array.getElem?_toList]; exact h1))
    simpa using this

theorem gok_of_laid {W : World} (h : laidMetH Tryd.prog laidL W) : AI.GOK gl (AI.full W) := by
  have h' : laidMet Tryd.prog laidL W := h
  obtain ⟨ps, ⟨ga, ta, ca, fa, pa, qa, a1, a2, a3, a4, ⟨gb, tb, cb, fb, pb, qb, b1, b2, b3, b4, _⟩, _⟩, _⟩ := h'
  obtain rfl := Option.some.inj (g0.symm.trans a1)
  obtain rfl := Option.some.inj (g1.symm.trans b1)
  obtain rfl := Option.some.inj (gt0.symm.trans a2)
  obtain rfl := Option.some.inj (gt1.symm.trans b2)
  intro g x hg
  unfold gl at hg
  split at hg
  · obtain rfl := Option.some.inj hg
    exact ptr_of (l := [[120], [121], [122]]) g0 a3 (strs_of Tryd.underlying76 Tryd.underlying9 (by kernel_rfl) (by kernel_rfl) rfl a4)
  · obtain rfl := Option.some.inj hg
    exact ptr_of (l := [[97], [98]]) g1 b3 (strs_of Tryd.underlying77 Tryd.underlying9 (by kernel_rfl) (by kernel_rfl) rfl b4)
  · cases hg

/-- A world that meets the condition. -/
noncomputable def laidWorld (os : Os) : World :=
  let w0 := World.holding Tryd.prog os ⟨#[], #[], []⟩
  { w0 with heap := (w0.heap.modify 0 fun
      | .cells _ t frozen => .cells #[.string ⟨#[120]⟩, .string ⟨#[121]⟩, .string ⟨#[122]⟩] t frozen
      | o => o).modify 1 fun
      | .cells _ t frozen => .cells #[.string ⟨#[97]⟩, .string ⟨#[98]⟩] t frozen
      | o => o }
theorem laidWorld_met (os : Os) (args : Array Value) : laidMetH Tryd.prog laidL ((laidWorld os).forCall (fun _ _ => 0) ⟨#[], args, []⟩).memory :=
  laidMetH_of_parts (laidMet_of_run (ps := [.cell 0 0, .cell 0 1, .cell 0 2, .cell 1 0, .cell 1 1]) 8 (by kernel_rfl) (by kernel_rfl) (by kernel_rfl)) (by kernel_rfl)

/-- A byte among the arguments. -/
theorem elemU8 {H : Type} {enc : TypeId × Value → H} {w : World} {base : Nat} {spare : Nat → Bool} {held : Bool} (n : Nat) (cs : List Value) (x : DataW H × List MemPlace) (h : DataW.trod enc Tryd.prog w base spare held n 5 cs = some x) :
    ∃ y : UInt8, AI.All2 (AI.CR (AI.full w)) (encU8 y).cells cs := by
  obtain ⟨k, rfl, _, hw⟩ := DataW.trod_int Tryd.underlying5 h
  simp [Lit.wf, IntKind.min, IntKind.max, IntKind.bits, IntKind.signed] at hw
  obtain ⟨m, rfl⟩ := Int.eq_ofNat_of_zero_le hw.1
  have hm : m < 256 := by omega
  refine ⟨UInt8.ofNat m, ?_⟩
  have : encU8 (UInt8.ofNat m) = .int .u8 (m : Int) := by unfold encU8; rw [UInt8.toNat_ofNat_of_lt' hm]
  rw [this]
  exact .cons (.int _ _) .nil
end Go.AI.RD
