/- What the laid variables of this seat give a walk: the powers of ten lie in memory. -/
import Derived.Test.YtkkmdjkahdglhaaDoorTdP
import Derived.Test.YtkkmdjkahdglhaaDoorAxPoke
import Derived.Test.YtkkmdjkahdglhaaDoorRows
import Derived.WalkKit
import Derived.ProofKit
import Derived.OpenShut
import Derived.LaidLaws
import Derived.LaidHandle
import Derived.FnData
namespace Go.AI.TD
open Go Go.Proofs Go.Proofs.YtkkmdjkahdglhaaDoor
set_option maxRecDepth 100000
set_option linter.unusedVariables false
set_option linter.unusedSimpArgs false

theorem gt0 : (Tryd.prog.globals[0]?).map (·.type) = some 68 := by kernel_rfl

abbrev laidL : List (String × DataW Unit) := [("math/bits.deBruijn32tab", Rows.laid_math_bits_deBruijn32tab), ("math/bits.deBruijn64tab", Rows.laid_math_bits_deBruijn64tab), ("internal/strconv.uint64pow10", Rows.laid_internal_strconv_uint64pow10)]

/-- An array of numbers that reads as known. -/
theorem ints_of {W : World} {t e : TypeId} {n fuel : Nat} {k : IntKind} {cs : List Value} {p : List MemPlace} {d : DataW Unit} (ht : Tryd.prog.underlying t = some (.array n e)) (he : Tryd.prog.underlying e = some (.int k)) (hc : Tryd.prog.cellsOf e = 1) (hn : Tryd.prog.cellsOf t = n)
    {l : List Int} (hd : d = .agg (l.map fun s => .lit (.int k s))) (h : DataW.trod (fun _ => ()) Tryd.prog W 0 (fun _ => true) false fuel t cs = some (d, p)) :
    cs.length = n ∧ ∀ (i : Nat) (s : Int), l[i]? = some s → cs[i]? = some (.int k s) := by
  obtain ⟨xs, m, _, hx, hl, hxl, hf⟩ := DataW.trod_array ht h
  subst hd
  simp only [Prod.mk.injEq, DataW.agg.injEq] at hx
  refine ⟨hl.trans hn, ?_⟩
  intro i s hi
  have hlen : l.length = n := by rw [← hxl]; have := congrArg List.length hx.1; simpa using this
  have hin : i < n := by rw [← hlen]; exact (List.getElem?_eq_some_iff.1 hi).1
  have h1 := hf i hin
  have h2 : (xs.map (·.1))[i]? = some (.lit (.int k s)) := by rw [← hx.1, List.getElem?_map, hi]; rfl
  rw [List.getElem?_map] at h2
  cases hxi : xs[i]? with
  | none => rw [hxi] at h2; cases h2
  | some x =>
    rw [hxi] at h2 h1
    rw [hc, Nat.mul_one] at h1
    obtain ⟨b, e1, e2, _⟩ := DataW.trod_int he h1
    rw [e2] at h2
    simp only [Option.map_some, Option.some.injEq, DataW.lit.injEq, Lit.int.injEq] at h2
    obtain ⟨_, rfl⟩ := h2
    have h3 : ((cs.drop i).take 1)[0]? = some (Value.int k b) := by rw [e1]; rfl
    rw [List.getElem?_take, List.getElem?_drop] at h3
    simpa using h3

theorem gokh_of_laid {W : World} (h : laidMetH Tryd.prog laidL W) : AI.GOKH gl (AI.full W) W.heap [] := by
  have h' : laidMet Tryd.prog laidL W := h
  obtain ⟨ps, ⟨ga, ta, ca, fa, pa, qa, a1, a2, a3, a4, ⟨gb, tb, cb, fb, pb, qb, b1, b2, b3, b4, ⟨gc, tc, cc, fc, pc, qc, c1, c2, c3, c4, _⟩, _⟩, _⟩, _⟩ := h'
  obtain rfl := Option.some.inj (gp.symm.trans c1)
  obtain rfl := Option.some.inj (gt0.symm.trans c2)
  have hl := ints_of (l := Lib.pow10Tab) Tryd.underlying68 Tryd.underlying62 (by kernel_rfl) (by kernel_rfl) rfl c4
  refine ⟨fun g x hg => ?_, fun g x hg => ?_⟩
  · unfold gl at hg
    split at hg
    · obtain rfl := Option.some.inj hg
      refine ⟨rfl, fun j c hj => ?_⟩
      have hj' : (Lib.pow10Tab.map fun n => DV.int .u64 n)[j]? = some c := hj
      rw [List.getElem?_map] at hj'
      cases hq : Lib.pow10Tab[j]? with
      | none => rw [hq] at hj'; cases hj'
      | some s =>
        rw [hq] at hj'
        obtain rfl := Option.some.inj hj'
        have h1 := hl.2 j s hq
        have h3 := World.var?_cell gp c3 j
        refine ⟨.int .u64 s, ?_, .int _ _⟩
        have := AI.full_cell (h3.trans (by rw [← Array.getElem?_toList]; exact h1))
        simpa using this
    · cases hg
  · unfold gl at hg
    split at hg
    · obtain rfl := Option.some.inj hg
      refine ⟨by simp, ?_⟩
      have h3 : W.var? Tryd.prog "internal/strconv.uint64pow10" = some cc := c3
      unfold World.var? at h3
      rw [gp, Option.bind_some] at h3
      split at h3
      · rename_i cs el fz hh
        obtain rfl := Option.some.inj h3
        refine ⟨_, el, fz, hh, ?_⟩
        have := hl.1
        rw [Array.length_toList] at this
        rw [this]; rfl
      · cases h3
    · cases hg

/-- A world that meets the condition. -/
noncomputable def laidWorld (os : Os) : World :=
  let w0 := World.holding Tryd.prog os ⟨#[], #[], []⟩
  let u : List Int → Array Value := fun l => (l.map fun n => Value.int .u8 n).toArray
  { w0 with heap := ((w0.heap.modify 0 fun
      | .cells _ t frozen => .cells (Lib.pow10Tab.map fun n => Value.int .u64 n).toArray t frozen
      | o => o).modify 1 fun
      | .cells _ t frozen => .cells (u [0, 1, 28, 2, 29, 14, 24, 3, 30, 22, 20, 15, 25, 17, 4, 8, 31, 27, 13, 23, 21, 19, 16, 7, 26, 12, 18, 6, 11, 5, 10, 9]) t frozen
      | o => o).modify 2 fun
      | .cells _ t frozen => .cells (u [0, 1, 56, 2, 57, 49, 28, 3, 61, 58, 42, 50, 38, 29, 17, 4, 62, 47, 59, 36, 45, 43, 51, 22, 53, 39, 33, 30, 24, 18, 12, 5, 63, 55, 48, 27, 60, 41, 37, 16, 46, 35, 44, 21, 52, 32, 23, 11, 54, 26, 40, 15, 34, 20, 31, 10, 25, 14, 19, 9, 13, 8, 7, 6]) t frozen
      | o => o }
theorem laidWorld_met (os : Os) (args : Array Value) : laidMetH Tryd.prog laidL ((laidWorld os).forCall (fun _ _ => 0) ⟨#[], args, []⟩).memory :=
  laidMetH_of_parts (laidMet_of_run (ps := MemPlace.row ⟨1, 0, none⟩ 32 ++ (MemPlace.row ⟨2, 0, none⟩ 64 ++ MemPlace.row ⟨0, 0, none⟩ 20)) 8 (by kernel_rfl) (by kernel_rfl) (by kernel_rfl)) (by kernel_rfl)
end Go.AI.TD
