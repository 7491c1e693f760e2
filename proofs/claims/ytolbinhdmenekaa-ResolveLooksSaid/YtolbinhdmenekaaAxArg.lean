/- A law's arguments, read: slices of plain structs. -/
import Derived.Test.YtolbinhdmenekaaAxFn
import Derived.Deep.Slices
import Derived.ChangeSame
import Derived.Carry
namespace Go.AI
open Go Go.Deep
set_option linter.unusedVariables false
set_option linter.unusedSimpArgs false

/-- All that lies in memory. -/
def full (w : World) : Mem := fun r o => match w.heap[r]? with
  | some (.cells c _ _) => c[o]?
  | _ => none

theorem wok_full (w : World) : WOK (full w) w.heap := fun r o v h => by
  unfold full at h
  split at h
  · rename_i c el fz hc; exact ⟨c, el, fz, hc, h⟩
  · simp at h

theorem full_cell {w : World} {a : Addr} {v : Value} (h : w.cell? a = some v) : full w a.block a.off = some v := by
  unfold World.cell? at h
  unfold full
  split at h
  · rename_i c el fz hc
    rw [hc]
    split at h
    · simp at h
    · exact h
  · simp at h

section
variable {H : Type} {enc : TypeId × Value → H} {P : Program} {w : World} {base : Nat} {spare : Nat → Bool} {held : Bool}

/-- A slice argument whose elements read as they should. -/
theorem open_row {α : Type} [Inhabited α] {t e : TypeId} {sz : Nat} {en : α → DV} (hsz : ∀ y, (en y).cells.length = sz) (ht : P.underlying t = some (.slice e)) (hc : P.cellsOf e = sz) {v : Value} {d : DataW H} {ps : List MemPlace} {rch : Go.Reach} {b0 : Nat}
    (hok : Value.okWide P w rch b0 t v)
    (he : ∀ (n : Nat) (cs : List Value) (x : DataW H × List MemPlace), DataW.trod enc P w base spare held n e cs = some x → ∃ y : α, All2 (CR (full w)) (en y).cells cs)
    (h : DataW.Trod enc P w base spare held t v d ps) : ∃ l : List α, CR (full w) (.sl sz (l.map en)) v := by
  have hv : Cell.ok P w rch b0 t v := by
    have := hok
    unfold Value.okWide at this
    rw [ht] at this
    simp only at this
    unfold Cell.okWide at this
    rw [ht] at this
    exact this
  obtain ⟨fuel, h⟩ := h
  rcases open_slice ht h with ⟨h0, _⟩ | ⟨a, len, cap, m, n, D, Pl, h0, hb, hl, hm, hmm, _, hx⟩
  · refine ⟨[], ?_⟩
    cases v <;> first | (simp [Value.cells] at h0; done) | skip
    case agg cs => unfold Cell.ok at hv; rw [ht] at hv; exact hv.elim
    case slice o len cap =>
      simp [Value.cells] at h0
      obtain ⟨rfl, rfl, rfl⟩ := h0
      exact .nil sz
  · cases v <;> first | (simp [Value.cells] at h0; done) | skip
    case agg cs => unfold Cell.ok at hv; rw [ht] at hv; exact hv.elim
    case slice o len' cap' =>
      simp [Value.cells] at h0
      obtain ⟨rfl, rfl, rfl⟩ := h0
      unfold Cell.ok at hv
      rw [ht] at hv
      have hsp : a.spot = none := hv.2.2.2.1
      have hlm : len' ≤ m := by rw [hmm]; split <;> omega
      have hy : ∀ i, i < len' → ∃ y : α, ∀ (j : Nat) (c : DV), (en y).cells[j]? = some c → ∃ u, full w a.block (a.off + i * sz + j) = some u ∧ CR (full w) c u := by
        intro i hi
        obtain ⟨cs', h1, h2⟩ := hx i (by omega)
        obtain ⟨y, hy⟩ := he _ _ _ h2
        refine ⟨y, fun j c hj => ?_⟩
        obtain ⟨u, hu, hcu⟩ := hy.get j hj
        refine ⟨u, ?_, hcu⟩
        obtain ⟨_, hlen, hcell⟩ := World.cells?_some h1
        rw [hc] at hlen hcell
        have hj2 : j < sz := by
          have := (List.getElem?_eq_some_iff.1 hu).1
          omega
        have h3 := hcell j hj2
        rw [hu, add_add, add_eq hsp] at h3
        have := full_cell h3
        simpa [Nat.add_assoc] using this
      obtain ⟨f, hf⟩ := choose_lt hy
      refine ⟨(List.range len').map f, ?_⟩
      have hlen : ((List.range len').map f |>.map en).length = len' := by simp
      have := CR.of_SlR (Φ := full w) (sz := sz) (xs := ((List.range len').map f).map en) (a := a) (cap := cap') ⟨hsp, fun i x hx => ?_⟩ (by rw [hlen]; exact hl)
      · rw [hlen] at this; exact this
      · have hi : i < len' := by have := (List.getElem?_eq_some_iff.1 hx).1; simpa using this
        simp [hi] at hx
        subst hx
        exact ⟨hsz _, hf i hi⟩
end
end Go.AI
