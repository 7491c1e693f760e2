/- Structs put together, slices made and appended to. -/
import Derived.Test.YtolbinhdmenekaaAxMem2
namespace Go.AI
set_option linter.unusedVariables false
set_option linter.unusedSimpArgs false

theorem zeroCells_spec {P : Program} {t : TypeId} {cs : List AV} (h : zeroCells P t = some cs) :
    ∃ i z, P.info? t = some i ∧ i.zero = some z ∧ z.cells.size = i.size ∧ P.cellsOf t = i.size ∧ ∀ e, All2O (AC e) cs z.cells.toList [] := by
  unfold zeroCells at h
  split at h
  · rename_i i hi
    split at h
    · rename_i z hz
      split at h
      · rename_i hs
        refine ⟨i, z, hi, hz, hs, by simp [Program.cellsOf, hi], fun e => ?_⟩
        cases hoc : ofConsts z.cells.toList with
        | none => rw [hoc] at h; simp at h
        | some c0 => rw [hoc] at h; simp at h; subst h; exact (All2O.ofConsts (e := e) hoc).fixCs
      · simp at h
    · simp at h
  · simp at h

theorem zeroValue_run {P : Program} {w : World} {t : TypeId} {i : TypeInfo} {z : Value} (hi : P.info? t = some i) (hz : i.zero = some z) : (zeroValue t).run P w = .ok z w := by
  simp [zeroValue, typeInfo, hi, hz]

/-! ### Cells written side by side -/

theorem foldl_set (off : Nat) : ∀ (vs : List Value) (k : Nat) (cs : Array Value), off + k + vs.length ≤ cs.size →
    ((vs.zipIdx k).foldl (fun (cs : Array Value) (p : Value × Nat) => cs.setIfInBounds (off + p.2) p.1) cs).toList = cs.toList.take (off + k) ++ (vs ++ cs.toList.drop (off + k + vs.length))
  | [], k, cs, h => by simp
  | v :: vs, k, cs, h => by
    simp only [List.zipIdx_cons, List.foldl_cons]
    rw [foldl_set off vs (k + 1) _ (by simp at h ⊢; omega)]
    simp only [Array.toList_setIfInBounds, List.length_cons]
    have hk : off + k < cs.toList.length := by simp at h ⊢; omega
    rw [show off + (k + 1) = off + k + 1 by omega, show off + k + 1 + vs.length = off + k + (vs.length + 1) by omega]
    rw [List.drop_set_of_lt (by omega)]
    rw [List.take_add_one, List.take_set_of_le (by omega)]
    simp [List.getElem?_set, hk, show off + k < cs.size by simpa using hk]

def setRangeV (cs : List Value) (off : Nat) (vs : List Value) : List Value := cs.take off ++ (vs ++ cs.drop (off + vs.length))

theorem fold_cells (off : Nat) (v : Value) (cs : Array Value) (h : off + v.cells.size ≤ cs.size) :
    (v.cells.zipIdx.foldl (fun cs (c, j) => cs.setIfInBounds (off + j) c) cs).toList = setRangeV cs.toList off v.cells.toList := by
  have := foldl_set off v.cells.toList 0 cs (by simpa using h)
  rw [← Array.foldl_toList, Array.toList_zipIdx]
  simpa [setRangeV] using this

theorem All2O.setRange {R : AV → Value → List Nat → Prop} {cs : List AV} {vs : List Value} {B : List Nat} {as : List AV} {us : List Value} {D : List Nat} {off : Nat} (h : All2O R cs vs B) (h' : All2O R as us D)
    (hl : off + as.length ≤ cs.length) : ∃ B' C, All2O R (Go.AI.setRange cs off as) (setRangeV vs off us) B' ∧ (B' ++ C).Perm (B ++ D) := by
  obtain ⟨B1, B2, h1, h2, rfl⟩ := h.drop off (by omega)
  obtain ⟨C1, C2, h3, h4, rfl⟩ := h2.drop as.length (by simp; omega)
  have hul : us.length = as.length := h'.length.symm
  refine ⟨B1 ++ (D ++ C2), C1, ?_, ?_⟩
  · unfold Go.AI.setRange setRangeV
    refine h1.append (h'.append ?_)
    rw [hul]
    simpa [List.drop_drop, Nat.add_comm] using h4
  · simp only [List.append_assoc]
    refine List.Perm.append_left B1 ?_
    have : (D ++ (C2 ++ C1)).Perm ((C2 ++ C1) ++ D) := List.perm_append_comm
    refine this.trans ?_
    rw [← List.append_assoc]
    exact List.Perm.append_right _ List.perm_append_comm

theorem AR1.cells {e : Env} {a : AV} {v : Value} {B : List Nat} (h : AR1 e a v B) (hp : plain a = true) : All2O (AC e) a.cells v.cells.toList B := by
  cases a
  case agg cs => obtain ⟨vs, rfl, h⟩ := h; exact h
  case osl sz xs =>
    have hv : v.cells = #[v] := by
      rcases (show AC e (.osl sz xs) v B from h) with ⟨h1, _⟩ | ⟨_, _, h1, _⟩ <;> rw [h1] <;> rfl
    rw [hv]
    simpa [AV.cells] using All2O.cons (show AC e (.osl sz xs) v B from h) All2O.nil
  all_goals
    first
      | (simp [plain, plainC] at hp; done)
      | (have h1 := AR1.to_AC h (by simp)
         have hv : v.cells = #[v] := by
           simp only [AC] at h1
           first
             | (obtain ⟨hc, _⟩ := h1; cases hc <;> rfl)
             | (obtain ⟨⟨_, _, _, rfl⟩, _⟩ := h1; rfl)
             | (rcases h1 with ⟨rfl, _⟩ | ⟨_, _, rfl, _⟩ <;> rfl)
             | (obtain ⟨_, _, rfl, _⟩ := h1; rfl)
             | (obtain ⟨_, rfl, _⟩ := h1; rfl)
             | (obtain ⟨rfl, _⟩ := h1; rfl)
         rw [hv]
         simpa [AV.cells] using All2O.cons h1 All2O.nil)

theorem fill_sound {e : Env} {tm : Array Value} {place : Nat → Option (Nat × Nat)} : ∀ {is : List Nat} {as : List AV} {us : List Value} {cells : List AV} {vs : Array Value} {B D : List Nat} {out : List AV},
    All2O (AC e) cells vs.toList B → All2O (AR e tm) as us D → fillA place cells (is.zip as) = some out →
    ∃ vs' B' C, Instr.fill place vs (is.zip us) = some vs' ∧ All2O (AC e) out vs'.toList B' ∧ (B' ++ C).Perm (B ++ D)
  | [], as, us, cells, vs, B, D, out, hc, ha, h => by
    simp [fillA] at h; subst h
    exact ⟨vs, B, D, by simp [Instr.fill], hc, .rfl⟩
  | i :: is, _, _, cells, vs, B, _, out, hc, .nil, h => by
    simp [fillA] at h; subst h
    exact ⟨vs, B, [], by simp [Instr.fill], hc, .rfl⟩
  | i :: is, _, _, cells, vs, B, _, out, hc, .cons (a := a) (v := v) (B1 := B1) (B2 := B2) ha hr, h => by
    simp only [List.zip_cons_cons, fillA] at h
    split at h
    · simp at h
    · rename_i off size hp
      split at h
      · rename_i hcond
        obtain ⟨h1, h2, h3⟩ := hcond
        have hcs := (AR.to_AR1 ha h3).cells h3
        have hvl : v.cells.size = size := by rw [← h1, hcs.length]; simp
        have hlen : cells.length = vs.size := by rw [hc.length]; simp
        obtain ⟨B', C, h5, h6⟩ := hc.setRange hcs (off := off) (by omega)
        rw [← fold_cells off v vs (by omega)] at h5
        obtain ⟨vs', B'', C', h7, h8, h9⟩ := fill_sound h5 hr h
        refine ⟨vs', B'', C' ++ C, ?_, h8, ?_⟩
        · simp only [List.zip_cons_cons, Instr.fill, hp]
          rw [if_neg (by simp; omega)]
          exact h7
        · rw [← List.append_assoc]
          refine (List.Perm.append_right C h9).trans ?_
          rw [List.append_assoc]
          refine (List.Perm.append_left B' List.perm_append_comm).trans ?_
          rw [← List.append_assoc, ← List.append_assoc]
          exact List.Perm.append_right B2 h6
      · simp at h

theorem places_run {P : Program} {w : World} : ∀ (fs : List Field), fs.all (fun f => tyOK P f.type) = true →
    (fs.mapM fun f => (do pure (f.offset, ← Go.sizeOf f.type) : Sem (Nat × Nat))).run P w = .ok (fs.map fun f => (f.offset, P.cellsOf f.type)) w
  | [], _ => rfl
  | f :: fs, h => by
    simp only [List.all_cons, Bool.and_eq_true] at h
    have ih := places_run (P := P) (w := w) fs h.2
    simp only [List.mapM_cons, Sem.run_bind, sizeOf_run h.1, Result.andThen_ok, Sem.run_pure, ih, List.map_cons]

theorem build_sound {P : Program} {w : World} {e : Env} {tm : Array Value} {t : TypeId} {is : List Nat} {as : List AV} {us : List Value} {D : List Nat} {v : AV} (ha : All2O (AR e tm) as us D)
    (h : buildA P t (is.zip as) = some v) : ∃ x B' C, (Instr.build t (is.zip us).toArray).run P w = .ok x w ∧ AR e tm v x B' ∧ (B' ++ C).Perm D := by
  unfold buildA at h
  split at h
  · rename_i z fs hz hu
    split at h
    · rename_i hall
      obtain ⟨i, zv, hi, hzv, hsz, _, hoc⟩ := zeroCells_spec hz
      have hzc := hoc e
      cases hfl : fillA (fun i => (fs[i]?).map fun f => (f.offset, P.cellsOf f.type)) z (is.zip as) with
      | none => rw [hfl] at h; simp at h
      | some out =>
        rw [hfl] at h; simp at h; subst h
        obtain ⟨vs', B', C, h1, h2, h3⟩ := fill_sound (tm := tm) hzc ha hfl
        refine ⟨.agg vs', B', C, ?_, ⟨vs', rfl, h2⟩, by simpa using h3⟩
        have hpl := places_run (P := P) (w := w) fs.toList hall
        have hplA : (fs.mapM fun f => (do pure (f.offset, ← Go.sizeOf f.type) : Sem (Nat × Nat))).run P w = .ok (fs.map fun f => (f.offset, P.cellsOf f.type)) w := by
          rw [Array.mapM_eq_mapM_toList, Sem.run_map, hpl]
          simp only [Result.andThen_ok]
          congr 1
          apply Array.ext'; simp
        have heq : (fun i : Nat => (fs.map fun (f : Field) => (f.offset, P.cellsOf f.type))[i]?) = fun i => (fs[i]?).map fun (f : Field) => (f.offset, P.cellsOf f.type) := by funext i; simp
        simp only [Instr.build, Sem.run_bind, zeroValue_run hi hzv, Result.andThen_ok, run_underlying hu, hplA, heq, h1, Sem.run_pure]
    · simp at h
  · rename_i z n el hz hu
    cases hok : tyOK P el with
    | false => rw [hok] at h; simp at h
    | true =>
      rw [hok, cond_true] at h
      obtain ⟨i, zv, hi, hzv, hsz, _, hoc⟩ := zeroCells_spec hz
      have hzc := hoc e
      cases hfl : fillA (fun i => some (i * P.cellsOf el, P.cellsOf el)) z (is.zip as) with
      | none => rw [hfl] at h; simp at h
      | some out =>
        rw [hfl] at h; simp at h; subst h
        obtain ⟨vs', B', C, h1, h2, h3⟩ := fill_sound (tm := tm) hzc ha hfl
        refine ⟨.agg vs', B', C, ?_, ⟨vs', rfl, h2⟩, by simpa using h3⟩
        simp only [Instr.build, Sem.run_bind, zeroValue_run hi hzv, Result.andThen_ok, run_underlying hu, sizeOf_run hok, h1, Sem.run_pure]
  · simp at h

end Go.AI
