/- Loads and stores. -/
import Derived.Test.YtolbinhdmenekaaAxMem5
namespace Go.AI
set_option linter.unusedVariables false
set_option linter.unusedSimpArgs false

section
variable {P : Program} {w : World} {e : Env} {tm : Array Value}

theorem load_cells {t : TypeId} (hok : tyOK P t = true) {ad : Addr} {vs : List Value} (hl : vs.length = P.cellsOf t) (hc : ∀ (j : Nat) (v : Value), vs[j]? = some v → w.cell? (ad.add j) = some v) (hag : isAggB P t = true) :
    (loadVar t ad).run P w = .ok (.agg vs.toArray) w := by
  have := run_loadCells_list (P := P) w ad vs hc
  rw [hl] at this
  simp [loadVar, isAgg_run hok, hag, sizeOf_run hok, this]

theorem load_one {t : TypeId} (hok : tyOK P t = true) {ad : Addr} {v : Value} (hc : w.cell? ad = some v) (hag : isAggB P t = false) : (loadVar t ad).run P w = .ok v w := by
  simp [loadVar, isAgg_run hok, hag, hc]

theorem vp_load (hw : WOK e.Φ w.heap) {t : TypeId} {x : DV} {ad : Addr} (h : PtR e.Φ x ad) (hok : tyOK P t = true) (hlen : x.cells.length = P.cellsOf t) (hag : isAggB P t = isAggD x) :
    ∃ v, (Instr.loadAt t (.pointer (some ad))).run P w = .ok v w ∧ AR e tm (of1 x) v [] := by
  have hcell : ∀ (j : Nat) (c : DV), x.cells[j]? = some c → ∃ v, w.cell? (ad.add j) = some v ∧ CR e.Φ c v := by
    intro j c hj
    obtain ⟨v, h1, h2⟩ := h.2 j c hj
    obtain ⟨cc, el, fz, h3, h4⟩ := hw _ _ _ h1
    exact ⟨v, by rw [add_eq h.1]; simp [World.cell?, h3, h4], h2⟩
  cases x
  case agg cs =>
    have hag' : isAggB P t = true := hag
    simp only [DV.cells] at hcell hlen
    have hvs : ∃ vs : List Value, All2 (CR e.Φ) cs vs ∧ ∀ (j : Nat) (v : Value), vs[j]? = some v → w.cell? (ad.add j) = some v := by
      refine ⟨(List.range cs.length).map fun j => (w.cell? (ad.add j)).getD default, ?_, ?_⟩
      · refine All2.of_get (by simp) fun j c v hc hv => ?_
        obtain ⟨v', h1, h2⟩ := hcell j c hc
        have hlt := (List.getElem?_eq_some_iff.1 hc).1
        simp [hlt, h1] at hv
        subst hv; exact h2
      · intro j v hv
        have hlt : j < cs.length := by have := (List.getElem?_eq_some_iff.1 hv).1; simpa using this
        obtain ⟨v', h1, h2⟩ := hcell j cs[j] (by simp [hlt])
        simp [hlt, h1] at hv
        subst hv; exact h1
    obtain ⟨vs, h1, h2⟩ := hvs
    refine ⟨.agg vs.toArray, ?_, vs.toArray, rfl, ?_⟩
    · simp only [Instr.loadAt, Instr.sureAddr, Sem.run_bind, Sem.run_pure, Result.andThen_ok]
      exact load_cells hok (by rw [← h1.length]; exact hlen) h2 hag'
    · simp only
      have : ∀ {cs : List DV} {vs : List Value}, All2 (CR e.Φ) cs vs → All2O (AC e) (cs.map .d) vs [] := by
        intro cs vs h
        induction h with
        | nil => exact .nil
        | cons h _ ih => simpa using All2O.cons (R := AC e) (a := .d _) (B1 := []) ⟨h, rfl⟩ ih
      exact this h1
  all_goals
    have hag' : isAggB P t = false := hag
    obtain ⟨v, h1, h2⟩ := hcell 0 _ rfl
    refine ⟨v, ?_, h2, rfl⟩
    simp only [Instr.loadAt, Instr.sureAddr, Sem.run_bind, Sem.run_pure, Result.andThen_ok]
    exact load_one hok (by simpa [Addr.add] using h1) hag'

theorem dupC_cells_agg (cs : List AV) : (AV.agg cs).cells.map dupC = cs.map dupC := rfl

theorem blk_load (hw : w.heap = e.heap) {cs : List AV} {r : Nat} {B : List Nat} {t : TypeId} {off : Nat} {v : AV} (h : BlkR e cs r B) (hl : loadA P t cs off = some v) :
    ∃ x B1 B2, (Instr.loadAt t (.pointer (some ⟨r, off, none⟩))).run P w = .ok x w ∧ AR1 e v x B1 ∧ BlkR e (setRange cs off (v.cells.map dupC)) r B2 ∧ (B1 ++ B2).Perm B := by
  obtain ⟨vs, el, h1, h2, B', h3, rfl⟩ := h
  unfold loadA at hl
  cases hok : tyOK P t with
  | false => rw [hok] at hl; simp at hl
  | true =>
    rw [hok, cond_true] at hl
    unfold partA at hl
    have hcell : ∀ (j : Nat) (v : Value), vs[off + j]? = some v → w.cell? ((⟨r, off, none⟩ : Addr).add j) = some v := by
      intro j v hv
      rw [add_eq rfl]
      simp [World.cell?, hw, h1, hv]
    have hlen : cs.length = vs.size := by rw [h3.length]; simp
    have hrange : ∀ n, off + n ≤ cs.length → ∃ C1 D, All2O (AC e) ((cs.drop off).take n) ((vs.toList.drop off).take n) C1 ∧ All2O (AC e) (setRange cs off (((cs.drop off).take n).map dupC)) vs.toList D ∧ (C1 ++ D).Perm B' := by
      intro n hn
      obtain ⟨B1, B2, h4, h5, rfl⟩ := h3.drop off (by omega)
      obtain ⟨C1, C2, h6, h7, rfl⟩ := h5.drop n (by simp; omega)
      refine ⟨C1, B1 ++ ([] ++ C2), h6, ?_, ?_⟩
      · unfold setRange
        have hnl : (((cs.drop off).take n).map dupC).length = n := by simp; omega
        rw [hnl]
        have := h4.append (h6.dupC.append h7)
        rw [List.take_append_drop, List.take_append_drop] at this
        simpa [List.drop_drop, Nat.add_comm] using this
      · simp only [List.nil_append]
        rw [← List.append_assoc, ← List.append_assoc]
        exact List.Perm.append_right _ List.perm_append_comm
    cases hag : isAggB P t with
    | true =>
      rw [hag, cond_true] at hl
      split at hl
      · rename_i hle
        obtain rfl := Option.some.inj hl
        obtain ⟨C1, D, h4, h5, h6⟩ := hrange _ hle
        refine ⟨.agg ((vs.toList.drop off).take (P.cellsOf t)).toArray, C1, r :: D, ?_, ⟨_, rfl, h4⟩, ⟨vs, el, h1, h2, D, h5, rfl⟩, ?_⟩
        · simp only [Instr.loadAt, Instr.sureAddr, Sem.run_bind, Sem.run_pure, Result.andThen_ok]
          refine load_cells hok (by simp; omega) (fun j v hj => hcell j v ?_) hag
          rw [List.getElem?_take] at hj
          split at hj
          · rw [List.getElem?_drop] at hj; simpa using hj
          · simp at hj
        · exact (List.perm_middle).trans (List.Perm.cons r h6)
      · simp at hl
    | false =>
      rw [hag, cond_false] at hl
      replace hl : cs[off]? = some v := by split at hl <;> simp_all
      obtain ⟨hlt, hge⟩ := List.getElem?_eq_some_iff.1 hl
      have h1c : (cs.drop off).take 1 = [v] := by
        rw [List.drop_eq_getElem_cons hlt]; simp [hge]
      have hvlt : off < vs.size := by omega
      have h1v : (vs.toList.drop off).take 1 = [vs[off]] := by
        rw [List.drop_eq_getElem_cons (by simpa using hvlt)]; simp
      obtain ⟨C1, D, h4, h5, h6⟩ := hrange 1 (by omega)
      rw [h1c, h1v] at h4
      cases h4 with
      | cons ha hn =>
        cases hn
        rename_i B1
        have hvc : v.cells = [v] := by
          cases v <;> first | rfl | exact ha.elim
        rw [h1c] at h5
        refine ⟨vs[off], B1, r :: D, ?_, AR1.of_AC ha, ⟨vs, el, h1, h2, D, by rw [hvc]; exact h5, rfl⟩, ?_⟩
        · simp only [Instr.loadAt, Instr.sureAddr, Sem.run_bind, Sem.run_pure, Result.andThen_ok]
          exact load_one hok (by have := hcell 0 vs[off] (by simp [hvlt]); simpa [add_eq] using this) hag
        · simp only [List.append_nil] at h6
          exact (List.perm_middle).trans (List.Perm.cons r h6)

theorem blk_store (hw : w.heap = e.heap) {cs cs' : List AV} {r : Nat} {B BV : List Nat} {t : TypeId} {off : Nat} {v : AV} {x : Value} (h : BlkR e cs r B) (hv : AR e tm v x BV) (hs : storeA P t cs off v = some cs') :
    ∃ vs', (Instr.storeAt t (.pointer (some ⟨r, off, none⟩)) x).run P w = .ok () (w.setRow r vs') ∧
      ∃ el B', All2O (AC e) cs' vs'.toList B' ∧ (w.setRow r vs').heap[r]? = some (.cells vs' el (0, 0)) ∧ ∃ C, (r :: B' ++ C).Perm (B ++ BV) := by
  obtain ⟨vs, el, h1, h2, B', h3, rfl⟩ := h
  unfold storeA at hs
  split at hs
  · rename_i hc
    obtain ⟨hok, hlen, hle, hp⟩ := hc
    obtain rfl := Option.some.inj hs
    have hvc := (AR.to_AR1 hv hp).cells hp
    have hxl : x.cells.size = v.cells.length := by rw [hvc.length]; simp
    have hcl : cs.length = vs.size := by rw [h3.length]; simp
    obtain ⟨B'', C, h4, h5⟩ := h3.setRange hvc (off := off) hle
    have hone : ∀ u ∈ x.cells.toList, u.oneCell' = true := by
      have : ∀ {as : List AV} {us : List Value} {D : List Nat}, All2O (AC e) as us D → ∀ u ∈ us, u.oneCell' = true := by
        intro as us D h
        induction h with
        | nil => simp
        | cons ha _ ih =>
          rename_i a v' B1 as vs B2 _
          intro u hu
          rcases List.mem_cons.1 hu with rfl | hu
          · cases a
            case d y => exact ha.1.oneCell
            case osl sz xs => rcases ha with ⟨rfl, _⟩ | ⟨_, _, rfl, _⟩ <;> rfl
            case hp => obtain ⟨_, _, rfl, _⟩ := ha; rfl
            case vp => obtain ⟨_, rfl, _⟩ := ha; rfl
            case fn => obtain ⟨rfl, _⟩ := ha; rfl
            case nilp => obtain ⟨rfl, _⟩ := ha; rfl
            case nilf => obtain ⟨rfl, _⟩ := ha; rfl
            case nilm => obtain ⟨rfl, _⟩ := ha; rfl
            case mp => obtain ⟨_, _, rfl, _⟩ := ha; rfl
            case zsl => obtain ⟨_, _, rfl, _⟩ := ha; rfl
            case sref => obtain ⟨⟨_, _, _, rfl⟩, _⟩ := ha; rfl
            all_goals exact ha.elim
          · exact ih u hu
      exact this hvc
    have hst := run_storeCells_at P r off el x.cells.toList 0 vs w (by rw [hw]; exact h1) (by simp; omega) hone
    refine ⟨(setRangeV vs.toList off x.cells.toList).toArray, ?_, el, B'', by simpa using h4, setRow_heap w r vs _ el (0, 0) (by rw [hw]; exact h1), C, ?_⟩
    · simp only [Instr.storeAt, Instr.sureAddr, Sem.run_bind, Sem.run_pure, Result.andThen_ok, storeVar, sizeOf_run hok]
      rw [if_neg (by omega)]
      rw [hst]
      simp [setRangeV]
    · simpa using List.Perm.cons r h5
  · simp at hs

theorem loadH_some {t : TypeId} {cs : List AV} {off : Nat} {v : AV} (h : loadH P t cs off = some v) : noMap cs = true ∧ loadA P t cs off = some v := by
  unfold loadH at h
  cases hn : noMap cs <;> rw [hn] at h <;> simp_all

theorem storeH_some {t : TypeId} {cs cs' : List AV} {off : Nat} {v : AV} (h : storeH P t cs off v = some cs') : noMap cs = true ∧ storeA P t cs off v = some cs' := by
  unfold storeH at h
  cases hn : noMap cs <;> rw [hn] at h <;> simp_all

theorem HR.split {e : Env} : ∀ {H : Hp} {m B : List Nat} {b : Nat} {cs : List AV}, HR e H m B → H[b]? = some cs →
    ∃ r B1 B2, m[b]? = some r ∧ ObjR e cs r B1 ∧ (B1 ++ B2).Perm B ∧ ∀ (e' : Env) (cs' : List AV) (B' : List Nat), ObjR e' cs' r B' → Step e e' B2 → ∃ B'', HR e' (H.set b cs') m B'' ∧ B''.Perm (B' ++ B2)
  | [], _, _, _, _, _, h => by simp at h
  | c :: H, [], _, _, _, h, _ => h.elim
  | c :: H, r :: m, _, 0, cs, ⟨B1, B2, h1, h2, rfl⟩, hg => by
    simp at hg; subst hg
    refine ⟨r, B1, B2, rfl, h1, .rfl, fun e' cs' B' hb hs => ⟨B' ++ B2, ⟨B', B2, hb, h2.step hs, rfl⟩, .rfl⟩⟩
  | c :: H, r :: m, _, b + 1, cs, ⟨B1, B2, h1, h2, rfl⟩, hg => by
    obtain ⟨r', C1, C2, hm, hb, hp, hk⟩ := h2.split (b := b) (by simpa using hg)
    refine ⟨r', C1, B1 ++ C2, by simpa using hm, hb, ?_, fun e' cs' B' hb' hs => ?_⟩
    · refine List.Perm.trans ?_ (List.Perm.append_left B1 hp)
      rw [← List.append_assoc, ← List.append_assoc]
      exact List.Perm.append_right _ List.perm_append_comm
    · obtain ⟨B'', h3, h4⟩ := hk e' cs' B' hb' (hs.subset fun _ => List.mem_append_right _)
      refine ⟨B1 ++ B'', ⟨B1, B'', h1.step (hs.subset fun _ => List.mem_append_left _), h3, rfl⟩, ?_⟩
      refine (List.Perm.append_left B1 h4).trans ?_
      rw [← List.append_assoc, ← List.append_assoc]
      exact List.Perm.append_right _ List.perm_append_comm

end
end Go.AI
