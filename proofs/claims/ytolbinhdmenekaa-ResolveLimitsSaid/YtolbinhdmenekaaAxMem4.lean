/- Slices made, appended to, converted. -/
import Derived.Test.YtolbinhdmenekaaAxMem3
import Derived.Lib.ConvBytes
import Derived.Lib.AppendStr
import Derived.Laws.BytesString
namespace Go.AI
set_option linter.unusedVariables false
set_option linter.unusedSimpArgs false

theorem CR.of_toD0 {e : Env} {a : AV} {v : Value} {B : List Nat} {x : DV} (h : AC e a v B) (hx : toD0 a = some x) : CR e.Φ x v := by
  cases a <;> simp only [toD0] at hx <;> try (simp at hx; done)
  · obtain rfl := Option.some.inj hx; exact h.1
  · obtain rfl := Option.some.inj hx
    rcases h with ⟨rfl, rfl, _⟩ | ⟨a, cap, rfl, _, hs, hc, _⟩
    · exact .nil _
    · exact .of_SlR hs hc

theorem All2.of_toDs {e : Env} : ∀ {cs : List AV} {vs : List Value} {B : List Nat} {ds : List DV}, All2O (AC e) cs vs B → toDs cs = some ds → All2 (CR e.Φ) ds vs
  | [], _, _, _, .nil, h => by simp [toDs] at h; subst h; exact .nil
  | a :: cs, _, _, _, .cons ha hr, h => by
    simp only [toDs] at h
    split at h
    · rename_i x xs h1 h2
      obtain rfl := Option.some.inj h
      exact .cons (CR.of_toD0 ha h1) (All2.of_toDs hr h2)
    · simp at h

/-- A value's cells, as data. -/
theorem All2.of_toDV1 {e : Env} {tm : Array Value} {a : AV} {v : Value} {B : List Nat} {x : DV} (h : AR e tm a v B) (hx : toDV1 a = some x) : All2 (CR e.Φ) x.cells v.cells.toList := by
  cases a
  case agg cs =>
    obtain ⟨vs, rfl, h⟩ := h
    simp only [toDV1] at hx
    cases hd : toDs cs with
    | none => rw [hd] at hx; simp at hx
    | some ds => rw [hd] at hx; simp at hx; subst hx; exact All2.of_toDs h hd
  case d y =>
    simp only [toDV1, toD0] at hx; obtain rfl := Option.some.inj hx
    obtain ⟨hc, _⟩ := h
    rw [hc.not_agg, show v.cells = #[v] by cases hc <;> rfl]
    exact .cons hc .nil
  case osl sz xs =>
    have hc := CR.of_toD0 (show AC e (.osl sz xs) v B from h) hx
    simp only [toDV1, toD0] at hx; obtain rfl := Option.some.inj hx
    rw [hc.not_agg, show v.cells = #[v] by cases hc <;> rfl]
    exact .cons hc .nil
  all_goals (simp [toDV1, toD0] at hx; done)

theorem flat_replicate_get {z : DV} {sz : Nat} (hz : z.cells.length = sz) (n o : Nat) (ho : o < n * sz) : (flat (List.replicate n z))[o]? = z.cells[o % sz]? := by
  have hpos : 0 < sz := by rcases Nat.eq_zero_or_pos sz with h | h; · subst h; simp at ho
                           · exact h
  have hi : o / sz < n := (Nat.div_lt_iff_lt_mul hpos).2 ho
  have hr : o % sz < z.cells.length := by rw [hz]; exact Nat.mod_lt _ hpos
  have := flat_get (sz := sz) (xs := List.replicate n z) (i := o / sz) (j := o % sz) (x := z) (c := z.cells[o % sz]) (by intro x hx; rw [List.eq_of_mem_replicate hx]; exact hz) (by simp [hi]) (by simp [hr])
  rw [Nat.mul_comm, Nat.div_add_mod] at this
  rw [this]; simp [hr]

theorem zeroDV_spec {P : Program} {t : TypeId} {z : DV} (h : zeroDV P t = some z) : ∃ i zv, P.info? t = some i ∧ i.zero = some zv ∧ zv.cells.size = i.size ∧ P.cellsOf t = i.size ∧ z.cells.length = i.size ∧
    ∀ Φ, All2 (CR Φ) z.cells zv.cells.toList := by
  unfold zeroDV at h
  split at h
  · rename_i cs hz
    obtain ⟨i, zv, hi, hzv, hs, hc, hoc⟩ := zeroCells_spec hz
    split at h
    · rename_i ds hds
      have hall : ∀ Φ, All2 (CR Φ) ds zv.cells.toList := fun Φ => All2.of_toDs (e := ⟨Φ, #[], []⟩) (hoc _) hds
      have hcells : z.cells = ds := by
        cases hag : isAggB P t with
        | true => rw [hag, cond_true] at h; obtain rfl := Option.some.inj h; rfl
        | false =>
          rw [hag, cond_false] at h
          split at h
          · rename_i x
            obtain rfl := Option.some.inj h
            obtain ⟨b, _, hx⟩ := (hall (fun _ _ => none)).get 0 rfl
            exact hx.not_agg
          · simp at h
      refine ⟨i, zv, hi, hzv, hs, hc, ?_, fun Φ => by rw [hcells]; exact hall Φ⟩
      rw [hcells, (hall fun _ _ => none).length, ← hs]; simp
    · simp at h
  · simp at h

/-- 'n' zeros side by side. -/
theorem zeros_flat {Φ : Mem} {z : DV} {zv : Value} {sz : Nat} (hz : z.cells.length = sz) (hs : zv.cells.size = sz) (h : All2 (CR Φ) z.cells zv.cells.toList) (n : Nat) :
    All2 (CR Φ) (flat (List.replicate n z)) (((Array.range (n * sz)).map (zv.cells[· % zv.cells.size]!)).toList) := by
  have hl : (flat (List.replicate n z)).length = n * sz := by rw [flat_length (sz := sz) (by intro x hx; rw [List.eq_of_mem_replicate hx]; exact hz)]; simp
  refine All2.of_get (by simp [hl]) fun o c v hc hv => ?_
  have ho : o < n * sz := by rw [← hl]; exact (List.getElem?_eq_some_iff.1 hc).1
  rw [flat_replicate_get hz n o ho] at hc
  obtain ⟨u, h1, h2⟩ := h.get _ hc
  have hpos : 0 < sz := by rcases Nat.eq_zero_or_pos sz with h | h; · subst h; simp at ho
                           · exact h
  have hlt : o % sz < zv.cells.size := by rw [hs]; exact Nat.mod_lt _ hpos
  simp [ho, hs] at hv
  have : u = v := by
    rw [← hv]
    have := (List.getElem?_eq_some_iff.1 h1).2
    rw [← this]
    simp [hlt]
  rw [← this]; exact h2

theorem flat_set {sz : Nat} : ∀ {xs : List DV} {i : Nat} {v : DV}, (∀ x ∈ xs, x.cells.length = sz) → v.cells.length = sz → i < xs.length →
    flat (xs.set i v) = (flat xs).take (i * sz) ++ (v.cells ++ (flat xs).drop (i * sz + v.cells.length))
  | [], i, v, _, _, h => by simp at h
  | x :: xs, 0, v, hx, hv, _ => by
    have h1 := hx x (by simp)
    simp only [List.set_cons_zero, flat_cons, Nat.zero_mul, List.take_zero, List.nil_append, Nat.zero_add, hv]
    rw [← h1, List.drop_left]
  | x :: xs, i + 1, v, hx, hv, hi => by
    have h1 := hx x (by simp)
    have ih := flat_set (sz := sz) (xs := xs) (i := i) (v := v) (fun y hy => hx y (List.mem_cons_of_mem _ hy)) hv (by simpa using hi)
    simp only [List.set_cons_succ, flat_cons, ih]
    have e1 : (x.cells ++ flat xs).take ((i + 1) * sz) = x.cells ++ (flat xs).take (i * sz) := by
      rw [List.take_append, h1, Nat.add_mul, Nat.one_mul, show i * sz + sz - sz = i * sz by omega, List.take_of_length_le (by omega)]
    have e2 : (x.cells ++ flat xs).drop ((i + 1) * sz + v.cells.length) = (flat xs).drop (i * sz + v.cells.length) := by
      rw [List.drop_append, h1, Nat.add_mul, Nat.one_mul, List.drop_of_length_le (by omega), List.nil_append]
      congr 1; omega
    rw [e1, e2, List.append_assoc]

theorem All2.setRange {R : DV → Value → Prop} {xs : List DV} {vs : List Value} {as : List DV} {us : List Value} {off : Nat} (h : All2 R xs vs) (h' : All2 R as us) (hl : off + as.length ≤ xs.length) :
    All2 R (xs.take off ++ (as ++ xs.drop (off + as.length))) (setRangeV vs off us) := by
  unfold setRangeV
  have hlen := h.length
  have hul := h'.length
  have take : ∀ n, All2 R (xs.take n) (vs.take n) := fun n => All2.of_get (by simp; omega) fun i a b ha hb => by
    rw [List.getElem?_take] at ha hb
    split at ha
    · rename_i hi
      rw [if_pos hi] at hb
      obtain ⟨b', h1, h2⟩ := h.get i ha
      rw [h1] at hb; obtain rfl := Option.some.inj hb; exact h2
    · simp at ha
  have drop : ∀ n, All2 R (xs.drop n) (vs.drop n) := fun n => All2.of_get (by simp; omega) fun i a b ha hb => by
    rw [List.getElem?_drop] at ha hb
    obtain ⟨b', h1, h2⟩ := h.get _ ha
    rw [h1] at hb; obtain rfl := Option.some.inj hb; exact h2
  rw [← hul]
  exact (take off).append (h'.append (drop _))

theorem fillD_sound {e : Env} {tm : Array Value} {sz : Nat} (hpos : 0 < sz) : ∀ {is : List Nat} {as : List AV} {us : List Value} {xs ys : List DV} {vs : Array Value} {ps : List (Nat × DV)},
    All2 (CR e.Φ) (flat xs) vs.toList → (∀ x ∈ xs, x.cells.length = sz) → All2 (fun a v => AR e tm a v []) as us → dparts (is.zip as) = some ps → ps.all (fun p => p.2.cells.length == sz) = true → fillD xs ps = some ys →
    ∃ vs', Instr.fill (fun i => some (i * sz, sz)) vs (is.zip us) = some vs' ∧ All2 (CR e.Φ) (flat ys) vs'.toList ∧ (∀ y ∈ ys, y.cells.length = sz) ∧ ys.length = xs.length
  | [], as, us, xs, ys, vs, ps, hf, hz, ha, hd, hall, h => by
    simp [dparts] at hd; subst hd
    simp [fillD] at h; subst h
    exact ⟨vs, by simp [Instr.fill], hf, hz, rfl⟩
  | i :: is, _, _, xs, ys, vs, ps, hf, hz, .nil, hd, hall, h => by
    simp [dparts] at hd; subst hd
    simp [fillD] at h; subst h
    exact ⟨vs, by simp [Instr.fill], hf, hz, rfl⟩
  | i :: is, _, _, xs, ys, vs, _, hf, hz, .cons (a := a) (b := u) (bs := us) ha hr, hd, hall, h => by
    simp only [List.zip_cons_cons, dparts] at hd
    split at hd
    · rename_i x ps' h1 h2
      obtain rfl := Option.some.inj hd
      simp only [List.all_cons, Bool.and_eq_true, beq_iff_eq] at hall
      simp only [fillD] at h
      split at h
      · rename_i hi
        have hc := All2.of_toDV1 ha h1
        have hul : u.cells.size = sz := by have := hc.length; rw [hall.1] at this; simpa using this.symm
        have hfl : (flat xs).length = xs.length * sz := flat_length hz
        have hle : i * sz + sz ≤ xs.length * sz := by
          have : (i + 1) * sz ≤ xs.length * sz := Nat.mul_le_mul_right _ hi
          rw [Nat.add_mul] at this; omega
        have hvl : vs.size = xs.length * sz := by have := hf.length; rw [hfl] at this; simpa using this.symm
        have h3 := hf.setRange hc (off := i * sz) (by rw [hall.1, hfl]; exact hle)
        rw [← flat_set hz hall.1 hi, ← fold_cells (i * sz) u vs (by rw [hul, hvl]; exact hle)] at h3
        obtain ⟨vs', h4, h5, h6, h7⟩ := fillD_sound hpos (xs := xs.set i x) h3 (by
          intro y hy
          rcases List.mem_or_eq_of_mem_set hy with hy | rfl
          · exact hz y hy
          · exact hall.1) hr h2 hall.2 h
        refine ⟨vs', ?_, h5, h6, by rw [h7]; simp⟩
        simp only [List.zip_cons_cons, Instr.fill]
        rw [if_neg (by simp [hul, hvl]; exact hle)]
        exact h4
      · simp at h
    · simp at hd

section
variable {P : Program} {E : Ent} {w : World} {Φ : Mem} {μ BF BH : List Nat} {tm : Array Value} {fr : Fr} {H : Hp}

theorem buildSlice_sound (hF : FR ⟨Φ, w.heap, μ⟩ tm fr BF) (hH : HR ⟨Φ, w.heap, μ⟩ H μ BH) (hN : (BF ++ BH).Nodup) (hI : Inv E w Φ μ (BF ++ BH))
    {t : TypeId} {n : Nat} {is : List Nat} {as : List AV} {us : List Value} {v : AV} (ha : All2 (fun a v => AR ⟨Φ, w.heap, μ⟩ tm a v []) as us) (h : buildSliceA P t n (is.zip as) = some v) :
    ∃ x w', (Instr.buildSlice t n (is.zip us).toArray).run P w = .ok x w' ∧ VR E v fr H tm x w' := by
  unfold buildSliceA at h
  split at h
  · rename_i el hu
    split at h
    · rename_i z ps hz hd
      split at h
      · rename_i hc
        obtain ⟨hok, h24, hpos, hall⟩ := hc
        obtain ⟨i, zv, hi, hzv, hzs, hcs, hzl, hzr⟩ := zeroDV_spec hz
        rw [hcs] at h24 hpos hall h
        have hall' : ps.all (fun p => p.2.cells.length == i.size) = true := by
          rw [List.all_eq_true] at hall ⊢
          intro p hp
          have := hall p hp
          simp only [Bool.and_eq_true] at this
          exact this.1
        cases hfd : fillD (List.replicate n z) ps with
        | none => rw [hfd] at h; simp at h
        | some ys =>
          rw [hfd] at h; simp at h; subst h
          have hinit := zeros_flat hzl hzs (hzr Φ) n
          obtain ⟨vs', h1, h2, h3, h4⟩ := fillD_sound (e := ⟨Φ, w.heap, μ⟩) (tm := tm) hpos (vs := (Array.range (n * i.size)).map (zv.cells[· % zv.cells.size]!)) hinit
            (by intro x hx; rw [List.eq_of_mem_replicate hx]; exact hzl) ha hd hall' hfd
          have hyl : ys.length = n := by rw [h4]; simp
          have hfy : (flat ys).length = n * i.size := by rw [flat_length h3, hyl]
          have hvl : vs'.size = n * i.size := by have := h2.length; rw [hfy] at this; simpa using this.symm
          refine ⟨.slice (some ⟨w.heap.size, 0, none⟩) n n, w.alloc (.cells vs' el), ?_, ?_⟩
          · have hmap : n * i.size = 0 → (Array.range (n * i.size)).map ((#[] : Array Value)[· % (#[] : Array Value).size]!) = (Array.range (n * i.size)).map (zv.cells[· % zv.cells.size]!) := by
              intro h0
              simp [h0]
            simp only [Instr.buildSlice, Sem.run_bind, run_underlying hu, Result.andThen_ok, sizeOf_run hok, hcs]
            rw [if_neg (by omega)]
            by_cases h0 : n * i.size = 0
            · rw [if_pos h0]
              simp only [Sem.run_bind, Sem.run_pure, Result.andThen_ok, hmap h0, h1, newRow, run_newObj, World.alloc_eq]
            · rw [if_neg h0]
              simp only [Sem.run_bind, Sem.run_pure, zeroValue_run hi hzv, Result.andThen_ok, h1, newRow, run_newObj, World.alloc_eq]
          · refine VR.push (vs := vs') (el := el) (fz := (0, 0)) hF hH hN hI rfl (fun o => vs'[o]?) (fun o v h => h) [] (.inl rfl) ?_
            refine .inr ⟨⟨w.heap.size, 0, none⟩, n, by rw [hyl], hpos, ?_, by omega, .inl ⟨hyl.symm, rfl⟩⟩
            refine SlR.of_flat (vs := vs'.toList) h3 ?_ ?_
            · rw [hfy, List.take_of_length_le (by simp; omega)]
              exact h2.mono fun a b hab => CR.mono (sub_ext hI.wok _) hab
            · intro o v ho hv
              simp [ext]
              simpa using hv
      · simp at h
    · simp at h
  · simp at h

theorem if_some {α : Type} {c : Prop} [Decidable c] {x : Option α} {v : α} (h : (if c then x else none) = some v) : x = some v := by
  split at h
  · exact h
  · simp at h

theorem wrap_small {n : Int} (h0 : 0 ≤ n) (h1 : n ≤ 140737488355328) : IntKind.i64.wrap n = n := by
  rw [IntKind.wrap_i64]; omega

theorem makeSlice_sound (hF : FR ⟨Φ, w.heap, μ⟩ tm fr BF) (hH : HR ⟨Φ, w.heap, μ⟩ H μ BH) (hN : (BF ++ BH).Nodup) (hI : Inv E w Φ μ (BF ++ BH))
    {t : TypeId} {l c v : AV} {vl vc : Value} (hl : AR ⟨Φ, w.heap, μ⟩ tm l vl []) (hc : AR ⟨Φ, w.heap, μ⟩ tm c vc []) (h : makeSliceA P t l c = some v) :
    ∃ x w', (Instr.makeSlice t vl vc).run P w = .ok x w' ∧ VR E v fr H tm x w' := by
  unfold makeSliceA at h
  split at h
  · rename_i el kl l kc c hu
    obtain ⟨hl, _⟩ := hl
    obtain ⟨hc, _⟩ := hc
    cases hl
    cases hc
    split at h
    · rename_i i z hi hz
      split at h
      · rename_i hcnd
        obtain ⟨h0, hlc, hcm, hb, hpos⟩ := hcnd
        obtain ⟨i', zv, hi', hzv, hzs, hcs, hzl, hzr⟩ := zeroDV_spec hz
        rw [hi] at hi'; obtain rfl := Option.some.inj hi'
        obtain rfl := Option.some.inj h
        rw [hcs] at hpos ⊢
        have hwl := wrap_small h0 (by omega)
        have hwc := wrap_small (show 0 ≤ c by omega) hcm
        have hcells := zeros_flat hzl hzs (hzr Φ) c.toNat
        refine ⟨.slice (some ⟨w.heap.size, 0, none⟩) l.toNat c.toNat, w.alloc (.cells ((Array.range (c.toNat * i.size)).map (zv.cells[· % zv.cells.size]!)) el), ?_, ?_⟩
        · have hmap : c.toNat * i.size = 0 → (Array.range (c.toNat * i.size)).map ((#[] : Array Value)[· % (#[] : Array Value).size]!) = (Array.range (c.toNat * i.size)).map (zv.cells[· % zv.cells.size]!) := by
            intro h0
            simp [h0]
          have htl : ((decide (c < 0) || decide (i.bytes * c > 2 ^ 48)) || decide (l < 0) || decide (l > c)) = false := by
            simp; omega
          simp only [Instr.makeSlice, Sem.run_bind, run_underlying hu, Result.andThen_ok, asInt, asIntOf, Sem.run_pure, typeInfo, run_program, hi, hwl, hwc]
          rw [if_neg (by rw [htl]; simp)]
          simp only [Sem.run_bind, run_askRoom, Result.andThen_ok, Go.sizeOf, typeInfo, run_program, hi, Sem.run_pure]
          by_cases h0 : c.toNat * i.size = 0
          · rw [if_pos h0]
            simp only [Sem.run_bind, Sem.run_pure, Result.andThen_ok, hmap h0, newRow, run_newObj, World.alloc_eq]
          · rw [if_neg h0]
            simp only [Sem.run_bind, Sem.run_pure, zeroValue_run hi hzv, Result.andThen_ok, newRow, run_newObj, World.alloc_eq]
        · have hfl : (flat (List.replicate l.toNat z)).length = l.toNat * i.size := by rw [flat_length (sz := i.size) (by intro x hx; rw [List.eq_of_mem_replicate hx]; exact hzl)]; simp
          have hle : l.toNat * i.size ≤ c.toNat * i.size := Nat.mul_le_mul_right _ (by omega)
          refine VR.push (vs := (Array.range (c.toNat * i.size)).map (zv.cells[· % zv.cells.size]!)) (el := el) (fz := (0, 0)) hF hH hN hI rfl
            (fun o => if o < l.toNat * i.size then ((Array.range (c.toNat * i.size)).map (zv.cells[· % zv.cells.size]!))[o]? else none) (fun o v h => if_some h) [w.heap.size] (.inr rfl) ?_
          refine .inr ⟨⟨w.heap.size, 0, none⟩, c.toNat, by simp, hpos, ?_, by simp; omega, .inr ⟨rfl, rfl, (Array.range (c.toNat * i.size)).map (zv.cells[· % zv.cells.size]!), el, ?_, by simp, ?_⟩⟩
          · refine SlR.of_flat (vs := ((Array.range (c.toNat * i.size)).map (zv.cells[· % zv.cells.size]!)).toList) (by intro x hx; rw [List.eq_of_mem_replicate hx]; exact hzl) ?_ ?_
            · rw [hfl]
              have hl0 := zeros_flat hzl hzs (hzr Φ) l.toNat
              have : (((Array.range (c.toNat * i.size)).map (zv.cells[· % zv.cells.size]!)).toList).take (l.toNat * i.size) = ((Array.range (l.toNat * i.size)).map (zv.cells[· % zv.cells.size]!)).toList := by
                simp [List.take_range, Nat.min_eq_left hle, ← List.map_take]
              rw [this]
              exact hl0.mono fun a b hab => CR.mono (sub_ext hI.wok _) hab
            · intro o v ho hv
              rw [hfl] at ho
              simp only [ext, if_true, if_pos ho]
              rw [Array.getElem?_toList] at hv; exact hv
          · show (w.heap.push _)[w.heap.size]? = _; simp
          · intro o ho
            simp [ext] at ho ⊢
            omega
      · simp at h
    · simp at h
  · simp at h

theorem cells_at {e : Env} {heap : Array Obj} (hw : WOK e.Φ w.heap) {sz : Nat} {xs : List DV} {a : Addr} (h : SlR e.Φ sz xs a) :
    ∃ vs : List Value, All2 (CR e.Φ) (flat xs) vs ∧ vs.length = xs.length * sz ∧ (∀ (j : Nat) (v : Value), vs[j]? = some v → e.Φ a.block (a.off + j) = some v) ∧ ∀ (j : Nat) (v : Value), vs[j]? = some v → w.cell? (a.add j) = some v := by
  have hz : ∀ x ∈ xs, x.cells.length = sz := fun x hx => by
    obtain ⟨i, hi⟩ := List.getElem?_of_mem hx
    exact (h.2 i x hi).1
  have hfl := flat_length hz
  have key : ∀ j, j < (flat xs).length → ∃ c v, (flat xs)[j]? = some c ∧ e.Φ a.block (a.off + j) = some v ∧ CR e.Φ c v := by
    intro j hj
    rw [hfl] at hj
    have hpos : 0 < sz := by rcases Nat.eq_zero_or_pos sz with h | h; · subst h; simp at hj
                             · exact h
    have hi : j / sz < xs.length := (Nat.div_lt_iff_lt_mul hpos).2 hj
    obtain ⟨h1, h2⟩ := h.2 (j / sz) xs[j / sz] (by simp [hi])
    have hr : j % sz < xs[j / sz].cells.length := by rw [h1]; exact Nat.mod_lt _ hpos
    obtain ⟨v, h3, h4⟩ := h2 (j % sz) xs[j / sz].cells[j % sz] (by simp [hr])
    have hg := flat_get hz (i := j / sz) (j := j % sz) (x := xs[j / sz]) (c := xs[j / sz].cells[j % sz]) (by simp [hi]) (by simp [hr])
    have hdm : j / sz * sz + j % sz = j := by rw [Nat.mul_comm]; exact Nat.div_add_mod j sz
    rw [hdm] at hg
    rw [Nat.add_assoc, hdm] at h3
    exact ⟨_, v, hg, h3, h4⟩
  refine ⟨(List.range (flat xs).length).map fun j => (e.Φ a.block (a.off + j)).getD default, ?_, by simp [hfl], ?_, ?_⟩
  · refine All2.of_get (by simp) fun j c v hc hv => ?_
    obtain ⟨c', v', h1, h2, h3⟩ := key j (List.getElem?_eq_some_iff.1 hc).1
    rw [hc] at h1; obtain rfl := Option.some.inj h1
    have hlt := (List.getElem?_eq_some_iff.1 hc).1
    simp [hlt, h2] at hv
    subst hv; exact h3
  · intro j v hv
    have hlt : j < (flat xs).length := by have := (List.getElem?_eq_some_iff.1 hv).1; simpa using this
    obtain ⟨c', v', h1, h2, h3⟩ := key j hlt
    simp [hlt, h2] at hv
    subst hv; exact h2
  · intro j v hv
    have hlt : j < (flat xs).length := by have := (List.getElem?_eq_some_iff.1 hv).1; simpa using this
    obtain ⟨c', v', h1, h2, h3⟩ := key j hlt
    simp [hlt, h2] at hv
    subst hv
    obtain ⟨c, el, fz, h5, h6⟩ := hw _ _ _ h2
    rw [add_eq h.1]
    simp [World.cell?, h5, h6]

theorem conv_sound (hF : FR ⟨Φ, w.heap, μ⟩ tm fr BF) (hH : HR ⟨Φ, w.heap, μ⟩ H μ BH) (hN : (BF ++ BH).Nodup) (hI : Inv E w Φ μ (BF ++ BH))
    {src dst : TypeId} {x v : AV} {vx : Value} (hx : AR ⟨Φ, w.heap, μ⟩ tm x vx []) (h : convA P src dst x = some v) :
    ∃ y w', (convert src dst vx).run P w = .ok y w' ∧ VR E v fr H tm y w' := by
  unfold convA at h
  split at h
  · rename_i d k hs hd
    split at h
    · obtain rfl := Option.some.inj h
      obtain ⟨hc, _⟩ := hx
      cases hc
      refine ⟨_, w, ?_, VR.pure hF hH hN hI ⟨.int _ _, rfl⟩⟩
      simp only [convert, Sem.run_bind, run_underlying hs, run_underlying hd, Result.andThen_ok]
      cases d <;> rfl
    · simp at h
  · rename_i hs hd
    split at h
    · obtain rfl := Option.some.inj h
      obtain ⟨hc, _⟩ := hx
      cases hc with
      | str _ b hb =>
        refine ⟨_, w, ?_, VR.pure hF hH hN hI ⟨.str _ _ hb, rfl⟩⟩
        simp only [convert, Sem.run_bind, run_underlying hs, run_underlying hd, Result.andThen_ok]
        rfl
    · simp at h
  · rename_i el hs hd
    split at h
    · rename_i s he
      obtain rfl := Option.some.inj h
      obtain ⟨hc, _⟩ := hx
      cases hc with
      | str _ b hb =>
        subst hb
        refine ⟨_, _, Lib.run_convert_string_bytes w src dst el b hs hd he, ?_⟩
        have hheap : (Lib.bytesWorld w el b).heap = w.heap.push (.cells (Lib.bytesCells w el b) el ((Lib.bytesCells w el b).size, (Lib.bytesCells w el b).size + 1)) := by
          apply Array.ext_getElem?
          intro j
          rcases Nat.lt_trichotomy j w.heap.size with hj | hj | hj
          · rw [Lib.bytesWorld_at_old w el b j hj, get_push hj]
          · subst hj; rw [Lib.bytesWorld_at_new]; simp
          · rw [Array.getElem?_eq_none (by rw [Lib.bytesWorld_size]; omega), Array.getElem?_eq_none (by simp; omega)]
        have hcell : ∀ j (hj : j < b.data.toList.length), (Lib.bytesCells w el b)[j]? = some (.int .u8 (b.data.toList[j]).toNat) := by
          intro j hj
          have hj' : j < b.data.size := by simpa using hj
          have hj2 : j < b.size := hj'
          simp [Lib.bytesCells, Array.getElem?_append, hj', hj2]
        refine VR.push hF hH hN hI hheap (fun o => if o < b.data.toList.length then (Lib.bytesCells w el b)[o]? else none) (fun o v h => if_some h) [] (.inl rfl) ?_
        refine ⟨?_, rfl⟩
        have hlen : (ofBytes b.data.toList).length = b.size := by rw [size_data]; simp only [ofBytes, List.length_map]
        rw [← hlen]
        refine CR.of_SlR (a := ⟨w.heap.size, 0, none⟩) ⟨rfl, fun i x hx => ?_⟩ (by rw [hlen]; exact grownCap_ge w b.size 0 el)
        simp only [ofBytes, List.getElem?_map] at hx
        cases hg : b.data.toList[i]? with
        | none => rw [hg] at hx; simp at hx
        | some c =>
          rw [hg] at hx; simp at hx; subst hx
          refine ⟨rfl, fun j c' hj => ?_⟩
          cases j with
          | succ j => simp [DV.cells] at hj
          | zero =>
            simp [DV.cells] at hj; subst hj
            obtain ⟨hlt, hgc⟩ := List.getElem?_eq_some_iff.1 hg
            refine ⟨_, ?_, .int _ _⟩
            simp only [ext, if_true, Nat.zero_add, Nat.mul_one, Nat.add_zero, if_pos hlt, hcell i hlt, hgc]
    · simp at h
  · rename_i el hs hd
    split at h
    · rename_i sz xs he hel
      have hcr := elems_sound hx hel
      cases hb : bytesOf xs with
      | none => rw [hb] at h; simp at h
      | some s =>
        rw [hb] at h; simp at h; subst h
        rcases hcr.sl_inv with ⟨rfl, rfl⟩ | ⟨ad, cap, rfl, hcap, hsl⟩
        · simp [bytesOf] at hb; subst hb
          exact ⟨.string .empty, w, by rw [run_convert_bytes_string w src dst el none 0 0 hs he hd]; rfl, VR.pure hF hH hN hI ⟨.str _ _ rfl, rfl⟩⟩
        · obtain ⟨vs, h1, h2, h3, h4⟩ := cells_at (e := ⟨Φ, w.heap, μ⟩) (heap := w.heap) hI.wok hsl
          have hform : ∀ (xs : List DV) (s : List UInt8) (vs : List Value), bytesOf xs = some s → All2 (CR Φ) (flat xs) vs → ∃ ns : List Int, vs = ns.map (Value.int .u8) ∧ ns.length = xs.length ∧ s = ns.map fun n => UInt8.ofNat n.toNat := by
            intro xs
            induction xs with
            | nil => intro s vs hb hv; simp [bytesOf] at hb; subst hb; cases hv; exact ⟨[], rfl, rfl, rfl⟩
            | cons x xs ih =>
              intro s vs hb hv
              cases x with
              | int k n =>
                cases k <;> simp only [bytesOf] at hb <;> try (simp at hb; done)
                cases hb' : bytesOf xs with
                | none => rw [hb'] at hb; simp at hb
                | some s' =>
                  rw [hb'] at hb; simp at hb; subst hb
                  rw [flat_cons] at hv
                  cases hv with
                  | cons hc hr =>
                    cases hc
                    obtain ⟨ns, rfl, hl, rfl⟩ := ih _ _ hb' hr
                    exact ⟨n :: ns, rfl, by simp [hl], rfl⟩
              | _ => simp [bytesOf] at hb
          obtain ⟨ns, rfl, hl, rfl⟩ := hform _ _ _ hb h1
          have hload := run_loadCells_list (P := P) w ad (ns.map (Value.int .u8)) h4
          rw [List.length_map, hl] at hload
          refine ⟨_, w, by rw [run_convert_bytes_string w src dst el (some ad) _ _ hs he hd, run_bytesToString w ad _ _ ns hload], VR.pure hF hH hN hI ⟨.str _ _ ?_, rfl⟩⟩
          have : ∀ (ns : List Int) (b : ByteArray), (ns.foldl (fun r n => r.push (UInt8.ofNat n.toNat)) b).data.toList = b.data.toList ++ ns.map fun n => UInt8.ofNat n.toNat := by
            intro ns
            induction ns with
            | nil => intro b; simp
            | cons n ns ih => intro b; simp [ih]
          simpa using this ns ByteArray.empty
    · simp at h
  · simp at h

end

end Go.AI
