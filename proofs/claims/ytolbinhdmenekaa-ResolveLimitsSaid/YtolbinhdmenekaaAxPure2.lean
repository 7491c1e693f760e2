/- Operations that only compute, continued: fields, elements, addresses, slices, conversions. -/
import Derived.Test.YtolbinhdmenekaaAxPure
namespace Go.AI
set_option linter.unusedVariables false
set_option linter.unusedSimpArgs false

theorem add_eq {a : Addr} (h : a.spot = none) (n : Nat) : a.add n = ⟨a.block, a.off + n, none⟩ := by
  unfold Addr.add
  split
  · rename_i hn; subst hn; cases a; simp_all
  · rfl

theorem nil_of_sub {B : List Nat} (h : ∀ r ∈ B, r ∈ ([] : List Nat)) : B = [] := by
  cases B with
  | nil => rfl
  | cons b B => exact absurd (h b (by simp)) (by simp)

section
variable {P : Program} {w : World} {e : Env} {tm : Array Value}

theorem fieldOf_spec {t : TypeId} {i off : Nat} {ft : TypeId} (h : fieldOf P t i = some (off, ft)) :
    ∃ fs f, P.underlying t = some (.struct fs) ∧ fs[i]? = some f ∧ f.offset = off ∧ f.type = ft := by
  unfold fieldOf at h
  split at h
  · rename_i fs hu
    split at h
    · rename_i f hf
      have := Option.some.inj h
      exact ⟨fs, f, hu, hf, (Prod.mk.inj this).1, (Prod.mk.inj this).2⟩
    · simp at h
  · simp at h

theorem fieldA_sound {t : TypeId} {x a : AV} {vx : Value} {i : Nat} (hx : AR e tm x vx []) (h : fieldA P t x i = some a) :
    ∃ v, (Instr.field t vx i).run P w = .ok v w ∧ AR e tm a v [] := by
  unfold fieldA at h
  split at h
  · rename_i off ft cs hf
    obtain ⟨fs, f, hu, hfi, rfl, rfl⟩ := fieldOf_spec hf
    obtain ⟨vs, rfl, hc⟩ := hx
    obtain ⟨v, B1, h1, h2, h3⟩ := part_sound (w := w) hc h
    rw [nil_of_sub h3] at h2
    exact ⟨v, by simp [Instr.field, run_underlying hu, hfi, asAgg, h1], AR.of_AR1 h2⟩
  · simp at h

theorem PtR.part {Φ : Mem} {t : TypeId} {cs : List DV} {off : Nat} {y : DV} {a : Addr} (h : PtR Φ (.agg cs) a) (hp : partD P t cs off = some y)
    (hflat : ∀ c ∈ cs, c.cells = [c]) : PtR Φ y ⟨a.block, a.off + off, none⟩ := by
  obtain ⟨hs, h⟩ := h
  refine ⟨rfl, fun j c hj => ?_⟩
  unfold partD at hp
  cases hag : isAggB P t with
  | true =>
    rw [hag, cond_true] at hp
    split at hp
    · obtain rfl := Option.some.inj hp
      have hj' : cs[off + j]? = some c := by
        simp only [DV.cells] at hj
        rw [List.getElem?_take] at hj
        split at hj
        · rwa [List.getElem?_drop] at hj
        · simp at hj
      obtain ⟨v, h1, h2⟩ := h (off + j) c hj'
      exact ⟨v, by rw [show a.off + off + j = a.off + (off + j) by omega]; exact h1, h2⟩
    · simp at hp
  | false =>
    rw [hag, cond_false] at hp
    have hy := hflat y (List.mem_of_getElem? hp)
    rw [hy] at hj
    cases j with
    | zero =>
      simp at hj; subst hj
      obtain ⟨v, h1, h2⟩ := h off y hp
      exact ⟨v, by simpa using h1, h2⟩
    | succ j => simp at hj

theorem CR.not_agg {Φ : Mem} {x : DV} {v : Value} (h : CR Φ x v) : x.cells = [x] := by cases h <;> rfl

theorem PtR.flat {Φ : Mem} {cs : List DV} {a : Addr} (h : PtR Φ (.agg cs) a) : ∀ c ∈ cs, c.cells = [c] := fun c hc => by
  obtain ⟨j, hj⟩ := List.getElem?_of_mem hc
  obtain ⟨v, _, h2⟩ := h.2 j c hj
  exact h2.not_agg

theorem fieldAddrA_sound {t : TypeId} {x a : AV} {vx : Value} {i : Nat} (hx : AR e tm x vx []) (h : fieldAddrA P t x i = some a) :
    ∃ v, (Instr.fieldAt t vx i).run P w = .ok v w ∧ AR e tm a v [] := by
  unfold fieldAddrA at h
  split at h
  · rename_i off ft hf
    obtain ⟨fs, f, hu, hfi, rfl, rfl⟩ := fieldOf_spec hf
    split at h
    · rename_i hc
      obtain ⟨hok, hpos⟩ := hc
      have hrun : ∀ ad : Addr, ad.spot = none → (Instr.fieldAt t (.pointer (some ad)) i).run P w = .ok (.pointer (some ⟨ad.block, ad.off + f.offset, none⟩)) w := by
        intro ad had
        have hne : ¬ (P.cellsOf f.type = 0) := by omega
        simp [Instr.fieldAt, run_underlying hu, hfi, Instr.sureAddr, fieldPlace, sizeOf_run hok, hne, add_eq had]
      split at h
      · obtain rfl := Option.some.inj h
        obtain ⟨r, h1, rfl, _⟩ := hx
        exact ⟨_, hrun _ rfl, r, h1, rfl, rfl⟩
      · obtain rfl := Option.some.inj h
        obtain ⟨r, h1, rfl, _⟩ := hx
        exact ⟨_, hrun _ rfl, r, h1, rfl, rfl⟩
      · rename_i cs
        cases hp : partD P f.type cs f.offset with
        | none => rw [hp] at h; simp at h
        | some y =>
          rw [hp] at h; simp at h; subst h
          obtain ⟨ad, rfl, h1, _⟩ := hx
          exact ⟨_, hrun _ h1.1, _, rfl, h1.part hp h1.flat, rfl⟩
      · simp at h
    · simp at h
  · simp at h

theorem elems_sound {x : AV} {vx : Value} {sz : Nat} {xs : List DV} (hx : AR e tm x vx []) (h : elems x = some (sz, xs)) : CR e.Φ (.sl sz xs) vx := by
  unfold elems at h
  split at h
  · obtain ⟨rfl, rfl⟩ := Prod.mk.inj (Option.some.inj h); exact hx.1
  · obtain ⟨rfl, rfl⟩ := Prod.mk.inj (Option.some.inj h)
    rcases hx with ⟨rfl, rfl, _⟩ | ⟨a, cap, rfl, _, hs, hc, _⟩
    · exact .nil _
    · exact .of_SlR hs hc
  · simp at h

theorem indexAddrA_sound {t : TypeId} {x ix a : AV} {vx vi : Value} (hx : AR e tm x vx []) (hix : AR e tm ix vi []) (h : indexAddrA P t x ix = some a) :
    ∃ v, (Instr.indexAt t vx vi).run P w = .ok v w ∧ AR e tm a v [] := by
  unfold indexAddrA at h
  split at h
  · rename_i k i
    obtain ⟨hci, _⟩ := hix
    cases hci
    split at h
    · rename_i el hu
      split at h
      · rename_i sz xs hel
        split at h
        · rename_i hc
          obtain ⟨hok, h0, rfl⟩ := hc
          have hcr := elems_sound hx hel
          cases hg : xs[i.toNat]? with
          | none => rw [hg] at h; simp at h
          | some y =>
            rw [hg] at h; simp at h; subst h
            rcases hcr.sl_inv with ⟨rfl, rfl⟩ | ⟨ad, cap, rfl, hle, hs, hsl⟩
            · simp at hg
            · have hlt : i < (xs.length : Int) := by
                have := List.getElem?_eq_some_iff.1 hg
                obtain ⟨h1, _⟩ := this
                omega
              refine ⟨.pointer (some ⟨ad.block, ad.off + i.toNat * P.cellsOf el, none⟩), ?_, _, rfl, ⟨rfl, fun j c hj => ?_⟩, rfl⟩
              · simp [Instr.indexAt, asIntOf, run_underlying hu, h0, hlt, sizeOf_run hok, add_eq hs]
              · exact (hsl _ _ hg).2 j c hj
        · simp at h
      · simp at h
    · rename_i n el hu
      split at h
      · rename_i hc
        obtain ⟨hok, h0, hn⟩ := hc
        have hrun : ∀ ad : Addr, ad.spot = none → (Instr.indexAt t (.pointer (some ad)) (.int k i)).run P w = .ok (.pointer (some ⟨ad.block, ad.off + i.toNat * P.cellsOf el, none⟩)) w := by
          intro ad had
          simp [Instr.indexAt, asIntOf, run_underlying hu, Instr.sureAddr, h0, hn, sizeOf_run hok, add_eq had]
        split at h
        · obtain rfl := Option.some.inj h
          obtain ⟨r, h1, rfl, _⟩ := hx
          exact ⟨_, hrun _ rfl, r, h1, rfl, rfl⟩
        · obtain rfl := Option.some.inj h
          obtain ⟨r, h1, rfl, _⟩ := hx
          exact ⟨_, hrun _ rfl, r, h1, rfl, rfl⟩
        · rename_i cs
          cases hp : partD P el cs (i.toNat * P.cellsOf el) with
          | none => rw [hp] at h; simp at h
          | some y =>
            rw [hp] at h; simp at h; subst h
            obtain ⟨ad, rfl, h1, _⟩ := hx
            exact ⟨_, hrun _ h1.1, _, rfl, h1.part hp h1.flat, rfl⟩
        · simp at h
      · simp at h
    · simp at h
  · simp at h

theorem indexA_sound {t : TypeId} {x ix a : AV} {vx vi : Value} (hx : AR e tm x vx []) (hix : AR e tm ix vi []) (h : indexA P t x ix = some a) :
    ∃ v, (Instr.index t vx vi).run P w = .ok v w ∧ AR e tm a v [] := by
  unfold indexA at h
  split at h
  · rename_i k i
    obtain ⟨hci, _⟩ := hix
    cases hci
    split at h
    · rename_i s hu
      obtain ⟨hcx, _⟩ := hx
      cases hcx with
      | str _ b hb =>
        subst hb
        split at h
        · rename_i h0
          cases hg : b.data.toList[i.toNat]? with
          | none => rw [hg] at h; simp at h
          | some c =>
            rw [hg] at h; simp at h; subst h
            have hb : b[i.toNat]? = some c := by
              obtain ⟨hl, hc⟩ := List.getElem?_eq_some_iff.1 hg
              rw [ByteArray.getElem?_lt' b i.toNat (by rw [size_data]; exact hl)]
              exact congrArg some (show b.data[i.toNat]'(by simpa using hl) = c by simpa using hc)
            exact ⟨_, by simp [Instr.index, asIntOf, run_underlying hu, h0, hb], .int _ _, rfl⟩
        · simp at h
    · rename_i n el cs hu
      split at h
      · rename_i hc
        obtain ⟨h0, hn⟩ := hc
        obtain ⟨vs, rfl, hcs⟩ := hx
        have hok : tyOK P el = true := by
          unfold loadA at h; cases ht : tyOK P el with
          | true => rfl
          | false => rw [ht] at h; simp at h
        obtain ⟨v, B1, h1, h2, h3⟩ := part_sound (w := w) hcs h
        rw [nil_of_sub h3] at h2
        exact ⟨v, by simp [Instr.index, asIntOf, run_underlying hu, h0, hn, sizeOf_run hok, h1], AR.of_AR1 h2⟩
      · simp at h
    · simp at h
  · simp at h

theorem lenA_sound {t : TypeId} {x : AV} {z : DV} {vx : Value} (ts : List TypeId) (vs : List Value) (ty : TypeId) (hx : AR e tm x vx []) (h : lenA P t x = some z) :
    ∃ v, (Builtin.len_ (t :: ts).toArray ty (vx :: vs).toArray).run P w = .ok v w ∧ CR e.Φ z v := by
  unfold lenA at h
  split at h
  · rename_i s hu
    obtain rfl := Option.some.inj h
    obtain ⟨hc, _⟩ := hx
    cases hc with
    | str _ b hb => subst hb; exact ⟨.int .i64 b.size, by simp [Builtin.len_, run_underlying hu, goInt], by rw [← size_data]; exact .int _ _⟩
  · rename_i el sz xs hu
    obtain rfl := Option.some.inj h
    have hcr := elems_sound hx rfl
    rcases hcr.sl_inv with ⟨rfl, rfl⟩ | ⟨ad, cap, rfl, _⟩
    · exact ⟨_, by simp [Builtin.len_, run_underlying hu, goInt], .int _ _⟩
    · exact ⟨_, by simp [Builtin.len_, run_underlying hu, goInt], .int _ _⟩
  · rename_i el sz xs hu
    obtain rfl := Option.some.inj h
    have hcr := elems_sound hx rfl
    rcases hcr.sl_inv with ⟨rfl, rfl⟩ | ⟨ad, cap, rfl, _⟩
    · exact ⟨_, by simp [Builtin.len_, run_underlying hu, goInt], .int _ _⟩
    · exact ⟨_, by simp [Builtin.len_, run_underlying hu, goInt], .int _ _⟩
  · simp at h
  · rename_i n el hu _
    obtain rfl := Option.some.inj h
    exact ⟨.int .i64 n, by simp [Builtin.len_, run_underlying hu, goInt], .int _ _⟩
  · simp at h
end

/-! ### Slices of strings and of slices -/

section
variable {P : Program} {w : World} {e : Env} {tm : Array Value}

/-- A bound, as the interpreter and as the machine read it. -/
theorem bound_run {o : Option AV} {ov : Option Value} {d : Nat} {i : Int} {y : Nat} {code : BoundsCode}
    (ho : match o, ov with | none, none => True | some a, some v => AR e tm a v [] | _, _ => False)
    (hb : bound o d = some i) (h0 : 0 ≤ i) (h1 : i ≤ y) : (match ov with | some v => Instr.sliceBound v y code | none => pure d).run P w = .ok i.toNat w := by
  cases o with
  | none =>
    cases ov with
    | none => simp only [bound] at hb; obtain rfl := Option.some.inj hb; simp
    | some v => exact ho.elim
  | some a =>
    cases ov with
    | none => exact ho.elim
    | some v =>
      unfold bound at hb
      split at hb
      · simp at *
      · rename_i k j heq
        cases heq
        obtain rfl := Option.some.inj hb
        obtain ⟨hc, _⟩ := ho
        cases hc
        exact run_sliceBound w _ _ _ _ h0 h1
      · simp at hb

def OptR (e : Env) (tm : Array Value) (o : Option AV) (ov : Option Value) : Prop :=
  match o, ov with | none, none => True | some a, some v => AR e tm a v [] | _, _ => False

theorem extract_data (b : ByteArray) (l h : Nat) : (b.extract l h).data.toList = (b.data.toList.take h).drop l := by
  cases b with
  | mk d =>
    have := ByteArray.extract_mk d.toList l h
    simp only [Array.toArray_toList] at this
    rw [this]
    simp [List.drop_take]

theorem SlR.nil {Φ : Mem} (sz : Nat) {a : Addr} (h : a.spot = none) : SlR Φ sz [] a := ⟨h, fun i x hx => by simp at hx⟩

theorem SlR.sub {Φ : Mem} {sz : Nat} {xs : List DV} {a : Addr} (hs : SlR Φ sz xs a) (l h : Nat) : SlR Φ sz ((xs.take h).drop l) ⟨a.block, a.off + l * sz, none⟩ := by
  refine ⟨rfl, fun i x hx => ?_⟩
  have hx' : xs[l + i]? = some x := by
    rw [List.getElem?_drop, List.getElem?_take] at hx
    split at hx
    · exact hx
    · simp at hx
  obtain ⟨h1, h2⟩ := hs.2 _ _ hx'
  refine ⟨h1, fun j c hj => ?_⟩
  obtain ⟨v, h3, h4⟩ := h2 j c hj
  exact ⟨v, by show Φ a.block (a.off + l * sz + i * sz + j) = some v; rw [show a.off + l * sz + i * sz + j = a.off + (l + i) * sz + j by rw [Nat.add_mul]; omega]; exact h3, h4⟩

theorem sliceA_sound {t : TypeId} {x a : AV} {vx : Value} {lo hi mx : Option AV} {vlo vhi vmx : Option Value} (hx : AR e tm x vx [])
    (hlo : OptR e tm lo vlo) (hhi : OptR e tm hi vhi) (hmx : OptR e tm mx vmx) (h : sliceA P t x lo hi mx = some a) :
    ∃ v, (Instr.sliceAt t vx vlo vhi vmx).run P w = .ok v w ∧ AR e tm a v [] := by
  unfold sliceA at h
  split at h
  · rename_i hu
    split at h
    · rename_i s
      have hm : vmx = none := by cases vmx with | none => rfl | some v => exact hmx.elim
      subst hm
      split at h
      · rename_i l hh hbl hbh
        split at h
        · rename_i hc
          obtain ⟨h0, h1, h2⟩ := hc
          obtain rfl := Option.some.inj h
          obtain ⟨hcx, _⟩ := hx
          cases hcx with
          | str _ b hb =>
            subst hb
            have hsz : (hh : Int) ≤ (b.size : Nat) := by rw [size_data]; exact h2
            have r1 := bound_run (P := P) (w := w) (y := b.size) (code := .sliceAlen) (d := b.size) (o := hi) (ov := vhi) hhi (by rw [size_data]; exact hbh) (by omega) hsz
            have r2 := bound_run (P := P) (w := w) (y := hh.toNat) (code := .sliceB) (d := 0) (o := lo) (ov := vlo) hlo hbl h0 (by omega)
            refine ⟨.string (b.extract l.toNat hh.toNat), ?_, .str _ _ (extract_data _ _ _), rfl⟩
            simp only [Instr.sliceAt, Sem.run_bind, run_underlying hu, Result.andThen_ok, Instr.slice, Option.isSome_none, Bool.false_eq_true, if_false, Instr.sliceBounds, Sem.run_pure]
            cases vhi <;> cases vlo <;> simp_all [Sem.run_bind]
        · simp at h
      · simp at h
    · simp at h
  · rename_i el hu
    split at h
    · rename_i sz xs hel
      have hcr := elems_sound hx hel
      split at h
      · rename_i l hh hbl hbh
        split at h
        · rename_i hc
          obtain ⟨hok, h0, h1, h2, hsz⟩ := hc
          have r3 : ∀ code, (match vlo with | some v => Instr.sliceBound v hh.toNat code | none => pure 0).run P w = .ok l.toNat w := fun code =>
            bound_run (P := P) (w := w) (y := hh.toNat) (code := code) (d := 0) (o := lo) (ov := vlo) hlo hbl h0 (by omega)
          have r2 : ∀ code (m : Nat), hh ≤ (m : Int) → (match vhi with | some v => Instr.sliceBound v m code | none => pure xs.length).run P w = .ok hh.toNat w := fun code m hm =>
            bound_run (P := P) (w := w) (y := m) (code := code) (d := xs.length) (o := hi) (ov := vhi) hhi hbh (by omega) hm
          have hlen : ((xs.take hh.toNat).drop l.toNat).length = hh.toNat - l.toNat := by simp; omega
          cases mx with
          | none =>
            have hm : vmx = none := by cases vmx with | none => rfl | some v => exact hmx.elim
            subst hm
            simp only at h
            obtain rfl := Option.some.inj h
            have hrun : ∀ (b : Option Addr) (cap : Nat), xs.length ≤ cap →
                (Instr.sliceAt t (.slice b xs.length cap) vlo vhi none).run P w = .ok (.slice (if cap = l.toNat then b else b.map (·.add (l.toNat * P.cellsOf el))) (hh.toNat - l.toNat) (cap - l.toNat)) w := by
              intro b cap hcap
              have r2b := r2 .sliceAcap cap (by omega)
              have r3b := r3 .sliceB
              simp only [Instr.sliceAt, Sem.run_bind, run_underlying hu, Result.andThen_ok, Instr.slice, Instr.sliceBounds]
              cases vhi <;> cases vlo <;> simp_all [Sem.run_bind, sizeOf_run hok]
            rcases hcr.sl_inv with ⟨rfl, rfl⟩ | ⟨ad, cap, rfl, hcap, hsl⟩
            · have h1' : l = 0 := by simp at h2; omega
              have h2' : hh = 0 := by simp at h2; omega
              subst h1'; subst h2'
              exact ⟨_, by simpa using hrun none 0 (by simp), by simpa using CR.nil sz, rfl⟩
            · refine ⟨_, hrun (some ad) cap hcap, ?_, rfl⟩
              by_cases hml : cap = l.toNat
              · have he : (xs.take hh.toNat).drop l.toNat = [] := List.eq_nil_of_length_eq_zero (by rw [hlen]; omega)
                rw [if_pos hml, he]
                have := CR.of_SlR (cap := cap - l.toNat) (SlR.nil (Φ := e.Φ) sz hsl.1) (by simp)
                simpa [show hh.toNat - l.toNat = 0 by omega] using this
              · rw [if_neg hml, ← hlen]
                simp only [Option.map_some, add_eq hsl.1]
                rcases hsz with rfl | rfl
                · exact .of_SlR (hsl.sub _ _) (by rw [hlen]; omega)
                · simpa using CR.of_SlR (cap := cap - l.toNat) (SlR.nil (Φ := e.Φ) sz (a := ⟨ad.block, ad.off + l.toNat * P.cellsOf el, none⟩) rfl) (by simp)
          | some a' =>
            cases vmx with
            | none => exact hmx.elim
            | some vm =>
            cases a' with
            | d dm =>
              cases dm with
              | int km m =>
                simp only at h
                split at h
                · rename_i hmm
                  obtain ⟨rfl, hpos, hhs⟩ := hmm
                  obtain rfl := Option.some.inj h
                  obtain ⟨hcm, _⟩ := hmx
                  cases hcm
                  have hvh : ∃ vh, vhi = some vh := by
                    cases hi with
                    | none => simp at hhs
                    | some _ => cases vhi with | none => exact hhi.elim | some vh => exact ⟨vh, rfl⟩
                  obtain ⟨vh, rfl⟩ := hvh
                  have hrun : ∀ (b : Option Addr) (cap : Nat), xs.length ≤ cap →
                      (Instr.sliceAt t (.slice b xs.length cap) vlo (some vh) (some (.int km m))).run P w = .ok (.slice (if m.toNat = l.toNat then b else b.map (·.add (l.toNat * P.cellsOf el))) (m.toNat - l.toNat) (m.toNat - l.toNat)) w := by
                    intro b cap hcap
                    have r1 := run_sliceBound (P := P) w km m cap .slice3Acap (by omega) (by omega)
                    have r2b := r2 .slice3B m.toNat (by omega)
                    have r3b := r3 .slice3C
                    simp only [Instr.sliceAt, Sem.run_bind, run_underlying hu, Result.andThen_ok, Instr.slice, Instr.sliceBounds]
                    cases vlo <;> simp_all [Sem.run_bind, sizeOf_run hok]
                  rcases hcr.sl_inv with ⟨rfl, rfl⟩ | ⟨ad, cap, rfl, hcap, hsl⟩
                  · have h1' : l = 0 := by simp at h2; omega
                    have h2' : m = 0 := by simp at h2; omega
                    subst h1'; subst h2'
                    exact ⟨_, by simpa using hrun none 0 (by simp), .inl ⟨by simp, by simp, rfl⟩⟩
                  · refine ⟨_, hrun (some ad) cap hcap, .inr ?_⟩
                    by_cases hml : m.toNat = l.toNat
                    · have he : (xs.take m.toNat).drop l.toNat = [] := List.eq_nil_of_length_eq_zero (by rw [hlen]; omega)
                      rw [if_pos hml, he]
                      exact ⟨ad, 0, by simp [hml], hpos, SlR.nil _ hsl.1, by simp, .inl ⟨by simp, rfl⟩⟩
                    · rw [if_neg hml]
                      refine ⟨⟨ad.block, ad.off + l.toNat * P.cellsOf el, none⟩, m.toNat - l.toNat, by simp [add_eq hsl.1, hlen], hpos, ?_, by omega, .inl ⟨hlen.symm, rfl⟩⟩
                      rcases hsz with rfl | rfl
                      · exact hsl.sub _ _
                      · simpa using SlR.nil (Φ := e.Φ) (P.cellsOf el) (a := ⟨ad.block, ad.off + l.toNat * P.cellsOf el, none⟩) rfl
                · simp at h
              | _ => simp at h
            | _ => simp at h
        · simp at h
      · simp at h
    · simp at h
  · simp at h
end

end Go.AI
