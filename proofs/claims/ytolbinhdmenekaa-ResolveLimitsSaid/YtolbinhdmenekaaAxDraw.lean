/- Regions that draw their order: two steps that are apart may be taken in either order. -/
import Derived.Test.YtolbinhdmenekaaAxLoc
namespace Go.AI
set_option linter.unusedVariables false
set_option linter.unusedSimpArgs false

/-! ### What a value among the operands makes of an operation -/

/-- A value that an operation may take: no pointer into a variable, unless the operation says so. -/
def NoLp (u : Nat) (a : AV) : Prop := isLp u a = false

theorem rd_lp {cx : Cx} {fr : Fr} {t u o : Nat} {v : AV} (hg : get fr t = some (.lp u o)) (h : rd cx fr (.tmp t) = some v) : v = .lp u o := by
  simp only [rd, hg] at h
  exact (Option.some.inj h).symm

theorem toD0_lp {u o : Nat} : toD0 (.lp u o) = none := rfl

theorem rds_get {cx : Cx} {fr : Fr} : ∀ {os : List Operand} {as : List AV} {o : Operand}, rds cx fr os = some as → o ∈ os → ∃ a ∈ as, rd cx fr o = some a
  | [], _, _, _, h => by simp at h
  | p :: r, _, o, h, ho => by
    simp only [rds] at h
    split at h
    · rename_i a as h1 h2
      obtain rfl := Option.some.inj h
      rcases List.mem_cons.1 ho with rfl | ho
      · exact ⟨a, by simp, h1⟩
      · obtain ⟨b, hb, h3⟩ := rds_get h2 ho
        exact ⟨b, List.mem_cons_of_mem _ hb, h3⟩
    · simp at h

theorem rdS_lp {cx : Cx} {st : Bool} {fr fr1 : Fr} {t u o : Nat} {v : AV} (hg : get fr t = some (.lp u o)) (h : rdS cx st fr (.tmp t) = some (v, fr1)) : v = .lp u o := by
  cases st with
  | false =>
    simp only [rdS, cond_false] at h
    cases hr : rd cx fr (.tmp t) with
    | none => rw [hr] at h; simp at h
    | some w => rw [hr] at h; simp at h; rw [← h.1]; exact rd_lp hg hr
  | true =>
    simp only [rdS, cond_true, hg] at h
    exact (Prod.mk.inj (Option.some.inj h)).1.symm

theorem rdsS_lp {cx : Cx} {st : Bool} {u o t : Nat} : ∀ {os : List Operand} {fr fr1 : Fr} {as : List AV}, rdsS cx st fr os = some (as, fr1) → Operand.tmp t ∈ os → get fr t = some (.lp u o) → AV.lp u o ∈ as
  | [], _, _, _, _, h, _ => by simp at h
  | p :: r, fr, fr1, _, h, ho, hg => by
    simp only [rdsS] at h
    split at h
    · rename_i v fr2 h1
      split at h
      · rename_i us fr3 h2
        obtain ⟨rfl, rfl⟩ := Prod.mk.inj (Option.some.inj h)
        rcases List.mem_cons.1 ho with rfl | ho
        · rw [rdS_lp hg h1]; simp
        · obtain ⟨ds, rfl, _⟩ := rdS_loc h1
          refine List.mem_cons_of_mem _ (rdsS_lp h2 ho ?_)
          rw [get_disL, hg]; split <;> rfl
      · simp at h
    · simp at h

/-- An operation takes no junk, and a pointer into a variable only where its foot says so. -/
def Takes (fr : Fr) (op : Op) (ft : Foot) : Prop :=
  ∀ t ∈ tmpsOf op.operands.toList, ∃ a, get fr t = some a ∧ a ≠ .junk ∧ ∀ u o, a = .lp u o → ft.touches u = true

theorem rd_some {cx : Cx} {fr : Fr} {t : Nat} {v : AV} (h : rd cx fr (.tmp t) = some v) : ∃ a, get fr t = some a ∧ a ≠ .junk ∧ ∀ u o, a = .lp u o → v = .lp u o := by
  cases hg : get fr t with
  | none => simp [rd, hg] at h
  | some a =>
    refine ⟨a, rfl, ?_, ?_⟩
    · rintro rfl; simp [rd, hg] at h
    · rintro u o rfl; exact rd_lp hg h

theorem rdS_some {cx : Cx} {st : Bool} {fr fr1 : Fr} {t : Nat} {v : AV} (h : rdS cx st fr (.tmp t) = some (v, fr1)) : ∃ a, get fr t = some a ∧ a ≠ .junk ∧ ∀ u o, a = .lp u o → v = .lp u o := by
  cases hg : get fr t with
  | none =>
    cases st <;> simp [rdS, rd, hg] at h
  | some a =>
    refine ⟨a, rfl, ?_, ?_⟩
    · rintro rfl; cases st <;> simp [rdS, rd, hg] at h
    · rintro u o rfl; exact rdS_lp hg h

theorem rdF_some {cx : Cx} {fx : List (Option Nat)} {st : Bool} {fr fr1 : Fr} {t : Nat} {v : AV} (h : rdF cx fx st fr (.tmp t) = some (v, fr1)) : ∃ a, get fr t = some a ∧ a ≠ .junk ∧ ∀ u o, a = .lp u o → v = .lp u o := by
  unfold rdF at h
  split at h
  · rename_i u fr2 h1
    obtain ⟨rfl, rfl⟩ := Prod.mk.inj (Option.some.inj h)
    obtain ⟨a, h2, h3, h4⟩ := rdS_some h1
    exact ⟨a, h2, h3, fun u' o ha => by rw [h4 u' o ha, fixA_lp]⟩
  · simp at h

theorem fixArgs_mem {P : Program} {u o : Nat} : ∀ {ts : List TypeId} {as : List AV}, AV.lp u o ∈ as → AV.lp u o ∈ fixArgs P ts as
  | [], _, h => h
  | t :: ts, [], h => by simp at h
  | t :: ts, a :: as, h => by
    rcases List.mem_cons.1 h with rfl | h
    · simp [fixArgs, fixA_lp]
    · exact List.mem_cons_of_mem _ (fixArgs_mem h)

theorem rdsF_get {cx : Cx} {fr : Fr} {ts : List TypeId} {os : List Operand} {as : List AV} {o : Operand} (h : rdsF cx fr ts os = some as) (ho : o ∈ os) : ∃ a, rd cx fr o = some a ∧ ∀ u k, a = .lp u k → AV.lp u k ∈ as := by
  unfold rdsF at h
  split at h
  · rename_i us h1
    obtain rfl := Option.some.inj h
    obtain ⟨a, h2, h3⟩ := rds_get h1 ho
    exact ⟨a, h3, fun u k ha => fixArgs_mem (ha ▸ h2)⟩
  · simp at h

theorem takes1 {cx : Cx} {fr : Fr} {op : Op} {ft : Foot} (h : ∀ t, Operand.tmp t ∈ op.operands.toList → ∃ v, rd cx fr (.tmp t) = some v ∧ ∀ u o, v = .lp u o → ft.touches u = true) : Takes fr op ft := fun t ht => by
  rw [mem_tmpsOf] at ht
  obtain ⟨v, h1, h2⟩ := h t ht
  obtain ⟨a, h3, h4, h5⟩ := rd_some h1
  exact ⟨a, h3, h4, fun u o ha => h2 u o (h5 u o ha)⟩

theorem toDs_not {as : List AV} {ds : List DV} (h : toDV1s as = some ds) : ∀ a ∈ as, ∀ u o, a ≠ .lp u o := by
  induction as generalizing ds with
  | nil => simp
  | cons b as ih =>
    simp only [toDV1s] at h
    split at h
    · rename_i x xs h1 h2
      intro a ha u o
      rcases List.mem_cons.1 ha with rfl | ha
      · rintro rfl; simp [toDV1, toD0] at h1
      · exact ih h2 a ha u o
    · simp at h

theorem fillA_plain {place : Nat → Option (Nat × Nat)} : ∀ {is : List Nat} {as cells out : List AV}, is.length = as.length → fillA place cells (is.zip as) = some out → ∀ a ∈ as, plain a = true
  | [], [], _, _, _, _ => by simp
  | i :: is, b :: as, cells, out, hl, h => by
    simp only [List.zip_cons_cons, fillA] at h
    split at h
    · simp at h
    · split at h
      · rename_i hc
        intro a ha
        rcases List.mem_cons.1 ha with rfl | ha
        · exact hc.2.2
        · exact fillA_plain (by simpa using hl) h a ha
      · simp at h
  | [], _ :: _, _, _, hl, _ => by simp at hl
  | _ :: _, [], _, _, hl, _ => by simp at hl

theorem dparts_not {is : List Nat} : ∀ {as : List AV} {ps : List (Nat × DV)}, is.length = as.length → dparts (is.zip as) = some ps → ∀ a ∈ as, ∀ u o, a ≠ .lp u o := by
  induction is with
  | nil => intro as ps hl _; cases as <;> simp at hl ⊢
  | cons i is ih =>
    intro as ps hl h
    cases as with
    | nil => simp
    | cons b as =>
      simp only [List.zip_cons_cons, dparts] at h
      split at h
      · rename_i x xs h1 h2
        intro a ha u o
        rcases List.mem_cons.1 ha with rfl | ha
        · rintro rfl; simp [toDV1, toD0] at h1
        · exact ih (by simpa using hl) h2 a ha u o
      · simp at h

theorem rds_length {cx : Cx} {fr : Fr} : ∀ {os : List Operand} {as : List AV}, rds cx fr os = some as → os.length = as.length
  | [], _, h => by simp [rds] at h; subst h; rfl
  | o :: r, _, h => by
    simp only [rds] at h
    split at h
    · rename_i a as h1 h2
      obtain rfl := Option.some.inj h
      simp [rds_length h2]
    · simp at h

theorem rdsS_length {cx : Cx} {st : Bool} : ∀ {os : List Operand} {fr fr1 : Fr} {as : List AV}, rdsS cx st fr os = some (as, fr1) → os.length = as.length
  | [], _, _, _, h => by simp [rdsS] at h; simp [h.1]
  | o :: r, fr, fr1, _, h => by
    simp only [rdsS] at h
    split at h
    · split at h
      · rename_i h2
        obtain ⟨rfl, rfl⟩ := Prod.mk.inj (Option.some.inj h)
        simp [rdsS_length h2]
      · simp at h
    · simp at h

theorem rdsS_get {cx : Cx} {st : Bool} {t : Nat} : ∀ {os : List Operand} {fr fr1 : Fr} {as : List AV}, rdsS cx st fr os = some (as, fr1) → Operand.tmp t ∈ os → ∃ a, get fr t = some a ∧ a ≠ .junk ∧ ∀ u o, a = .lp u o → AV.lp u o ∈ as
  | [], _, _, _, _, h => by simp at h
  | p :: r, fr, fr1, _, h, ho => by
    have h0 := h
    simp only [rdsS] at h
    split at h
    · rename_i v fr2 h1
      split at h
      · rename_i us fr3 h2
        obtain ⟨rfl, rfl⟩ := Prod.mk.inj (Option.some.inj h)
        rcases List.mem_cons.1 ho with rfl | ho
        · obtain ⟨a, h3, h4, h5⟩ := rdS_some h1
          exact ⟨a, h3, h4, fun u o ha => by rw [h5 u o ha]; simp⟩
        · obtain ⟨ds, rfl, _⟩ := rdS_loc h1
          obtain ⟨a, h3, h4, h5⟩ := rdsS_get h2 ho
          rw [get_disL] at h3
          cases hg : get fr t with
          | none => rw [hg] at h3; simp at h3
          | some b =>
            rw [hg] at h3
            refine ⟨b, rfl, ?_, ?_⟩
            · rintro rfl
              split at h3 <;> (simp [dup, dupC] at h3; exact h4 h3.symm)
            · rintro u o rfl
              refine List.mem_cons_of_mem _ (h5 u o ?_)
              split at h3 <;> (simp [dup, dupC] at h3; exact h3.symm)
      · simp at h
    · simp at h


theorem ftOf_lp (u o : Nat) : (ftOf (.lp u o)).touches u = true := by simp [ftOf, Foot.touches]

theorem lp_not_plain {u o : Nat} : plain (.lp u o) = false := rfl

/-- Two reads. -/
theorem takes_of {fr : Fr} {op : Op} {ft : Foot} (h : ∀ t, Operand.tmp t ∈ op.operands.toList → ∃ a, get fr t = some a ∧ a ≠ .junk ∧ ∀ u o, a = .lp u o → ft.touches u = true) : Takes fr op ft := fun t ht => h t (mem_tmpsOf.1 ht)

theorem foldD_not {f : DV → DV → Option DV} : ∀ {r : List AV} {x z : DV}, foldD f x r = some z → ∀ u o, AV.lp u o ∉ r
  | [], _, _, _, u, o => by simp
  | .d y :: r, x, z, h, u, o => by
    simp only [foldD] at h
    split at h
    · have := foldD_not h u o
      simp [this]
    · simp at h
  | .osl _ _ :: _, _, _, h, _, _ => by simp [foldD] at h
  | .agg _ :: _, _, _, h, _, _ => by simp [foldD] at h
  | .tup _ :: _, _, _, h, _, _ => by simp [foldD] at h
  | .box _ :: _, _, _, h, _, _ => by simp [foldD] at h
  | .lp _ _ :: _, _, _, h, _, _ => by simp [foldD] at h
  | .hp _ _ :: _, _, _, h, _, _ => by simp [foldD] at h
  | .vp _ :: _, _, _, h, _, _ => by simp [foldD] at h
  | .fn _ :: _, _, _, h, _, _ => by simp [foldD] at h
  | .nilp :: _, _, _, h, _, _ => by simp [foldD] at h
  | .nilf :: _, _, _, h, _, _ => by simp [foldD] at h
  | .undef :: _, _, _, h, _, _ => by simp [foldD] at h
  | .junk :: _, _, _, h, _, _ => by simp [foldD] at h

theorem lenA_not {P : Program} {t : TypeId} {x : AV} {z : DV} (h : lenA P t x = some z) (u o : Nat) : x ≠ .lp u o := by
  rintro rfl
  unfold lenA at h
  split at h <;> simp_all

theorem builtinA_not {P : Program} {b : Builtin} {ts : List TypeId} {as : List AV} {v : AV} (h : builtinA P b ts as = some v) (u o : Nat) : AV.lp u o ∉ as := by
  unfold builtinA at h
  split at h
  · rename_i t ts x
    cases hl : lenA P t x with
    | none => rw [hl] at h; simp at h
    | some z =>
      have := lenA_not hl u o
      simp [Ne.symm this]
  · rename_i x r
    cases hl : foldD min2D x r with
    | none => rw [hl] at h; simp at h
    | some z => simp [foldD_not hl u o]
  · rename_i x r
    cases hl : foldD max2D x r with
    | none => rw [hl] at h; simp at h
    | some z => simp [foldD_not hl u o]
  · simp at h

theorem aop_takes {cx : Cx} {st hf : Bool} {op : Op} {fr : Fr} {H : Hp} {R : AI.R} (h : aop cx st hf fr H op = some R) : Takes fr op R.ft := by
  have via : ∀ {t : Nat} {x : Operand} {v : AV}, Operand.tmp t = x → rd cx fr x = some v → (∀ u o, v = .lp u o → R.ft.touches u = true) → ∃ a, get fr t = some a ∧ a ≠ .junk ∧ ∀ u o, a = .lp u o → R.ft.touches u = true := by
    rintro t x v rfl h1 h2
    obtain ⟨a, h3, h4, h5⟩ := rd_some h1
    exact ⟨a, h3, h4, fun u o ha => h2 u o (h5 u o ha)⟩
  have viaS : ∀ {t : Nat} {x : Operand} {v : AV} {fr1 : Fr}, Operand.tmp t = x → rdS cx st fr x = some (v, fr1) → (∀ u o, v = .lp u o → R.ft.touches u = true) → ∃ a, get fr t = some a ∧ a ≠ .junk ∧ ∀ u o, a = .lp u o → R.ft.touches u = true := by
    rintro t x v fr1 rfl h1 h2
    obtain ⟨a, h3, h4, h5⟩ := rdS_some h1
    exact ⟨a, h3, h4, fun u o ha => h2 u o (h5 u o ha)⟩
  have viaF : ∀ {t : Nat} {x : Operand} {v : AV} {fr1 : Fr} {fx : List (Option Nat)}, Operand.tmp t = x → rdF cx fx st fr x = some (v, fr1) → (∀ u o, v = .lp u o → R.ft.touches u = true) → ∃ a, get fr t = some a ∧ a ≠ .junk ∧ ∀ u o, a = .lp u o → R.ft.touches u = true := by
    rintro t x v fr1 fx rfl h1 h2
    obtain ⟨a, h3, h4, h5⟩ := rdF_some h1
    exact ⟨a, h3, h4, fun u o ha => h2 u o (h5 u o ha)⟩
  cases op with
  | move x =>
    refine takes_of fun t ht => ?_
    simp only [aop] at h
    split at h
    · rename_i v fr1 h1
      obtain rfl := Option.some.inj h
      exact viaS (by simpa [Op.operands] using ht) h1 fun u o hv => by rw [hv]; exact ftOf_lp u o
    · simp at h
  | assign x =>
    refine takes_of fun t ht => ?_
    simp only [aop] at h
    split at h
    · rename_i v fr1 h1
      obtain rfl := Option.some.inj h
      exact viaS (by simpa [Op.operands] using ht) h1 fun u o hv => by rw [hv]; exact ftOf_lp u o
    · simp at h
  | pick c x y =>
    refine takes_of fun t ht => ?_
    simp only [aop] at h
    split at h
    · rename_i b h1
      split at h
      · rename_i x' y' hx hy
        cases hpk : (pickB x' && pickB y') with
        | false => rw [hpk] at h; simp at h
        | true =>
          simp only [Bool.and_eq_true] at hpk
          simp [Op.operands] at ht
          rcases ht with ht | ht | ht
          · exact via ht h1 (by simp)
          · exact via ht hx (by rintro u o rfl; simp [pickB] at hpk)
          · exact via ht hy (by rintro u o rfl; simp [pickB] at hpk)
      · simp at h
    · simp at h
  | alloc el => exact takes_of fun t ht => by simp [Op.operands] at ht
  | box el x =>
    refine takes_of fun t ht => ?_
    simp only [aop] at h
    split at h
    · rename_i v fr1 h1
      split at h
      · rename_i hp
        exact viaF (by simpa [Op.operands] using ht) h1 (by rintro u o rfl; simp [lp_not_plain] at hp)
      · simp at h
    · simp at h
  | build t ps =>
    refine takes_of fun t' ht => ?_
    simp only [aop] at h
    split at h
    · rename_i as fr1 h1
      obtain ⟨u, h5, rfl⟩ := pureR_some h
      have hlen := rdsS_length h1
      obtain ⟨a, h2, h3, h4⟩ := rdsS_get h1 (t := t') (by simpa [Op.operands] using ht)
      refine ⟨a, h2, h3, fun u' o ha => ?_⟩
      have hm := h4 u' o ha
      have hpl : ∀ a ∈ as, plain a = true := by
        have hl : (ps.toList.map (·.1)).length = as.length := by rw [← hlen]; simp
        unfold buildA at h5
        split at h5
        · split at h5
          · cases hf' : fillA _ _ ((ps.toList.map (·.1)).zip as) with
            | none => rw [hf'] at h5; simp at h5
            | some out => exact fillA_plain hl hf'
          · simp at h5
        · rename_i el _ _
          cases hok : tyOK cx.P el with
          | false => rw [hok] at h5; simp at h5
          | true =>
            rw [hok, cond_true] at h5
            cases hf' : fillA _ _ ((ps.toList.map (·.1)).zip as) with
            | none => rw [hf'] at h5; simp at h5
            | some out => exact fillA_plain hl hf'
        · simp at h5
      have := hpl _ hm
      simp [lp_not_plain] at this
    · simp at h
  | buildSlice t n ps =>
    refine takes_of fun t' ht => ?_
    simp only [aop] at h
    split at h
    · rename_i as h1
      obtain ⟨u, h5, rfl⟩ := pureR_some h
      have hlen := rds_length h1
      obtain ⟨v, hm, h2⟩ := rds_get h1 (o := .tmp t') (by simpa [Op.operands] using ht)
      refine via rfl h2 fun u' o hv => ?_
      subst hv
      unfold buildSliceA at h5
      split at h5
      · split at h5
        · rename_i hz hd
          exact absurd rfl (dparts_not (by rw [← hlen]; simp) hd _ hm u' o)
        · simp at h5
      · simp at h5
    · simp at h
  | load t ad =>
    refine takes_of fun t' ht => ?_
    have ht' : Operand.tmp t' = ad := by simpa [Op.operands] using ht
    simp only [aop] at h
    split at h
    · rename_i x h1
      exact via ht' h1 (by simp)
    · rename_i u off h1
      refine via ht' h1 fun u' o hv => ?_
      obtain ⟨rfl, rfl⟩ : u = u' ∧ off = o := by injection hv with h1 h2; exact ⟨h1, h2⟩
      split at h
      · split at h
        · cases st with
          | true => rw [cond_true] at h; obtain rfl := Option.some.inj h; simp [Foot.touches]
          | false => rw [cond_false] at h; obtain rfl := Option.some.inj h; simp [Foot.touches]
        · simp at h
      · simp at h
    · rename_i b off h1
      exact via ht' h1 (by simp)
    · simp at h
  | store t ad x =>
    refine takes_of fun t' ht => ?_
    have ht' : Operand.tmp t' = ad ∨ Operand.tmp t' = x := by simpa [Op.operands] using ht
    simp only [aop] at h
    split at h
    · rename_i u off v fr1 h1 h2
      split at h
      · split at h
        · rename_i cs' hst
          obtain rfl := Option.some.inj h
          rcases ht' with ht' | ht'
          · refine via ht' h1 fun u' o hv => ?_
            obtain ⟨rfl, rfl⟩ : u = u' ∧ off = o := by injection hv with h1 h2; exact ⟨h1, h2⟩
            simp [Foot.touches]
          · refine viaF ht' h2 fun u' o hv => ?_
            subst hv
            unfold storeA at hst
            split at hst
            · rename_i hc; have := hc.2.2.2; simp [lp_not_plain] at this
            · simp at hst
        · simp at h
      · simp at h
    · rename_i b off v fr1 h1 h2
      split at h
      · split at h
        · rename_i cs' hst
          obtain rfl := Option.some.inj h
          rcases ht' with ht' | ht'
          · exact via ht' h1 (by simp)
          · refine viaF ht' h2 fun u' o hv => ?_
            subst hv
            replace hst := (storeH_some hst).2
            unfold storeA at hst
            split at hst
            · rename_i hc; have := hc.2.2.2; simp [lp_not_plain] at this
            · simp at hst
        · simp at h
      · simp at h
    · simp at h
  | nilCheck x =>
    refine takes_of fun t' ht => ?_
    have ht' : Operand.tmp t' = x := by simpa [Op.operands] using ht
    simp only [aop] at h
    split at h
    · rename_i h1; exact via ht' h1 (by simp)
    · rename_i b o h1
      obtain rfl := Option.some.inj h
      refine via ht' h1 fun u' o' hv => ?_
      obtain ⟨rfl, rfl⟩ : b = u' ∧ o = o' := by injection hv with h1 h2; exact ⟨h1, h2⟩
      simp [Foot.touches]
    · rename_i h1; exact via ht' h1 (by simp)
    · simp at h
  | binOp op t x y yt =>
    refine takes_of fun t' ht => ?_
    have ht' : Operand.tmp t' = x ∨ Operand.tmp t' = y := by simpa [Op.operands] using ht
    simp only [aop] at h
    split at h
    · rename_i p q h1 h2
      rcases ht' with ht' | ht'
      · exact via ht' h1 (by simp)
      · exact via ht' h2 (by simp)
    · simp at h
  | unOp op t x =>
    refine takes_of fun t' ht => ?_
    have ht' : Operand.tmp t' = x := by simpa [Op.operands] using ht
    simp only [aop] at h
    split at h
    · rename_i p h1; exact via ht' h1 (by simp)
    · simp at h
  | convert s t x =>
    refine takes_of fun t' ht => ?_
    have ht' : Operand.tmp t' = x := by simpa [Op.operands] using ht
    simp only [aop] at h
    split at h
    · rename_i p h1
      obtain ⟨u, h5, rfl⟩ := pureR_some h
      refine via ht' h1 fun u' o hv => ?_
      subst hv
      unfold convA at h5
      split at h5 <;> (try (simp at h5; done)) <;> split at h5 <;> simp_all [elems]
    · simp at h
  | makeSlice t l c =>
    refine takes_of fun t' ht => ?_
    have ht' : Operand.tmp t' = l ∨ Operand.tmp t' = c := by simpa [Op.operands] using ht
    simp only [aop] at h
    split at h
    · rename_i p q h1 h2
      obtain ⟨u, h5, rfl⟩ := pureR_some h
      unfold makeSliceA at h5
      split at h5
      · rcases ht' with ht' | ht'
        · exact via ht' h1 (by simp)
        · exact via ht' h2 (by simp)
      · simp at h5
    · simp at h
  | slice t x lo hi mx =>
    refine takes_of fun t' ht => ?_
    have ht' : Operand.tmp t' = x ∨ lo = some (.tmp t') ∨ hi = some (.tmp t') ∨ mx = some (.tmp t') := by
      simpa [Op.operands] using ht
    simp only [aop] at h
    split at h
    · rename_i v h1
      split at h
      · rename_i l hh m h2 h3 h4
        obtain ⟨u, h5, rfl⟩ := pureR_some h
        have one : ∀ {oo : Option Operand} {ll : List AV}, oo = some (.tmp t') → rds cx fr oo.toList = some ll → (∀ u o, ll.head? ≠ some (.lp u o)) → ∃ a, get fr t' = some a ∧ a ≠ .junk ∧ ∀ u' o, a = .lp u' o → (ftOf u).touches u' = true := by
          rintro oo ll rfl hr hn
          obtain ⟨w, hw, h6⟩ := rds_get hr (o := .tmp t') (by simp)
          have hll : ll.head? = some w := by
            have hl := rds_length hr
            cases ll with
            | nil => simp at hw
            | cons a r =>
              have : r = [] := by
                cases r with
                | nil => rfl
                | cons b r => exact absurd (show (1 : Nat) = r.length + 1 + 1 from hl) (by omega)
              subst this
              simp at hw; simp [hw]
          exact via rfl h6 fun u' o hv => absurd (by rw [hll, hv]) (hn u' o)
        have hb : ∀ {oo : Option AV} {d i : Int}, bound oo d = some i → ∀ u o, oo ≠ some (.lp u o) := by
          rintro oo d i hb u o rfl; simp [bound] at hb
        unfold sliceA at h5
        split at h5
        · split at h5
          · rename_i hm0
            split at h5
            · rename_i hlo hhi
              rcases ht' with ht' | ht' | ht' | ht'
              · exact via ht' h1 (by simp)
              · exact one ht' h2 (hb hlo)
              · exact one ht' h3 (hb hhi)
              · exact one ht' h4 (by intro u o hh; rw [hm0] at hh; simp at hh)
            · simp at h5
          · simp at h5
        · split at h5
          · rename_i sz xs hel
            split at h5
            · rename_i hlo hhi
              rcases ht' with ht' | ht' | ht' | ht'
              · exact via ht' h1 (by rintro u o rfl; simp [elems] at hel)
              · exact one ht' h2 (hb hlo)
              · exact one ht' h3 (hb hhi)
              · refine one ht' h4 ?_
                intro u o hh
                rw [hh] at h5
                split at h5 <;> simp at h5
            · simp at h5
          · simp at h5
        · simp at h5
      · simp at h
    · simp at h
  | fieldAddr t x i =>
    refine takes_of fun t' ht => ?_
    have ht' : Operand.tmp t' = x := by simpa [Op.operands] using ht
    simp only [aop] at h
    split at h
    · rename_i v h1
      obtain ⟨u, h5, rfl⟩ := pureR_some h
      refine via ht' h1 fun u' o hv => ?_
      subst hv
      unfold fieldAddrA at h5
      split at h5
      · split at h5
        · simp at h5; subst h5; simp [ftOf, Foot.touches]
        · simp at h5
      · simp at h5
    · simp at h
  | field t x i =>
    refine takes_of fun t' ht => ?_
    have ht' : Operand.tmp t' = x := by simpa [Op.operands] using ht
    simp only [aop] at h
    split at h
    · rename_i v h1
      obtain ⟨u, h5, rfl⟩ := pureR_some h
      refine via ht' h1 fun u' o hv => ?_
      subst hv
      unfold fieldA at h5
      split at h5 <;> simp at *
    · simp at h
  | indexAddr t x i =>
    refine takes_of fun t' ht => ?_
    have ht' : Operand.tmp t' = x ∨ Operand.tmp t' = i := by simpa [Op.operands] using ht
    simp only [aop] at h
    split at h
    · rename_i v ix h1 h2
      obtain ⟨u, h5, rfl⟩ := pureR_some h
      unfold indexAddrA at h5
      split at h5
      · rcases ht' with ht' | ht'
        · refine via ht' h1 fun u' o hv => ?_
          subst hv
          split at h5
          · simp [elems] at h5
          · split at h5
            · simp at h5; subst h5; simp [ftOf, Foot.touches]
            · simp at h5
          · simp at h5
        · exact via ht' h2 (by simp)
      · simp at h5
    · simp at h
  | index t x i =>
    refine takes_of fun t' ht => ?_
    have ht' : Operand.tmp t' = x ∨ Operand.tmp t' = i := by simpa [Op.operands] using ht
    simp only [aop] at h
    split at h
    · rename_i v ix h1 h2
      obtain ⟨u, h5, rfl⟩ := pureR_some h
      unfold indexA at h5
      split at h5
      · split at h5
        · rcases ht' with ht' | ht'
          · exact via ht' h1 (by simp)
          · exact via ht' h2 (by simp)
        · rcases ht' with ht' | ht'
          · exact via ht' h1 (by simp)
          · exact via ht' h2 (by simp)
        · simp at h5
      · simp at h5
    · simp at h
  | makeMap t r =>
    refine takes_of fun t' ht => ?_
    simp only [aop] at h
    split at h
    · simp [Op.operands] at ht
    · simp at h
  | lookup t x k ck =>
    refine takes_of fun t' ht => ?_
    have ht' : Operand.tmp t' = x ∨ Operand.tmp t' = k := by simpa [Op.operands] using ht
    simp only [aop] at h
    split at h
    · rename_i b k' h1 h2
      rcases ht' with ht' | ht'
      · exact via ht' h1 (by simp)
      · exact via ht' h2 (by simp)
    · simp at h
  | mapUpdate t x k v =>
    refine takes_of fun t' ht => ?_
    have ht' : Operand.tmp t' = x ∨ Operand.tmp t' = k ∨ Operand.tmp t' = v := by simpa [Op.operands] using ht
    simp only [aop] at h
    split at h
    · rename_i b k' v' h1 h2 h3
      split at h
      · split at h
        · rename_i hc
          rcases ht' with ht' | ht' | ht'
          · exact via ht' h1 (by simp)
          · exact via ht' h2 (by simp)
          · exact via ht' h3 (by rintro u o rfl; simp [lp_not_plain] at hc)
        · simp at h
      · simp at h
    · simp at h
  | extract x i =>
    refine takes_of fun t' ht => ?_
    have ht' : Operand.tmp t' = x := by simpa [Op.operands] using ht
    simp only [aop] at h
    split at h
    · rename_i p h1; exact via ht' h1 (by simp)
    · simp at h
  | call c =>
    obtain ⟨callee, args, argTypes⟩ := c
    refine takes_of fun t' ht => ?_
    simp only [aop] at h
    split at h
    · split at h
      · rename_i s x t u' hargs htys
        have ht' : Operand.tmp t' = s ∨ Operand.tmp t' = x := by simpa [Op.operands, Call.operands, hargs] using ht
        split at h
        · rename_i s' fr1 x' h1 h2
          obtain ⟨u, h6, rfl⟩ := pureR_some h
          unfold appendA at h6
          simp only at h6
          split at h6
          · unfold appendZ at h6
            split at h6
            · rcases ht' with ht' | ht'
              · exact viaS ht' h1 (by simp)
              · exact via ht' h2 (by simp)
            · simp at h6
          · simp at h6
          · unfold appendS at h6
            split at h6
            · split at h6
              · split at h6
                · rename_i sz2 ys hap
                  rcases ht' with ht' | ht'
                  · exact viaS ht' h1 (by simp)
                  · refine via ht' h2 fun u'' o hv => ?_
                    subst hv
                    simp only [appended] at hap
                    split at hap
                    · simp [elems] at hap
                    · split at hap <;> simp at *
                · simp at h6
              · simp at h6
            · simp at h6
        · simp at h
      · simp at h
    · rename_i b hnb
      split at h
      · rename_i as h1
        obtain ⟨u, h6, rfl⟩ := pureR_some h
        obtain ⟨v, hm, h2⟩ := rds_get h1 (o := .tmp t') (by simpa [Op.operands, Call.operands] using ht)
        refine via rfl h2 fun u' o hv => ?_
        subst hv
        exact absurd hm (builtinA_not h6 u' o)
      · simp at h
    · rename_i f
      split at h
      · rename_i g as h1 h2
        split at h
        · rename_i v H' ft hca
          obtain rfl := Option.some.inj h
          have ht' : Operand.tmp t' = f ∨ Operand.tmp t' ∈ args := by simpa [Op.operands, Call.operands] using ht
          rcases ht' with ht' | ht'
          · exact via ht' h1 (by simp)
          · obtain ⟨w, h3, hm⟩ := rdsF_get h2 (o := .tmp t') (by simpa using ht')
            refine via rfl h3 fun u' o hv => ?_
            have hm := hm u' o hv
            unfold callA at hca
            cases hiso : cx.iso g with
            | true =>
              rw [hiso, cond_true] at hca
              split at hca
              · rename_i ds hds
                exact absurd rfl (toDs_not hds _ hm u' o)
              · simp at hca
            | false =>
              rw [hiso, cond_false] at hca
              split at hca
              · rename_i hpl
                have := (List.all_eq_true.1 hpl) _ hm
                simp [lp_not_plain] at this
              · simp at hca
        · simp at h
      · simp at h
    · simp at h
  | _ => simp [aop] at h

theorem aop_boxed {cx : Cx} {st hf : Bool} {op : Op} {fr : Fr} {H : Hp} {R : AI.R} (h : aop cx st hf fr H op = some R) {u lo n : Nat} (hx : R.ft = .rL u lo n ∨ R.ft = .wL u lo n) : ∃ c, get fr u = some (.box c) := by
  have no : ∀ v, ¬ (ftOf v = .rL u lo n ∨ ftOf v = .wL u lo n) := fun v => by cases v <;> simp [ftOf]
  have pr : ∀ {v : Option AV} {fr' H'}, pureR v fr' H' = some R → False := fun hp => by
    obtain ⟨v, _, rfl⟩ := pureR_some hp
    exact no _ hx
  cases op with
  | load t ad =>
    simp only [aop] at h
    split at h
    · split at h
      · obtain rfl := Option.some.inj h; simp at hx
      · simp at h
    · rename_i u' off h1
      split at h
      · rename_i cs h2
        split at h
        · cases st with
          | true => rw [cond_true] at h; obtain rfl := Option.some.inj h; simp at hx; rw [← hx.1]; exact ⟨_, h2⟩
          | false => rw [cond_false] at h; obtain rfl := Option.some.inj h; simp at hx; rw [← hx.1]; exact ⟨_, h2⟩
        · simp at h
      · simp at h
    · split at h
      · split at h
        · cases st with
          | true => rw [cond_true] at h; obtain rfl := Option.some.inj h; simp at hx
          | false => rw [cond_false] at h; obtain rfl := Option.some.inj h; simp at hx
        · simp at h
      · simp at h
    · simp at h
  | store t ad x =>
    simp only [aop] at h
    split at h
    · rename_i u' off v fr1 h1 h2
      split at h
      · rename_i cs h3
        split at h
        · obtain rfl := Option.some.inj h
          simp at hx
          rw [← hx.1]
          obtain ⟨ds, rfl, _⟩ := rdF_loc h2
          exact ⟨_, get_disL_box.1 h3⟩
        · simp at h
      · simp at h
    · split at h
      · split at h
        · obtain rfl := Option.some.inj h; simp at hx
        · simp at h
      · simp at h
    · simp at h
  | move x =>
    simp only [aop] at h
    split at h
    · obtain rfl := Option.some.inj h; exact absurd hx (no _)
    · simp at h
  | assign x =>
    simp only [aop] at h
    split at h
    · obtain rfl := Option.some.inj h; exact absurd hx (no _)
    · simp at h
  | nilCheck x =>
    simp only [aop] at h
    split at h <;> first | (obtain rfl := Option.some.inj h; simp at hx) | simp at h
  | alloc el =>
    simp only [aop] at h
    split at h
    · cases hf with
      | true => rw [cond_true] at h; obtain rfl := Option.some.inj h; simp at hx
      | false => rw [cond_false] at h; obtain rfl := Option.some.inj h; simp at hx
    · simp at h
  | box el x =>
    simp only [aop] at h
    split at h
    · split at h
      · cases hf with
        | true => rw [cond_true] at h; obtain rfl := Option.some.inj h; simp at hx
        | false => rw [cond_false] at h; obtain rfl := Option.some.inj h; simp at hx
      · simp at h
    · simp at h
  | call c =>
    obtain ⟨callee, args, argTypes⟩ := c
    simp only [aop] at h
    split at h
    · split at h
      · split at h
        · exact (pr h).elim
        · simp at h
      · simp at h
    · split at h
      · exact (pr h).elim
      · simp at h
    · split at h
      · rename_i g as _ _
        split at h
        · rename_i v H' ft hca
          obtain rfl := Option.some.inj h
          unfold callA at hca
          cases hiso : cx.iso g with
          | true =>
            rw [hiso, cond_true] at hca
            split at hca
            · split at hca
              · split at hca
                · simp at hca; obtain ⟨_, _, rfl⟩ := hca; simp at hx
                · simp at hca
              · simp at hca
            · simp at hca
          | false =>
            rw [hiso, cond_false] at hca
            split at hca
            · split at hca
              · simp at hca; obtain ⟨_, _, rfl⟩ := hca; simp at hx
              · simp at hca
            · simp at hca
        · simp at h
      · simp at h
    · simp at h
  | makeMap t r =>
    simp only [aop] at h
    split at h
    · obtain rfl := Option.some.inj h; simp at hx
    · simp at h
  | lookup t x k ck =>
    simp only [aop] at h
    split at h
    · split at h
      · split at h
        · obtain rfl := Option.some.inj h; simp at hx
        · simp at h
      · simp at h
    · simp at h
  | mapUpdate t x k v =>
    simp only [aop] at h
    split at h
    · split at h
      · split at h
        · obtain rfl := Option.some.inj h; simp at hx
        · simp at h
      · simp at h
    · simp at h
  | pick c x y =>
    simp only [aop] at h
    split at h
    · split at h
      · rename_i x' y' hx hy
        cases hpk : (pickB x' && pickB y') with
        | false => rw [hpk] at h; simp at h
        | true => rw [hpk, cond_true] at h; exact (pr h).elim
      · simp at h
    · simp at h
  | slice t x lo hi mx =>
    simp only [aop] at h
    split at h
    · split at h
      · exact (pr h).elim
      · simp at h
    · simp at h
  | _ =>
    simp only [aop] at h
    first
      | exact (pr h).elim
      | (simp at h; done)
      | (split at h <;> first | exact (pr h).elim | (simp at h; done))
      | skip

end Go.AI
