/- What an operation's answer hangs on, and what it changes. -/
import Derived.Test.YtolbinhdmenekaaAxStep
namespace Go.AI
set_option linter.unusedVariables false
set_option linter.unusedSimpArgs false

def tmpsOf : List Operand → List Nat
  | [] => []
  | .tmp t :: r => t :: tmpsOf r
  | _ :: r => tmpsOf r

theorem mem_tmpsOf {t : Nat} : ∀ {os : List Operand}, t ∈ tmpsOf os ↔ Operand.tmp t ∈ os
  | [] => by simp [tmpsOf]
  | o :: r => by
    cases o <;> simp [tmpsOf, mem_tmpsOf (os := r)]

theorem dup_box (cs : List AV) : dup (.box cs) = .box cs := rfl

theorem box_of_dup {a : AV} {cs : List AV} (h : dup a = .box cs) : a = .box cs := by
  cases a <;> simp [dup, dupC] at h
  · rename_i s xs
    split at h <;> simp at h
  · rw [h]

theorem get_disown (t u : Nat) : ∀ (fr : Fr), get (disown t fr) u = if u = t then (get fr t).map dup else get fr u
  | [] => by simp [disown, get]
  | (v, a) :: r => by
    by_cases hv : v = t
    · subst hv
      by_cases hu : u = v
      · subst hu; simp [disown, get]
      · simp [disown, get, hu, Ne.symm hu]
    · by_cases hu : v = u
      · subst hu; simp [disown, get, hv]
      · simp [disown, get, hv, hu, get_disown t u r]

theorem get_upd (t u : Nat) (b : AV) : ∀ (fr : Fr), get (upd t b fr) u = if u = t then (get fr t).map (fun _ => b) else get fr u
  | [] => by simp [upd, get]
  | (v, a) :: r => by
    by_cases hv : v = t
    · subst hv
      by_cases hu : u = v
      · subst hu; simp [upd, get]
      · simp [upd, get, hu, Ne.symm hu]
    · by_cases hu : v = u
      · subst hu; simp [upd, get, hv]
      · simp [upd, get, hv, hu, get_upd t u b r]

theorem get_del (d u : Nat) : ∀ (fr : Fr), get (del d fr) u = if u = d then none else (get fr u).map (kill d)
  | [] => by simp [del, get]
  | (v, a) :: r => by
    by_cases hv : v = d
    · subst hv
      by_cases hu : u = v
      · subst hu; simp [del, get_del u u r]
      · simp [del, get, hu, Ne.symm hu, get_del v u r]
    · by_cases hu : v = u
      · subst hu; simp [del, get, hv]
      · simp [del, get, hv, hu, get_del d u r]

theorem get_put (d u : Nat) (a : AV) (fr : Fr) : get (put (some d) a fr) u = if u = d then some (kill d a) else (get fr u).map (kill d) := by
  by_cases hu : u = d
  · subst hu; simp [put, get]
  · simp [put, get, hu, Ne.symm hu, get_del]

def disL : List Nat → Fr → Fr
  | [], fr => fr
  | t :: r, fr => disL r (disown t fr)

theorem dup_dup (a : AV) : dup (dup a) = dup a := by
  have hc : ∀ a, dupC (dupC a) = dupC a := by
    intro a
    cases a <;> try rfl
    rename_i s xs
    rw [dupC_osl]
    split
    · rfl
    · rfl
  cases a
  case osl s xs =>
    show dup (dupC (.osl s xs)) = dupC (.osl s xs)
    rw [dupC_osl]; split <;> rfl
  case agg cs =>
    show AV.agg ((cs.map dupC).map dupC) = AV.agg (cs.map dupC)
    rw [List.map_map]
    congr 1
    apply List.map_congr_left
    intro x _
    exact hc x
  all_goals rfl

theorem get_disL (u : Nat) : ∀ (l : List Nat) (fr : Fr), get (disL l fr) u = if u ∈ l then (get fr u).map dup else get fr u
  | [], fr => by simp [disL]
  | t :: r, fr => by
    rw [disL, get_disL u r, get_disown]
    by_cases hu : u = t
    · subst hu
      by_cases hr : u ∈ r
      · simp [hr, Option.map_map, Function.comp_def, dup_dup]
      · simp [hr]
    · by_cases hr : u ∈ r <;> simp [hu, hr]

theorem disL_append (l m : List Nat) (fr : Fr) : disL (l ++ m) fr = disL m (disL l fr) := by
  induction l generalizing fr with
  | nil => rfl
  | cons t l ih => simp [disL, ih]

/-- The same value, or two variables of the frame's own. -/
def SameAt (fr fr' : Fr) (t : Nat) : Prop := get fr' t = get fr t ∨ ∃ c c', get fr t = some (.box c) ∧ get fr' t = some (.box c')

theorem SameAt.disL {fr fr' : Fr} {t : Nat} (h : SameAt fr fr' t) (l : List Nat) : SameAt (disL l fr) (disL l fr') t := by
  unfold SameAt
  rw [get_disL, get_disL]
  rcases h with h | ⟨c, c', h1, h2⟩
  · left; rw [h]
  · right; refine ⟨c, c', ?_, ?_⟩ <;> split <;> simp [h1, h2, dup_box]

theorem get_disL_box {fr : Fr} {l : List Nat} {u : Nat} {c : List AV} : get (disL l fr) u = some (.box c) ↔ get fr u = some (.box c) := by
  rw [get_disL]
  split
  · constructor
    · intro h
      cases hg : get fr u with
      | none => rw [hg] at h; simp at h
      | some a => rw [hg] at h; simp at h; rw [box_of_dup h]
    · intro h; rw [h]; rfl
  · rfl

section
variable {cx : Cx}

theorem rd_same {fr fr' : Fr} {o : Operand} (h : ∀ t ∈ tmpsOf [o], SameAt fr fr' t) : rd cx fr' o = rd cx fr o := by
  cases o with
  | tmp t =>
    rcases h t (by simp [tmpsOf]) with h | ⟨c, c', h1, h2⟩
    · simp only [rd, h]
    · simp only [rd, h1, h2]
  | _ => rfl

theorem rds_same {fr fr' : Fr} : ∀ {os : List Operand}, (∀ t ∈ tmpsOf os, SameAt fr fr' t) → rds cx fr' os = rds cx fr os
  | [], _ => rfl
  | o :: r, h => by
    have h1 : rd cx fr' o = rd cx fr o := rd_same fun t ht => h t (by rw [mem_tmpsOf] at ht ⊢; simp at ht; simp [ht])
    have h2 : rds cx fr' r = rds cx fr r := rds_same fun t ht => h t (by rw [mem_tmpsOf] at ht ⊢; simp [ht])
    simp only [rds, h1, h2]

theorem rdS_loc {st : Bool} {fr fr1 : Fr} {o : Operand} {v : AV} (h : rdS cx st fr o = some (v, fr1)) :
    ∃ ds, fr1 = disL ds fr ∧ (∀ t ∈ ds, t ∈ tmpsOf [o]) ∧ (st = false → ds = []) ∧ ∀ fr', (∀ t ∈ tmpsOf [o], SameAt fr fr' t) → rdS cx st fr' o = some (v, disL ds fr') := by
  have viaMap : ((rd cx fr o).map fun a => (a, fr)) = some (v, fr1) → fr1 = fr ∧ rd cx fr o = some v := by
    intro h
    cases hr : rd cx fr o with
    | none => rw [hr] at h; simp at h
    | some u => rw [hr] at h; simp at h; obtain ⟨rfl, rfl⟩ := h; exact ⟨rfl, rfl⟩
  cases st with
  | false =>
    simp only [rdS, cond_false] at h
    obtain ⟨rfl, h2⟩ := viaMap h
    exact ⟨[], rfl, by simp, fun _ => rfl, fun fr' hs => by simp only [rdS, cond_false, rd_same hs, h2]; rfl⟩
  | true =>
    cases o with
    | tmp t =>
      simp only [rdS, cond_true] at h
      split at h
      · rename_i cs hg
        obtain ⟨rfl, rfl⟩ := Prod.mk.inj (Option.some.inj h)
        refine ⟨[], rfl, by simp, fun _ => rfl, fun fr' hs => ?_⟩
        rcases hs t (by simp [tmpsOf]) with h | ⟨c, c', h1, h2⟩
        · simp only [rdS, cond_true, h, hg]; rfl
        · simp only [rdS, cond_true, h2]; rfl
      · simp at h
      · rename_i a hnb hnj hg
        obtain ⟨rfl, rfl⟩ := Prod.mk.inj (Option.some.inj h)
        refine ⟨[t], rfl, by simp [tmpsOf], by simp, fun fr' hs => ?_⟩
        rcases hs t (by simp [tmpsOf]) with h | ⟨c, c', h1, h2⟩
        · have : get fr' t = some a := by rw [h, hg]
          simp only [rdS, cond_true, this]
          cases a <;> first | rfl | exact (hnb _ rfl).elim | exact (hnj rfl).elim
        · rw [hg] at h1; exact (hnb c (Option.some.inj h1)).elim
      · simp at h
    | const v' =>
      simp only [rdS, cond_true] at h
      obtain ⟨rfl, h2⟩ := viaMap h
      exact ⟨[], rfl, by simp, by simp, fun fr' hs => by simp only [rdS, cond_true]; rw [show rd cx fr' (.const v') = rd cx fr1 (.const v') from rfl, h2]; rfl⟩
    | global g =>
      simp only [rdS, cond_true] at h
      obtain ⟨rfl, h2⟩ := viaMap h
      exact ⟨[], rfl, by simp, by simp, fun fr' hs => by simp only [rdS, cond_true]; rw [show rd cx fr' (.global g) = rd cx fr1 (.global g) from rfl, h2]; rfl⟩
    | func f =>
      simp only [rdS, cond_true] at h
      obtain ⟨rfl, h2⟩ := viaMap h
      exact ⟨[], rfl, by simp, by simp, fun fr' hs => by simp only [rdS, cond_true]; rw [show rd cx fr' (.func f) = rd cx fr1 (.func f) from rfl, h2]; rfl⟩

theorem rdsS_loc {st : Bool} : ∀ {os : List Operand} {fr fr1 : Fr} {vs : List AV}, rdsS cx st fr os = some (vs, fr1) →
    ∃ ds, fr1 = disL ds fr ∧ (∀ t ∈ ds, t ∈ tmpsOf os) ∧ (st = false → ds = []) ∧ ∀ fr', (∀ t ∈ tmpsOf os, SameAt fr fr' t) → rdsS cx st fr' os = some (vs, disL ds fr')
  | [], fr, fr1, vs, h => by
    simp [rdsS] at h; obtain ⟨rfl, rfl⟩ := h
    exact ⟨[], rfl, by simp, fun _ => rfl, fun fr' _ => rfl⟩
  | o :: r, fr, fr1, vs, h => by
    simp only [rdsS] at h
    split at h
    · rename_i v fr2 h1
      split at h
      · rename_i us fr3 h2
        obtain ⟨rfl, rfl⟩ := Prod.mk.inj (Option.some.inj h)
        obtain ⟨ds, rfl, h3, h4, h5⟩ := rdS_loc h1
        obtain ⟨es, rfl, h6, h7, h8⟩ := rdsS_loc h2
        refine ⟨ds ++ es, (disL_append _ _ _).symm, fun t ht => ?_, fun hs => by rw [h4 hs, h7 hs]; rfl, fun fr' hs => ?_⟩
        · rcases List.mem_append.1 ht with ht | ht
          · have := h3 t ht; rw [mem_tmpsOf] at this ⊢; simp at this; simp [this]
          · have := h6 t ht; rw [mem_tmpsOf] at this ⊢; simp [this]
        · have e1 := h5 fr' fun t ht => hs t (by rw [mem_tmpsOf] at ht ⊢; simp at ht; simp [ht])
          have e2 := h8 (disL ds fr') fun t ht => (hs t (by rw [mem_tmpsOf] at ht ⊢; simp [ht])).disL ds
          simp only [rdsS, e1, e2, disL_append]
      · simp at h
    · simp at h
end

theorem rdF_loc {cx : Cx} {fx : List (Option Nat)} {st : Bool} {fr fr1 : Fr} {o : Operand} {v : AV} (h : rdF cx fx st fr o = some (v, fr1)) :
    ∃ ds, fr1 = disL ds fr ∧ (∀ t ∈ ds, t ∈ tmpsOf [o]) ∧ (st = false → ds = []) ∧ ∀ fr', (∀ t ∈ tmpsOf [o], SameAt fr fr' t) → rdF cx fx st fr' o = some (v, disL ds fr') := by
  unfold rdF at h
  split at h
  · rename_i u fr2 h1
    obtain ⟨rfl, rfl⟩ := Prod.mk.inj (Option.some.inj h)
    obtain ⟨ds, h2, h3, h4, h5⟩ := rdS_loc h1
    exact ⟨ds, h2, h3, h4, fun fr' hs => by simp only [rdF, h5 fr' hs]⟩
  · simp at h

theorem rdsF_same {cx : Cx} {fr fr' : Fr} {ts : List TypeId} {os : List Operand} (h : ∀ t ∈ tmpsOf os, SameAt fr fr' t) : rdsF cx fr' ts os = rdsF cx fr ts os := by
  simp only [rdsF, rds_same h]

structure Eff where
  ds : List Nat
  bx : Option (Nat × Nat × List AV)

def boxApp : Option (Nat × Nat × List AV) → Fr → Fr
  | none, fr => fr
  | some (u, lo, cs), fr => match get fr u with
    | some (.box b) => upd u (.box (setRange b lo cs)) fr
    | _ => fr

def Eff.app (e : Eff) (fr : Fr) : Fr := boxApp e.bx (disL e.ds fr)

def FtOK (fr fr' : Fr) (H H' : Hp) : Foot → Prop
  | .rL u lo n | .wL u lo n => ∃ c c', get fr u = some (.box c) ∧ get fr' u = some (.box c') ∧ c'.length = c.length ∧ ∀ k, lo ≤ k → k < lo + n → c'[k]? = c[k]?
  | .rH | .wH => H' = H
  | _ => True

theorem loadA_same {P : Program} {t : TypeId} {c c' : List AV} {off : Nat} {v : AV} (h : loadA P t c off = some v) (hl : c'.length = c.length) (hk : ∀ k, off ≤ k → k < off + (max 1 v.cells.length) → c'[k]? = c[k]?) : loadA P t c' off = some v := by
  unfold loadA at h ⊢
  cases ht : tyOK P t with
  | false => rw [ht] at h; simp at h
  | true =>
    rw [ht, cond_true] at h
    rw [cond_true]
    unfold partA at h ⊢
    cases hag : isAggB P t with
    | true =>
      rw [hag, cond_true] at h
      rw [cond_true]
      split at h
      · rename_i hle
        rw [if_pos (by omega)]
        obtain rfl := Option.some.inj h
        congr 2
        apply List.ext_getElem?
        intro j
        rw [List.getElem?_take, List.getElem?_take]
        split
        · rename_i hj
          rw [List.getElem?_drop, List.getElem?_drop]
          refine hk _ (by omega) ?_
          simp only [AV.cells, List.length_take, List.length_drop]
          omega
        · rfl
      · simp at h
    | false =>
      rw [hag, cond_false] at h
      rw [cond_false, hk off (Nat.le_refl _) (by omega)]
      exact h

section
variable {cx : Cx}

theorem pureR_some {v : Option AV} {fr : Fr} {H : Hp} {R : AI.R} (h : pureR v fr H = some R) : ∃ u, v = some u ∧ R = ⟨u, fr, H, ftOf u⟩ := by
  unfold pureR at h
  split at h
  · rename_i u; exact ⟨u, rfl, (Option.some.inj h).symm⟩
  · simp at h

theorem ftOf_plain (u : AV) : (ftOf u = .non ∨ ∃ t, ftOf u = .adr t) := by
  cases u <;> simp [ftOf]

/-- What 'aop' says of all frames that are alike where it looks. -/
def Loc (cx : Cx) (st hf : Bool) (op : Op) (fr : Fr) (H : Hp) (R : AI.R) : Prop :=
  ∃ e : Eff, R.fr = e.app fr ∧ (∀ t ∈ e.ds, t ∈ tmpsOf op.operands.toList) ∧ (st = false → e.ds = []) ∧
    (match e.bx with | none => True | some (u, lo, cs) => ∃ n c, R.ft = .wL u lo n ∧ cs.length ≤ n ∧ get fr u = some (.box c) ∧ lo + cs.length ≤ c.length) ∧ (R.ft ≠ .wH → R.H = H) ∧
    ∀ fr' H', (∀ t ∈ tmpsOf op.operands.toList, SameAt fr fr' t) → FtOK fr fr' H H' R.ft → aop cx st hf fr' H' op = some ⟨R.v, e.app fr', if R.ft = .wH then R.H else H', R.ft⟩

theorem Loc.pure {st hf : Bool} {op : Op} {fr : Fr} {H : Hp} {u : AV} (h : ∀ fr' H', (∀ t ∈ tmpsOf op.operands.toList, SameAt fr fr' t) → aop cx st hf fr' H' op = some ⟨u, fr', H', ftOf u⟩) : Loc cx st hf op fr H ⟨u, fr, H, ftOf u⟩ := by
  have hne : ftOf u ≠ .wH := by rcases ftOf_plain u with h | ⟨t, h⟩ <;> simp [h]
  exact ⟨⟨[], none⟩, rfl, by simp, fun _ => rfl, trivial, fun _ => rfl, fun fr' H' hs _ => by rw [h fr' H' hs, if_neg hne]; rfl⟩


theorem sub1 {fr fr' : Fr} {os : List Operand} (h : ∀ t ∈ tmpsOf os, SameAt fr fr' t) {o : Operand} (ho : o ∈ os) : ∀ t ∈ tmpsOf [o], SameAt fr fr' t := fun t ht => by
  rw [mem_tmpsOf] at ht
  simp at ht
  exact h t (by rw [mem_tmpsOf, ht]; exact ho)

theorem subs {fr fr' : Fr} {os ps : List Operand} (h : ∀ t ∈ tmpsOf os, SameAt fr fr' t) (ho : ∀ o ∈ ps, o ∈ os) : ∀ t ∈ tmpsOf ps, SameAt fr fr' t := fun t ht => by
  rw [mem_tmpsOf] at ht
  exact h t (by rw [mem_tmpsOf]; exact ho _ ht)

theorem boxApp_disL {fr : Fr} {l : List Nat} {u lo : Nat} {cs c : List AV} (h : get fr u = some (.box c)) : boxApp (some (u, lo, cs)) (disL l fr) = upd u (.box (setRange c lo cs)) (disL l fr) := by
  simp only [boxApp, get_disL_box.2 h]

theorem storeA_same {P : Program} {t : TypeId} {c c' : List AV} {off : Nat} {v : AV} {r : List AV} (h : storeA P t c off v = some r) (hl : c'.length = c.length) : r = setRange c off v.cells ∧ storeA P t c' off v = some (setRange c' off v.cells) := by
  unfold storeA at h ⊢
  split at h
  · rename_i hc
    rw [hl, if_pos hc]
    exact ⟨(Option.some.inj h).symm, rfl⟩
  · simp at h

theorem storeA_len {P : Program} {t : TypeId} {c : List AV} {off : Nat} {v : AV} {r : List AV} (h : storeA P t c off v = some r) : off + v.cells.length ≤ c.length := by
  unfold storeA at h
  split at h
  · rename_i hc; exact hc.2.2.1
  · simp at h

theorem loadA_len {P : Program} {t : TypeId} {c : List AV} {off : Nat} {v : AV} (h : loadA P t c off = some v) : off + v.cells.length ≤ c.length := by
  unfold loadA at h
  cases ht : tyOK P t with
  | false => rw [ht] at h; simp at h
  | true =>
    rw [ht, cond_true] at h
    unfold partA at h
    cases hag : isAggB P t with
    | true =>
      rw [hag, cond_true] at h
      split at h
      · obtain rfl := Option.some.inj h
        simp only [AV.cells, List.length_take, List.length_drop]; omega
      · simp at h
    | false =>
      rw [hag, cond_false] at h
      split at h
      · simp at h
      · rename_i hna
        have := (List.getElem?_eq_some_iff.1 h).1
        have hv : v.cells = [v] := by
          cases v <;> first | rfl | exact (hna _ h).elim
        rw [hv]; simp; omega

theorem aop_loc {st hf : Bool} {op : Op} {fr : Fr} {H : Hp} {R : AI.R} (h : aop cx st hf fr H op = some R) : Loc cx st hf op fr H R := by
  cases op with
  | move x =>
    simp only [aop] at h
    split at h
    · rename_i v fr1 h1
      obtain rfl := Option.some.inj h
      obtain ⟨ds, rfl, h2, h3, h4⟩ := rdS_loc h1
      have hne : ftOf v ≠ .wH := by rcases ftOf_plain v with h | ⟨t, h⟩ <;> simp [h]
      exact ⟨⟨ds, none⟩, rfl, h2, h3, trivial, fun _ => rfl, fun fr' H' hs _ => by simp only [aop, h4 fr' hs, if_neg hne]; rfl⟩
    · simp at h
  | assign x =>
    simp only [aop] at h
    split at h
    · rename_i v fr1 h1
      obtain rfl := Option.some.inj h
      obtain ⟨ds, rfl, h2, h3, h4⟩ := rdS_loc h1
      have hne : ftOf v ≠ .wH := by rcases ftOf_plain v with h | ⟨t, h⟩ <;> simp [h]
      exact ⟨⟨ds, none⟩, rfl, h2, h3, trivial, fun _ => rfl, fun fr' H' hs _ => by simp only [aop, h4 fr' hs, if_neg hne]; rfl⟩
    · simp at h
  | pick c x y =>
    simp only [aop] at h
    split at h
    · rename_i t h1
      split at h
      · rename_i x' y' hx hy
        cases hpk : (pickB x' && pickB y') with
        | false => rw [hpk] at h; simp at h
        | true =>
          rw [hpk, cond_true] at h
          obtain ⟨u, h2, rfl⟩ := pureR_some h
          refine Loc.pure fun fr' H' hs => ?_
          have e1 := rd_same (cx := cx) (sub1 hs (o := c) (by simp [Op.operands]))
          have e2 := rd_same (cx := cx) (sub1 hs (o := x) (by simp [Op.operands]))
          have e3 := rd_same (cx := cx) (sub1 hs (o := y) (by simp [Op.operands]))
          obtain rfl := Option.some.inj h2
          simp only [aop, e1, h1, e2, e3, hx, hy, hpk, cond_true, pureR]
      · simp at h
    · simp at h
  | alloc el =>
    simp only [aop] at h
    split at h
    · rename_i cs hz
      cases hf with
      | true =>
        rw [cond_true] at h; obtain rfl := Option.some.inj h
        exact ⟨⟨[], none⟩, rfl, by simp, fun _ => rfl, trivial, fun h => absurd rfl h, fun fr' H' hs hft => by
          have : H' = H := hft
          subst this
          simp only [aop, hz, cond_true, if_true]; rfl⟩
      | false =>
        rw [cond_false] at h; obtain rfl := Option.some.inj h
        exact ⟨⟨[], none⟩, rfl, by simp, fun _ => rfl, trivial, fun _ => rfl, fun fr' H' hs hft => by simp only [aop, hz, cond_false]; rfl⟩
    · simp at h
  | box el x =>
    simp only [aop] at h
    split at h
    · rename_i v fr1 h1
      obtain ⟨ds, rfl, h2, h3, h4⟩ := rdF_loc h1
      split at h
      · rename_i hp
        cases hf with
        | true =>
          rw [cond_true] at h; obtain rfl := Option.some.inj h
          exact ⟨⟨ds, none⟩, rfl, h2, h3, trivial, fun h => absurd rfl h, fun fr' H' hs hft => by
            have : H' = H := hft
            subst this
            simp only [aop, h4 fr' hs, if_pos hp, cond_true, if_true]; rfl⟩
        | false =>
          rw [cond_false] at h; obtain rfl := Option.some.inj h
          exact ⟨⟨ds, none⟩, rfl, h2, h3, trivial, fun _ => rfl, fun fr' H' hs hft => by simp only [aop, h4 fr' hs, if_pos hp, cond_false]; rfl⟩
      · simp at h
    · simp at h
  | build t ps =>
    simp only [aop] at h
    split at h
    · rename_i as fr1 h1
      obtain ⟨ds, rfl, h2, h3, h4⟩ := rdsS_loc h1
      obtain ⟨u, h5, rfl⟩ := pureR_some h
      have hne : ftOf u ≠ .wH := by rcases ftOf_plain u with h | ⟨t, h⟩ <;> simp [h]
      exact ⟨⟨ds, none⟩, rfl, by simpa [Op.operands] using h2, h3, trivial, fun _ => rfl, fun fr' H' hs _ => by
        have e1 := h4 fr' (by simpa [Op.operands] using hs)
        simp only [aop, e1, h5, pureR, if_neg hne]; rfl⟩
    · simp at h
  | buildSlice t n ps =>
    simp only [aop] at h
    split at h
    · rename_i as h1
      obtain ⟨u, h5, rfl⟩ := pureR_some h
      refine Loc.pure fun fr' H' hs => ?_
      have e1 := rds_same (cx := cx) (os := ps.toList.map (·.2)) (by simpa [Op.operands] using hs)
      simp only [aop, e1, h1, h5, pureR]
    · simp at h
  | makeMap t r =>
    simp only [aop] at h
    split at h
    · rename_i kd et hty
      obtain rfl := Option.some.inj h
      exact ⟨⟨[], none⟩, rfl, by simp, fun _ => rfl, trivial, fun h => absurd rfl h, fun fr' H' hs hft => by
        have : H' = H := hft
        subst this
        simp only [aop, hty, if_true]; rfl⟩
    · simp at h
  | lookup t x k ck =>
    simp only [aop] at h
    split at h
    · rename_i b k' h1 h2
      split at h
      · rename_i kd ks vs hg
        split at h
        · rename_i v hl
          obtain rfl := Option.some.inj h
          refine ⟨⟨[], none⟩, rfl, by simp, by simp, trivial, fun _ => rfl, fun fr' H' hs hft => ?_⟩
          have : H' = H := hft
          subst this
          have e1 := rd_same (cx := cx) (sub1 hs (o := x) (by simp [Op.operands]))
          have e2 := rd_same (cx := cx) (sub1 hs (o := k) (by simp [Op.operands]))
          simp only [aop, e1, e2, h1, h2, hg, hl]; rfl
        · simp at h
      · simp at h
    · simp at h
  | mapUpdate t x k v =>
    simp only [aop] at h
    split at h
    · rename_i b k' v' h1 h2 h3
      split at h
      · rename_i kd ks vs kd' et hg hty
        split at h
        · rename_i hc
          obtain rfl := Option.some.inj h
          refine ⟨⟨[], none⟩, rfl, by simp, by simp, trivial, fun h => absurd rfl h, fun fr' H' hs hft => ?_⟩
          have : H' = H := hft
          subst this
          have e1 := rd_same (cx := cx) (sub1 hs (o := x) (by simp [Op.operands]))
          have e2 := rd_same (cx := cx) (sub1 hs (o := k) (by simp [Op.operands]))
          have e3 := rd_same (cx := cx) (sub1 hs (o := v) (by simp [Op.operands]))
          simp only [aop, e1, e2, e3, h1, h2, h3, hg, hty, if_pos hc]; rfl
        · simp at h
      · simp at h
    · simp at h
  | load t ad =>
    simp only [aop] at h
    split at h
    · rename_i x h1
      split at h
      · rename_i hc
        obtain rfl := Option.some.inj h
        exact ⟨⟨[], none⟩, rfl, by simp, fun _ => rfl, trivial, fun _ => rfl, fun fr' H' hs _ => by
          have e1 := rd_same (cx := cx) (sub1 hs (o := ad) (by simp [Op.operands]))
          simp only [aop, e1, h1, if_pos hc]; rfl⟩
      · simp at h
    · rename_i u off h1
      split at h
      · rename_i c hg
        split at h
        · rename_i v hl
          cases st with
          | true =>
            rw [cond_true] at h; obtain rfl := Option.some.inj h
            refine ⟨⟨[], some (u, off, v.cells.map dupC)⟩, ?_, by simp, by simp, ⟨_, c, rfl, by simp; omega, hg, by simpa using loadA_len hl⟩, fun _ => rfl, fun fr' H' hs hft => ?_⟩
            · simp only [Eff.app, boxApp_disL (l := []) hg]; rfl
            · obtain ⟨d, d', h3, h4, h5, h6⟩ := hft
              rw [hg] at h3; cases Option.some.inj h3
              have e1 := rd_same (cx := cx) (sub1 hs (o := ad) (by simp [Op.operands]))
              simp only [aop, e1, h1, h4, loadA_same hl h5 h6, cond_true]
              simp only [Eff.app, boxApp_disL (l := []) h4]; rfl
          | false =>
            rw [cond_false] at h; obtain rfl := Option.some.inj h
            refine ⟨⟨[], none⟩, rfl, by simp, by simp, trivial, fun _ => rfl, fun fr' H' hs hft => ?_⟩
            obtain ⟨d, d', h3, h4, h5, h6⟩ := hft
            rw [hg] at h3; cases Option.some.inj h3
            have e1 := rd_same (cx := cx) (sub1 hs (o := ad) (by simp [Op.operands]))
            simp only [aop, e1, h1, h4, loadA_same hl h5 h6, cond_false]; rfl
        · simp at h
      · simp at h
    · rename_i b off h1
      split at h
      · rename_i c hg
        split at h
        · rename_i v hl
          cases st with
          | true =>
            rw [cond_true] at h; obtain rfl := Option.some.inj h
            refine ⟨⟨[], none⟩, rfl, by simp, by simp, trivial, fun h => absurd rfl h, fun fr' H' hs hft => ?_⟩
            have : H' = H := hft
            subst this
            have e1 := rd_same (cx := cx) (sub1 hs (o := ad) (by simp [Op.operands]))
            simp only [aop, e1, h1, hg, hl, cond_true]; rfl
          | false =>
            rw [cond_false] at h; obtain rfl := Option.some.inj h
            refine ⟨⟨[], none⟩, rfl, by simp, by simp, trivial, fun _ => rfl, fun fr' H' hs hft => ?_⟩
            have : H' = H := hft
            subst this
            have e1 := rd_same (cx := cx) (sub1 hs (o := ad) (by simp [Op.operands]))
            simp only [aop, e1, h1, hg, hl, cond_false]; rfl
        · simp at h
      · simp at h
    · simp at h
  | store t ad x =>
    simp only [aop] at h
    split at h
    · rename_i u off v fr1 h1 h2
      obtain ⟨ds, rfl, h3, h4, h5⟩ := rdF_loc h2
      split at h
      · rename_i c hg
        rw [get_disL_box] at hg
        split at h
        · rename_i c' hst
          obtain rfl := Option.some.inj h
          obtain ⟨rfl, _⟩ := storeA_same hst rfl
          refine ⟨⟨ds, some (u, off, v.cells)⟩, ?_, fun t ht => ?_, h4, ⟨_, c, rfl, Nat.le_refl _, hg, storeA_len hst⟩, fun _ => rfl, fun fr' H' hs hft => ?_⟩
          · simp only [Eff.app, boxApp_disL hg]
          · have := h3 t ht; rw [mem_tmpsOf] at this ⊢; simp at this; simp [Op.operands, this]
          · obtain ⟨d, d', h6, h7, h8, h9⟩ := hft
            rw [hg] at h6; cases Option.some.inj h6
            have e1 := rd_same (cx := cx) (sub1 hs (o := ad) (by simp [Op.operands]))
            have e2 := h5 fr' (sub1 hs (o := x) (by simp [Op.operands]))
            have e3 := get_disL_box (l := ds).2 h7
            simp only [aop, e1, h1, e2, e3, (storeA_same hst h8).2]
            simp only [Eff.app, boxApp_disL h7]; rfl
        · simp at h
      · simp at h
    · rename_i b off v fr1 h1 h2
      obtain ⟨ds, rfl, h3, h4, h5⟩ := rdF_loc h2
      split at h
      · rename_i c hg
        split at h
        · rename_i c' hst
          obtain rfl := Option.some.inj h
          refine ⟨⟨ds, none⟩, rfl, fun t ht => ?_, h4, trivial, fun h => absurd rfl h, fun fr' H' hs hft => ?_⟩
          · have := h3 t ht; rw [mem_tmpsOf] at this ⊢; simp at this; simp [Op.operands, this]
          · have : H' = H := hft
            subst this
            have e1 := rd_same (cx := cx) (sub1 hs (o := ad) (by simp [Op.operands]))
            have e2 := h5 fr' (sub1 hs (o := x) (by simp [Op.operands]))
            simp only [aop, e1, h1, e2, hg, hst]; rfl
        · simp at h
      · simp at h
    · simp at h
  | nilCheck x =>
    simp only [aop] at h
    split at h
    · rename_i b o h1
      obtain rfl := Option.some.inj h
      exact Loc.pure (u := .hp b o) fun fr' H' hs => by
        have e1 := rd_same (cx := cx) (sub1 hs (o := x) (by simp [Op.operands]))
        simp only [aop, e1, h1]; rfl
    · rename_i b o h1
      obtain rfl := Option.some.inj h
      exact Loc.pure (u := .lp b o) fun fr' H' hs => by
        have e1 := rd_same (cx := cx) (sub1 hs (o := x) (by simp [Op.operands]))
        simp only [aop, e1, h1]; rfl
    · rename_i y h1
      obtain rfl := Option.some.inj h
      exact Loc.pure (u := .vp y) fun fr' H' hs => by
        have e1 := rd_same (cx := cx) (sub1 hs (o := x) (by simp [Op.operands]))
        simp only [aop, e1, h1]; rfl
    · simp at h
  | binOp op t x y yt =>
    simp only [aop] at h
    split at h
    · rename_i p q h1 h2
      obtain ⟨u, h5, rfl⟩ := pureR_some h
      refine Loc.pure fun fr' H' hs => ?_
      have e1 := rd_same (cx := cx) (sub1 hs (o := x) (by simp [Op.operands]))
      have e2 := rd_same (cx := cx) (sub1 hs (o := y) (by simp [Op.operands]))
      simp only [aop, e1, e2, h1, h2, h5, pureR]
    · simp at h
  | unOp op t x =>
    simp only [aop] at h
    split at h
    · rename_i p h1
      obtain ⟨u, h5, rfl⟩ := pureR_some h
      refine Loc.pure fun fr' H' hs => ?_
      have e1 := rd_same (cx := cx) (sub1 hs (o := x) (by simp [Op.operands]))
      simp only [aop, e1, h1, h5, pureR]
    · simp at h
  | convert s t x =>
    simp only [aop] at h
    split at h
    · rename_i p h1
      obtain ⟨u, h5, rfl⟩ := pureR_some h
      refine Loc.pure fun fr' H' hs => ?_
      have e1 := rd_same (cx := cx) (sub1 hs (o := x) (by simp [Op.operands]))
      simp only [aop, e1, h1, h5, pureR]
    · simp at h
  | makeSlice t l c =>
    simp only [aop] at h
    split at h
    · rename_i p q h1 h2
      obtain ⟨u, h5, rfl⟩ := pureR_some h
      refine Loc.pure fun fr' H' hs => ?_
      have e1 := rd_same (cx := cx) (sub1 hs (o := l) (by simp [Op.operands]))
      have e2 := rd_same (cx := cx) (sub1 hs (o := c) (by simp [Op.operands]))
      simp only [aop, e1, e2, h1, h2, h5, pureR]
    · simp at h
  | slice t x lo hi mx =>
    simp only [aop] at h
    split at h
    · rename_i p h1
      split at h
      · rename_i l hh m h2 h3 h4
        obtain ⟨u, h5, rfl⟩ := pureR_some h
        refine Loc.pure fun fr' H' hs => ?_
        have e1 := rd_same (cx := cx) (sub1 hs (o := x) (by simp [Op.operands]))
        have e2 := rds_same (cx := cx) (subs hs (ps := lo.toList) fun o ho => by cases lo <;> simp [Op.operands] at ho ⊢; simp [ho])
        have e3 := rds_same (cx := cx) (subs hs (ps := hi.toList) fun o ho => by cases hi <;> simp [Op.operands] at ho ⊢; simp [ho])
        have e4 := rds_same (cx := cx) (subs hs (ps := mx.toList) fun o ho => by cases mx <;> simp [Op.operands] at ho ⊢; simp [ho])
        simp only [aop, e1, e2, e3, e4, h1, h2, h3, h4, h5, pureR]
      · simp at h
    · simp at h
  | fieldAddr t x i =>
    simp only [aop] at h
    split at h
    · rename_i p h1
      obtain ⟨u, h5, rfl⟩ := pureR_some h
      refine Loc.pure fun fr' H' hs => ?_
      have e1 := rd_same (cx := cx) (sub1 hs (o := x) (by simp [Op.operands]))
      simp only [aop, e1, h1, h5, pureR]
    · simp at h
  | field t x i =>
    simp only [aop] at h
    split at h
    · rename_i p h1
      obtain ⟨u, h5, rfl⟩ := pureR_some h
      refine Loc.pure fun fr' H' hs => ?_
      have e1 := rd_same (cx := cx) (sub1 hs (o := x) (by simp [Op.operands]))
      simp only [aop, e1, h1, h5, pureR]
    · simp at h
  | indexAddr t x i =>
    simp only [aop] at h
    split at h
    · rename_i p q h1 h2
      obtain ⟨u, h5, rfl⟩ := pureR_some h
      refine Loc.pure fun fr' H' hs => ?_
      have e1 := rd_same (cx := cx) (sub1 hs (o := x) (by simp [Op.operands]))
      have e2 := rd_same (cx := cx) (sub1 hs (o := i) (by simp [Op.operands]))
      simp only [aop, e1, e2, h1, h2, h5, pureR]
    · simp at h
  | index t x i =>
    simp only [aop] at h
    split at h
    · rename_i p q h1 h2
      obtain ⟨u, h5, rfl⟩ := pureR_some h
      refine Loc.pure fun fr' H' hs => ?_
      have e1 := rd_same (cx := cx) (sub1 hs (o := x) (by simp [Op.operands]))
      have e2 := rd_same (cx := cx) (sub1 hs (o := i) (by simp [Op.operands]))
      simp only [aop, e1, e2, h1, h2, h5, pureR]
    · simp at h
  | extract x i =>
    simp only [aop] at h
    split at h
    · rename_i p h1
      obtain ⟨u, h5, rfl⟩ := pureR_some h
      refine Loc.pure fun fr' H' hs => ?_
      have e1 := rd_same (cx := cx) (sub1 hs (o := x) (by simp [Op.operands]))
      simp only [aop, e1, h1, h5, pureR]
    · simp at h
  | call c =>
    obtain ⟨callee, args, argTypes⟩ := c
    simp only [aop] at h
    split at h
    · split at h
      · rename_i s x t u' hargs htys
        split at h
        · rename_i s' fr1 x' h1 h2
          obtain ⟨ds, rfl, h3, h4, h5⟩ := rdS_loc h1
          obtain ⟨u, h6, rfl⟩ := pureR_some h
          have hne : ftOf u ≠ .wH := by rcases ftOf_plain u with h | ⟨t, h⟩ <;> simp [h]
          refine ⟨⟨ds, none⟩, rfl, fun t ht => ?_, h4, trivial, fun _ => rfl, fun fr' H' hs _ => ?_⟩
          · have := h3 t ht; rw [mem_tmpsOf] at this ⊢; simp at this; simp [Op.operands, Call.operands, hargs, this]
          · have e1 := h5 fr' (sub1 hs (o := s) (by simp [Op.operands, Call.operands, hargs]))
            have e2 := rd_same (cx := cx) (sub1 hs (o := x) (by simp [Op.operands, Call.operands, hargs]))
            simp only [aop, hargs, htys, e1, e2, h2, h6, pureR, if_neg hne]; rfl
        · simp at h
      · simp at h
    · rename_i b hnb
      split at h
      · rename_i as h1
        obtain ⟨u, h6, rfl⟩ := pureR_some h
        refine Loc.pure fun fr' H' hs => ?_
        have e1 := rds_same (cx := cx) (subs hs (ps := args.toList) fun o ho => by simp [Op.operands, Call.operands] at ho ⊢; exact ho)
        cases b <;> first | exact (hnb rfl).elim | simp only [aop, e1, h1, h6, pureR]
      · simp at h
    · rename_i f
      split at h
      · rename_i g as h1 h2
        split at h
        · rename_i v H' ft hca
          obtain rfl := Option.some.inj h
          have reads : ∀ fr', (∀ t ∈ tmpsOf (Op.call ⟨.value f, args, argTypes⟩).operands.toList, SameAt fr fr' t) → rd cx fr' f = some (.fn g) ∧ rdsF cx fr' argTypes.toList args.toList = some as := fun fr' hs =>
            ⟨by rw [rd_same (cx := cx) (sub1 hs (o := f) (by simp [Op.operands, Call.operands])), h1], by rw [rdsF_same (cx := cx) (subs hs (ps := args.toList) fun o ho => by simp [Op.operands, Call.operands] at ho ⊢; exact .inr ho), h2]⟩
          unfold callA at hca
          cases hiso : cx.iso g with
          | true =>
            rw [hiso, cond_true] at hca
            split at hca
            · rename_i ds hds
              split at hca
              · rename_i v0 H0 hcall
                split at hca
                · rename_i y hy
                  obtain ⟨rfl, h3⟩ := Prod.mk.inj (Option.some.inj hca)
                  obtain ⟨rfl, rfl⟩ := Prod.mk.inj h3
                  refine ⟨⟨[], none⟩, rfl, by simp, fun _ => rfl, trivial, fun _ => rfl, fun fr' H' hs _ => ?_⟩
                  obtain ⟨e1, e2⟩ := reads fr' hs
                  simp only [aop, e1, e2, callA, hiso, cond_true, hds, hcall, hy]; rfl
                · simp at hca
              · simp at hca
            · simp at hca
          | false =>
            rw [hiso, cond_false] at hca
            split at hca
            · rename_i hpl
              split at hca
              · rename_i v0 H0 hcall
                obtain ⟨rfl, h3⟩ := Prod.mk.inj (Option.some.inj hca)
                obtain ⟨rfl, rfl⟩ := Prod.mk.inj h3
                refine ⟨⟨[], none⟩, rfl, by simp, fun _ => rfl, trivial, fun h => absurd rfl h, fun fr' H' hs hft => ?_⟩
                have : H' = H := hft
                subst this
                obtain ⟨e1, e2⟩ := reads fr' hs
                simp only [aop, e1, e2, callA, hiso, cond_false, if_pos hpl, hcall]; rfl
              · simp at hca
            · simp at hca
        · simp at h
      · simp at h
    · simp at h
  | _ => simp [aop] at h

end
end Go.AI
