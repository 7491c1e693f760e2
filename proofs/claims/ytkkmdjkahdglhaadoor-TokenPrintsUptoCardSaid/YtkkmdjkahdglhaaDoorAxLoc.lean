/- What an operation's answer hangs on, and what it changes. -/
import Derived.Test.YtkkmdjkahdglhaaDoorAxSound
import Derived.Still
import Derived.LoopN
import Derived.Scope
namespace Go.AI
set_option linter.unusedVariables false
set_option linter.unusedSimpArgs false

def tmpsOf : List Operand → List Nat
  | [] => []
  | .tmp t :: r => t :: tmpsOf r
  | _ :: r => tmpsOf r

theorem mem_tmpsOf {t : Nat} : ∀ {os : List Operand}, t ∈ tmpsOf os ↔ Operand.tmp t ∈ os
  | [] => by simp [tmpsOf]
  | o :: r => by
    cases o <;> simp [tmpsOf, mem_tmpsOf (os := r)]

theorem dup_box (cs : List AV) : dup (.box cs) = .box cs := rfl

theorem box_of_dup {a : AV} {cs : List AV} (h : dup a = .box cs) : a = .box cs := by
  cases a <;> simp [dup, dupC] at h
  · rename_i s xs
    split at h <;> simp at h
  · rw [h]

theorem get_disown (t u : Nat) : ∀ (fr : Fr), get (disown t fr) u = if u = t then (get fr t).map dup else get fr u
  | [] => by simp [disown, get]
  | (v, a) :: r => by
    by_cases hv : v = t
    · subst hv
      by_cases hu : u = v
      · subst hu; simp [disown, get]
      · simp [disown, get, hu, Ne.symm hu]
    · by_cases hu : v = u
      · subst hu; simp [disown, get, hv]
      · simp [disown, get, hv, hu, get_disown t u r]

theorem get_upd (t u : Nat) (b : AV) : ∀ (fr : Fr), get (upd t b fr) u = if u = t then (get fr t).map (fun _ => b) else get fr u
  | [] => by simp [upd, get]
  | (v, a) :: r => by
    by_cases hv : v = t
    · subst hv
      by_cases hu : u = v
      · subst hu; simp [upd, get]
      · simp [upd, get, hu, Ne.symm hu]
    · by_cases hu : v = u
      · subst hu; simp [upd, get, hv]
      · simp [upd, get, hv, hu, get_upd t u b r]

theorem get_del (d u : Nat) : ∀ (fr : Fr), get (del d fr) u = if u = d then none else (get fr u).map (kill d)
  | [] => by simp [del, get]
  | (v, a) :: r => by
    by_cases hv : v = d
    · subst hv
      by_cases hu : u = v
      · subst hu; simp [del, get_del u u r]
      · simp [del, get, hu, Ne.symm hu, get_del v u r]
    · by_cases hu : v = u
      · subst hu; simp [del, get, hv]
      · simp [del, get, hv, hu, get_del d u r]

theorem get_put (d u : Nat) (a : AV) (fr : Fr) : get (put (some d) a fr) u = if u = d then some (kill d a) else (get fr u).map (kill d) := by
  by_cases hu : u = d
  · subst hu; simp [put, get]
  · simp [put, get, hu, Ne.symm hu, get_del]

def disL : List Nat → Fr → Fr
  | [], fr => fr
  | t :: r, fr => disL r (disown t fr)

theorem dup_dup (a : AV) : dup (dup a) = dup a := by
  have hc : ∀ a, dupC (dupC a) = dupC a := by
    intro a
    cases a <;> try rfl
    rename_i s xs
    rw [dupC_osl]
    split
    · rfl
    · rfl
  cases a
  case osl s xs =>
    show dup (dupC (.osl s xs)) = dupC (.osl s xs)
    rw [dupC_osl]; split <;> rfl
  case agg cs =>
    show AV.agg ((cs.map dupC).map dupC) = AV.agg (cs.map dupC)
    rw [List.map_map]
    congr 1
    apply List.map_congr_left
    intro x _
    exact hc x
  all_goals rfl

theorem get_disL (u : Nat) : ∀ (l : List Nat) (fr : Fr), get (disL l fr) u = if u ∈ l then (get fr u).map dup else get fr u
  | [], fr => by simp [disL]
  | t :: r, fr => by
    rw [disL, get_disL u r, get_disown]
    by_cases hu : u = t
    · subst hu
      by_cases hr : u ∈ r
      · simp [hr, Option.map_map, Function.comp_def, dup_dup]
      · simp [hr]
    · by_cases hr : u ∈ r <;> simp [hu, hr]

theorem disL_append (l m : List Nat) (fr : Fr) : disL (l ++ m) fr = disL m (disL l fr) := by
  induction l generalizing fr with
  | nil => rfl
  | cons t l ih => simp [disL, ih]

/-- The same value, or two variables of the frame's own. -/
def SameAt (fr fr' : Fr) (t : Nat) : Prop := get fr' t = get fr t ∨ ∃ c c', get fr t = some (.box c) ∧ get fr' t = some (.box c')

theorem SameAt.disL {fr fr' : Fr} {t : Nat} (h : SameAt fr fr' t) (l : List Nat) : SameAt (disL l fr) (disL l fr') t := by
  unfold SameAt
  rw [get_disL, get_disL]
  rcases h with h | ⟨c, c', h1, h2⟩
  · left; rw [h]
  · right; refine ⟨c, c', ?_, ?_⟩ <;> split <;> simp [h1, h2, dup_box]

theorem get_disL_box {fr : Fr} {l : List Nat} {u : Nat} {c : List AV} : get (disL l fr) u = some (.box c) ↔ get fr u = some (.box c) := by
  rw [get_disL]
  split
  · constructor
    · intro h
      cases hg : get fr u with
      | none => rw [hg] at h; simp at h
      | some a => rw [hg] at h; simp at h; rw [box_of_dup h]
    · intro h; rw [h]; rfl
  · rfl

section
variable {cx : Cx}

theorem rd_same {fr fr' : Fr} {o : Operand} (h : ∀ t ∈ tmpsOf [o], SameAt fr fr' t) : rd cx fr' o = rd cx fr o := by
  cases o with
  | tmp t =>
    rcases h t (by simp [tmpsOf]) with h | ⟨c, c', h1, h2⟩
    · simp only [rd, h]
    · simp only [rd, h1, h2]
  | _ => rfl

theorem rds_same {fr fr' : Fr} : ∀ {os : List Operand}, (∀ t ∈ tmpsOf os, SameAt fr fr' t) → rds cx fr' os = rds cx fr os
  | [], _ => rfl
  | o :: r, h => by
    have h1 : rd cx fr' o = rd cx fr o := rd_same fun t ht => h t (by rw [mem_tmpsOf] at ht ⊢; simp at ht; simp [ht])
    have h2 : rds cx fr' r = rds cx fr r := rds_same fun t ht => h t (by rw [mem_tmpsOf] at ht ⊢; simp [ht])
    simp only [rds, h1, h2]

theorem rdS_loc {st : Bool} {fr fr1 : Fr} {o : Operand} {v : AV} (h : rdS cx st fr o = some (v, fr1)) :
    ∃ ds, fr1 = disL ds fr ∧ (∀ t ∈ ds, t ∈ tmpsOf [o]) ∧ (st = false → ds = []) ∧ ∀ fr', (∀ t ∈ tmpsOf [o], SameAt fr fr' t) → rdS cx st fr' o = some (v, disL ds fr') := by
  have viaMap : ((rd cx fr o).map fun a => (a, fr)) = some (v, fr1) → fr1 = fr ∧ rd cx fr o = some v := by
    intro h
    cases hr : rd cx fr o with
    | none => rw [hr] at h; simp at h
    | some u => rw [hr] at h; simp at h; obtain ⟨rfl, rfl⟩ := h; exact ⟨rfl, rfl⟩
  cases st with
  | false =>
    simp only [rdS, cond_false] at h
    obtain ⟨rfl, h2⟩ := viaMap h
    exact ⟨[], rfl, by simp, fun _ => rfl, fun fr' hs => by simp only [rdS, cond_false, rd_same hs, h2]; rfl⟩
  | true =>
    cases o with
    | tmp t =>
      simp only [rdS, cond_true] at h
      split at h
      · rename_i cs hg
        obtain ⟨rfl, rfl⟩ := Prod.mk.inj (Option.some.inj h)
        refine ⟨[], rfl, by simp, fun _ => rfl, fun fr' hs => ?_⟩
        rcases hs t (by simp [tmpsOf]) with h | ⟨c, c', h1, h2⟩
        · simp only [rdS, cond_true, h, hg]; rfl
        · simp only [rdS, cond_true, h2]; rfl
      · simp at h
      · rename_i a hnb hnj hg
        obtain ⟨rfl, rfl⟩ := Prod.mk.inj (Option.some.inj h)
        refine ⟨[t], rfl, by simp [tmpsOf], by simp, fun fr' hs => ?_⟩
        rcases hs t (by simp [tmpsOf]) with h | ⟨c, c', h1, h2⟩
        · have : get fr' t = some a := by rw [h, hg]
          simp only [rdS, cond_true, this]
          cases a <;> first | rfl | exact (hnb _ rfl).elim | exact (hnj rfl).elim
        · rw [hg] at h1; exact (hnb c (Option.some.inj h1)).elim
      · simp at h
    | const v' =>
      simp only [rdS, cond_true] at h
      obtain ⟨rfl, h2⟩ := viaMap h
      exact ⟨[], rfl, by simp, by simp, fun fr' hs => by simp only [rdS, cond_true]; rw [show rd cx fr' (.const v') = rd cx fr1 (.const v') from rfl, h2]; rfl⟩
    | global g =>
      simp only [rdS, cond_true] at h
      obtain ⟨rfl, h2⟩ := viaMap h
      exact ⟨[], rfl, by simp, by simp, fun fr' hs => by simp only [rdS, cond_true]; rw [show rd cx fr' (.global g) = rd cx fr1 (.global g) from rfl, h2]; rfl⟩
    | func f =>
      simp only [rdS, cond_true] at h
      obtain ⟨rfl, h2⟩ := viaMap h
      exact ⟨[], rfl, by simp, by simp, fun fr' hs => by simp only [rdS, cond_true]; rw [show rd cx fr' (.func f) = rd cx fr1 (.func f) from rfl, h2]; rfl⟩

theorem rdsS_loc {st : Bool} : ∀ {os : List Operand} {fr fr1 : Fr} {vs : List AV}, rdsS cx st fr os = some (vs, fr1) →
    ∃ ds, fr1 = disL ds fr ∧ (∀ t ∈ ds, t ∈ tmpsOf os) ∧ (st = false → ds = []) ∧ ∀ fr', (∀ t ∈ tmpsOf os, SameAt fr fr' t) → rdsS cx st fr' os = some (vs, disL ds fr')
  | [], fr, fr1, vs, h => by
    simp [rdsS] at h; obtain ⟨rfl, rfl⟩ := h
    exact ⟨[], rfl, by simp, fun _ => rfl, fun fr' _ => rfl⟩
  | o :: r, fr, fr1, vs, h => by
    simp only [rdsS] at h
    split at h
    · rename_i v fr2 h1
      split at h
      · rename_i us fr3 h2
        obtain ⟨rfl, rfl⟩ := Prod.mk.inj (Option.some.inj h)
        obtain ⟨ds, rfl, h3, h4, h5⟩ := rdS_loc h1
        obtain ⟨es, rfl, h6, h7, h8⟩ := rdsS_loc h2
        refine ⟨ds ++ es, (disL_append _ _ _).symm, fun t ht => ?_, fun hs => by rw [h4 hs, h7 hs]; rfl, fun fr' hs => ?_⟩
        · rcases List.mem_append.1 ht with ht | ht
          · have := h3 t ht; rw [mem_tmpsOf] at this ⊢; simp at this; simp [this]
          · have := h6 t ht; rw [mem_tmpsOf] at this ⊢; simp [this]
        · have e1 := h5 fr' fun t ht => hs t (by rw [mem_tmpsOf] at ht ⊢; simp at ht; simp [ht])
          have e2 := h8 (disL ds fr') fun t ht => (hs t (by rw [mem_tmpsOf] at ht ⊢; simp [ht])).disL ds
          simp only [rdsS, e1, e2, disL_append]
      · simp at h
    · simp at h
end

theorem rdF_loc {cx : Cx} {fx : List (Option Nat)} {st : Bool} {fr fr1 : Fr} {o : Operand} {v : AV} (h : rdF cx fx st fr o = some (v, fr1)) :
    ∃ ds, fr1 = disL ds fr ∧ (∀ t ∈ ds, t ∈ tmpsOf [o]) ∧ (st = false → ds = []) ∧ ∀ fr', (∀ t ∈ tmpsOf [o], SameAt fr fr' t) → rdF cx fx st fr' o = some (v, disL ds fr') := by
  unfold rdF at h
  split at h
  · rename_i u fr2 h1
    obtain ⟨rfl, rfl⟩ := Prod.mk.inj (Option.some.inj h)
    obtain ⟨ds, h2, h3, h4, h5⟩ := rdS_loc h1
    exact ⟨ds, h2, h3, h4, fun fr' hs => by simp only [rdF, h5 fr' hs]⟩
  · simp at h

theorem rdsF_same {cx : Cx} {fr fr' : Fr} {ts : List TypeId} {os : List Operand} (h : ∀ t ∈ tmpsOf os, SameAt fr fr' t) : rdsF cx fr' ts os = rdsF cx fr ts os := by
  simp only [rdsF, rds_same h]

structure Eff where
  ds : List Nat
  bx : Option (Nat × Nat × List AV)

def boxApp : Option (Nat × Nat × List AV) → Fr → Fr
  | none, fr => fr
  | some (u, lo, cs), fr => match get fr u with
    | some (.box b) => upd u (.box (setRange b lo cs)) fr
    | _ => fr

def Eff.app (e : Eff) (fr : Fr) : Fr := boxApp e.bx (disL e.ds fr)

def FtOK (fr fr' : Fr) (H H' : Hp) : Foot → Prop
  | .rL u lo n | .wL u lo n => ∃ c c', get fr u = some (.box c) ∧ get fr' u = some (.box c') ∧ c'.length = c.length ∧ ∀ k, lo ≤ k → k < lo + n → c'[k]? = c[k]?
  | .rH | .wH => H' = H
  | _ => True

theorem loadA_same {P : Program} {t : TypeId} {c c' : List AV} {off : Nat} {v : AV} (h : loadA P t c off = some v) (hl : c'.length = c.length) (hk : ∀ k, off ≤ k → k < off + (max 1 v.cells.length) → c'[k]? = c[k]?) : loadA P t c' off = some v := by
  unfold loadA at h ⊢
  cases ht : tyOK P t with
  | false => rw [ht] at h; simp at h
  | true =>
    rw [ht, cond_true] at h
    rw [cond_true]
    unfold partA at h ⊢
    cases hag : isAggB P t with
    | true =>
      rw [hag, cond_true] at h
      rw [cond_true]
      split at h
      · rename_i hle
        rw [if_pos (by omega)]
        obtain rfl := Option.some.inj h
        congr 2
        apply List.ext_getElem?
        intro j
        rw [List.getElem?_take, List.getElem?_take]
        split
        · rename_i hj
          rw [List.getElem?_drop, List.getElem?_drop]
          refine hk _ (by omega) ?_
          simp only [AV.cells, List.length_take, List.length_drop]
          omega
        · rfl
      · simp at h
    | false =>
      rw [hag, cond_false] at h
      rw [cond_false, hk off (Nat.le_refl _) (by omega)]
      exact h

section
variable {cx : Cx}

theorem pureR_some {v : Option AV} {fr : Fr} {H : Hp} {R : AI.R} (h : pureR v fr H = some R) : ∃ u, v = some u ∧ R = ⟨u, fr, H, ftOf u⟩ := by
  unfold pureR at h
  split at h
  · rename_i u; exact ⟨u, rfl, (Option.some.inj h).symm⟩
  · simp at h

theorem ftOf_plain (u : AV) : (ftOf u = .non ∨ ∃ t, ftOf u = .adr t) := by
  cases u <;> simp [ftOf]

/-- What 'aop' says of all frames that are alike where it looks. -/
def Loc (cx : Cx) (st hf : Bool) (op : Op) (fr : Fr) (H : Hp) (R : AI.R) : Prop :=
  ∃ e : Eff, R.fr = e.app fr ∧ (∀ t ∈ e.ds, t ∈ tmpsOf op.operands.toList) ∧ (st = false → e.ds = []) ∧
    (match e.bx with | none => True | some (u, lo, cs) => ∃ n c, R.ft = .wL u lo n ∧ cs.length ≤ n ∧ get fr u = some (.box c) ∧ lo + cs.length ≤ c.length) ∧ (R.ft ≠ .wH → R.H = H) ∧
    ∀ fr' H', (∀ t ∈ tmpsOf op.operands.toList, SameAt fr fr' t) → FtOK fr fr' H H' R.ft → aop cx st hf fr' H' op = some ⟨R.v, e.app fr', if R.ft = .wH then R.H else H', R.ft⟩

theorem Loc.pure {st hf : Bool} {op : Op} {fr : Fr} {H : Hp} {u : AV} (h : ∀ fr' H', (∀ t ∈ tmpsOf op.operands.toList, SameAt fr fr' t) → aop cx st hf fr' H' op = some ⟨u, fr', H', ftOf u⟩) : Loc cx st hf op fr H ⟨u, fr, H, ftOf u⟩ := by
  have hne : ftOf u ≠ .wH := by rcases ftOf_plain u with h | ⟨t, h⟩ <;> simp [h]
  exact ⟨⟨[], none⟩, rfl, by simp, fun _ => rfl, trivial, fun _ => rfl, fun fr' H' hs _ => by rw [h fr' H' hs, if_neg hne]; rfl⟩


theorem sub1 {fr fr' : Fr} {os : List Operand} (h : ∀ t ∈ tmpsOf os, SameAt fr fr' t) {o : Operand} (ho : o ∈ os) : ∀ t ∈ tmpsOf [o], SameAt fr fr' t := fun t ht => by
  rw [mem_tmpsOf] at ht
  simp at ht
  exact h t (by rw [mem_tmpsOf, ht]; exact ho)

theorem subs {fr fr' : Fr} {os ps : List Operand} (h : ∀ t ∈ tmpsOf os, SameAt fr fr' t) (ho : ∀ o ∈ ps, o ∈ os) : ∀ t ∈ tmpsOf ps, SameAt fr fr' t := fun t ht => by
  rw [mem_tmpsOf] at ht
  exact h t (by rw [mem_tmpsOf]; exact ho _ ht)

theorem boxApp_disL {fr : Fr} {l : List Nat} {u lo : Nat} {cs c : List AV} (h : get fr u = some (.box c)) : boxApp (some (u, lo, cs)) (disL l fr) = upd u (.box (setRange c lo cs)) (disL l fr) := by
  simp only [boxApp, get_disL_box.2 h]

theorem storeA_same {P : Program} {t : TypeId} {c c' : List AV} {off : Nat} {v : AV} {r : List AV} (h : storeA P t c off v = some r) (hl : c'.length = c.length) : r = setRange c off v.cells ∧ storeA P t c' off v = some (setRange c' off v.cells) := by
  unfold storeA at h ⊢
  split at h
  · rename_i hc
    rw [hl, if_pos hc]
    exact ⟨(Option.some.inj h).symm, rfl⟩
  · simp at h

theorem storeA_len {P : Program} {t : TypeId} {c : List AV} {off : Nat} {v : AV} {r : List AV} (h : storeA P t c off v = some r) : off + v.cells.length ≤ c.length := by
  unfold storeA at h
  split at h
  · rename_i hc; exact hc.2.2.1
  · simp at h

theorem loadA_len {P : Program} {t : TypeId} {c : List AV} {off : Nat} {v : AV} (h : loadA P t c off = some v) : off + v.cells.length ≤ c.length := by
  unfold loadA at h
  cases ht : tyOK P t with
  | false => rw [ht] at h; simp at h
  | true =>
    rw [ht, cond_true] at h
    unfold partA at h
    cases hag : isAggB P t with
    | true =>
      rw [hag, cond_true] at h
      split at h
      · obtain rfl := Option.some.inj h
        simp only [AV.cells, List.length_take, List.length_drop]; omega
      · simp at h
    | false =>
      rw [hag, cond_false] at h
      split at h
      · simp at h
      · rename_i hna
        have := (List.getElem?_eq_some_iff.1 h).1
        have hv : v.cells = [v] := by
          cases v <;> first | rfl | exact (hna _ h).elim
        rw [hv]; simp; omega

theorem aop_loc {st hf : Bool} {op : Op} {fr : Fr} {H : Hp} {R : AI.R} (h : aop cx st hf fr H op = some R) : Loc cx st hf op fr H R := by
  cases op with
  | move x =>
    simp only [aop] at h
    split at h
    · rename_i v fr1 h1
      obtain rfl := Option.some.inj h
      obtain ⟨ds, rfl, h2, h3, h4⟩ := rdS_loc h1
      have hne : ftOf v ≠ .wH := by rcases ftOf_plain v with h | ⟨t, h⟩ <;> simp [h]
      exact ⟨⟨ds, none⟩, rfl, h2, h3, trivial, fun _ => rfl, fun fr' H' hs _ => by simp only [aop, h4 fr' hs, if_neg hne]; rfl⟩
    · simp at h
  | assign x =>
    simp only [aop] at h
    split at h
    · rename_i v fr1 h1
      obtain rfl := Option.some.inj h
      obtain ⟨ds, rfl, h2, h3, h4⟩ := rdS_loc h1
      have hne : ftOf v ≠ .wH := by rcases ftOf_plain v with h | ⟨t, h⟩ <;> simp [h]
      exact ⟨⟨ds, none⟩, rfl, h2, h3, trivial, fun _ => rfl, fun fr' H' hs _ => by simp only [aop, h4 fr' hs, if_neg hne]; rfl⟩
    · simp at h
  | pick c x y =>
    simp only [aop] at h
    split at h
    · rename_i t h1
      split at h
      · rename_i x' y' hx hy
        cases hpk : (pickB x' && pickB y') with
        | false => rw [hpk] at h; simp at h
        | true =>
          rw [hpk, cond_true] at h
          obtain ⟨u, h2, rfl⟩ := pureR_some h
          refine Loc.pure fun fr' H' hs => ?_
          have e1 := rd_same (cx := cx) (sub1 hs (o := c) (by simp [Op.operands]))
          have e2 := rd_same (cx := cx) (sub1 hs (o := x) (by simp [Op.operands]))
          have e3 := rd_same (cx := cx) (sub1 hs (o := y) (by simp [Op.operands]))
          obtain rfl := Option.some.inj h2
          simp only [aop, e1, h1, e2, e3, hx, hy, hpk, cond_true, pureR]
      · simp at h
    · simp at h
  | alloc el =>
    simp only [aop] at h
    split at h
    · rename_i cs hz
      cases hf with
      | true =>
        rw [cond_true] at h
        cases hd : headB cs with
        | true => rw [hd] at h; cases h
        | false =>
        rw [hd, cond_false] at h; obtain rfl := Option.some.inj h
        exact ⟨⟨[], none⟩, rfl, by simp, fun _ => rfl, trivial, fun h => absurd rfl h, fun fr' H' hs hft => by
          have : H' = H := hft
          subst this
          simp only [aop, hz, cond_true, hd, cond_false, if_true]; rfl⟩
      | false =>
        rw [cond_false] at h; obtain rfl := Option.some.inj h
        exact ⟨⟨[], none⟩, rfl, by simp, fun _ => rfl, trivial, fun _ => rfl, fun fr' H' hs hft => by simp only [aop, hz, cond_false]; rfl⟩
    · simp at h
  | box el x =>
    simp only [aop] at h
    split at h
    · rename_i v fr1 h1
      obtain ⟨ds, rfl, h2, h3, h4⟩ := rdF_loc h1
      split at h
      · rename_i hp
        cases hf with
        | true =>
          rw [cond_true] at h; obtain rfl := Option.some.inj h
          exact ⟨⟨ds, none⟩, rfl, h2, h3, trivial, fun h => absurd rfl h, fun fr' H' hs hft => by
            have : H' = H := hft
            subst this
            simp only [aop, h4 fr' hs, if_pos hp, cond_true, if_true]; rfl⟩
        | false =>
          rw [cond_false] at h; obtain rfl := Option.some.inj h
          exact ⟨⟨ds, none⟩, rfl, h2, h3, trivial, fun _ => rfl, fun fr' H' hs hft => by simp only [aop, h4 fr' hs, if_pos hp, cond_false]; rfl⟩
      · simp at h
    · simp at h
  | build t ps =>
    simp only [aop] at h
    split at h
    · rename_i as fr1 h1
      obtain ⟨ds, rfl, h2, h3, h4⟩ := rdsS_loc h1
      obtain ⟨u, h5, rfl⟩ := pureR_some h
      have hne : ftOf u ≠ .wH := by rcases ftOf_plain u with h | ⟨t, h⟩ <;> simp [h]
      exact ⟨⟨ds, none⟩, rfl, by simpa [Op.operands] using h2, h3, trivial, fun _ => rfl, fun fr' H' hs _ => by
        have e1 := h4 fr' (by simpa [Op.operands] using hs)
        simp only [aop, e1, h5, pureR, if_neg hne]; rfl⟩
    · simp at h
  | buildSlice t n ps =>
    simp only [aop] at h
    split at h
    · rename_i as h1
      obtain ⟨u, h5, rfl⟩ := pureR_some h
      refine Loc.pure fun fr' H' hs => ?_
      have e1 := rds_same (cx := cx) (os := ps.toList.map (·.2)) (by simpa [Op.operands] using hs)
      simp only [aop, e1, h1, h5, pureR]
    · simp at h
  | makeMap t r =>
    simp only [aop] at h
    split at h
    · rename_i kd et hty
      obtain rfl := Option.some.inj h
      exact ⟨⟨[], none⟩, rfl, by simp, fun _ => rfl, trivial, fun h => absurd rfl h, fun fr' H' hs hft => by
        have : H' = H := hft
        subst this
        simp only [aop, hty, if_true]; rfl⟩
    · simp at h
  | lookup t x k ck =>
    simp only [aop] at h
    split at h
    · rename_i b k' h1 h2
      split at h
      · rename_i kd ks vs hg
        split at h
        · rename_i v hl
          obtain rfl := Option.some.inj h
          refine ⟨⟨[], none⟩, rfl, by simp, by simp, trivial, fun _ => rfl, fun fr' H' hs hft => ?_⟩
          have : H' = H := hft
          subst this
          have e1 := rd_same (cx := cx) (sub1 hs (o := x) (by simp [Op.operands]))
          have e2 := rd_same (cx := cx) (sub1 hs (o := k) (by simp [Op.operands]))
          simp only [aop, e1, e2, h1, h2, hg, hl]; rfl
        · simp at h
      · simp at h
    · simp at h
  | mapUpdate t x k v =>
    simp only [aop] at h
    split at h
    · rename_i b k' v' h1 h2 h3
      split at h
      · rename_i kd ks vs kd' et hg hty
        split at h
        · rename_i hc
          obtain rfl := Option.some.inj h
          refine ⟨⟨[], none⟩, rfl, by simp, by simp, trivial, fun h => absurd rfl h, fun fr' H' hs hft => ?_⟩
          have : H' = H := hft
          subst this
          have e1 := rd_same (cx := cx) (sub1 hs (o := x) (by simp [Op.operands]))
          have e2 := rd_same (cx := cx) (sub1 hs (o := k) (by simp [Op.operands]))
          have e3 := rd_same (cx := cx) (sub1 hs (o := v) (by simp [Op.operands]))
          simp only [aop, e1, e2, e3, h1, h2, h3, hg, hty, if_pos hc]; rfl
        · simp at h
      · simp at h
    · simp at h
  | load t ad =>
    simp only [aop] at h
    split at h
    · rename_i x h1
      split at h
      · rename_i hc
        obtain rfl := Option.some.inj h
        exact ⟨⟨[], none⟩, rfl, by simp, fun _ => rfl, trivial, fun _ => rfl, fun fr' H' hs _ => by
          have e1 := rd_same (cx := cx) (sub1 hs (o := ad) (by simp [Op.operands]))
          simp only [aop, e1, h1, if_pos hc]; rfl⟩
      · simp at h
    · rename_i u off h1
      split at h
      · rename_i c hg
        split at h
        · rename_i v hl
          cases st with
          | true =>
            rw [cond_true] at h; obtain rfl := Option.some.inj h
            refine ⟨⟨[], some (u, off, v.cells.map dupC)⟩, ?_, by simp, by simp, ⟨_, c, rfl, by simp; omega, hg, by simpa using loadA_len hl⟩, fun _ => rfl, fun fr' H' hs hft => ?_⟩
            · simp only [Eff.app, boxApp_disL (l := []) hg]; rfl
            · obtain ⟨d, d', h3, h4, h5, h6⟩ := hft
              rw [hg] at h3; cases Option.some.inj h3
              have e1 := rd_same (cx := cx) (sub1 hs (o := ad) (by simp [Op.operands]))
              simp only [aop, e1, h1, h4, loadA_same hl h5 h6, cond_true]
              simp only [Eff.app, boxApp_disL (l := []) h4]; rfl
          | false =>
            rw [cond_false] at h; obtain rfl := Option.some.inj h
            refine ⟨⟨[], none⟩, rfl, by simp, by simp, trivial, fun _ => rfl, fun fr' H' hs hft => ?_⟩
            obtain ⟨d, d', h3, h4, h5, h6⟩ := hft
            rw [hg] at h3; cases Option.some.inj h3
            have e1 := rd_same (cx := cx) (sub1 hs (o := ad) (by simp [Op.operands]))
            simp only [aop, e1, h1, h4, loadA_same hl h5 h6, cond_false]; rfl
        · simp at h
      · simp at h
    · rename_i b off h1
      split at h
      · rename_i c hg
        split at h
        · rename_i v hl
          cases st with
          | true =>
            rw [cond_true] at h; obtain rfl := Option.some.inj h
            refine ⟨⟨[], none⟩, rfl, by simp, by simp, trivial, fun h => absurd rfl h, fun fr' H' hs hft => ?_⟩
            have : H' = H := hft
            subst this
            have e1 := rd_same (cx := cx) (sub1 hs (o := ad) (by simp [Op.operands]))
            simp only [aop, e1, h1, hg, hl, cond_true]; rfl
          | false =>
            rw [cond_false] at h; obtain rfl := Option.some.inj h
            refine ⟨⟨[], none⟩, rfl, by simp, by simp, trivial, fun _ => rfl, fun fr' H' hs hft => ?_⟩
            have : H' = H := hft
            subst this
            have e1 := rd_same (cx := cx) (sub1 hs (o := ad) (by simp [Op.operands]))
            simp only [aop, e1, h1, hg, hl, cond_false]; rfl
        · simp at h
      · simp at h
    · simp at h
  | store t ad x =>
    simp only [aop] at h
    split at h
    · rename_i u off v fr1 h1 h2
      obtain ⟨ds, rfl, h3, h4, h5⟩ := rdF_loc h2
      split at h
      · rename_i c hg
        rw [get_disL_box] at hg
        split at h
        · rename_i c' hst
          obtain rfl := Option.some.inj h
          obtain ⟨rfl, _⟩ := storeA_same hst rfl
          refine ⟨⟨ds, some (u, off, v.cells)⟩, ?_, fun t ht => ?_, h4, ⟨_, c, rfl, Nat.le_refl _, hg, storeA_len hst⟩, fun _ => rfl, fun fr' H' hs hft => ?_⟩
          · simp only [Eff.app, boxApp_disL hg]
          · have := h3 t ht; rw [mem_tmpsOf] at this ⊢; simp at this; simp [Op.operands, this]
          · obtain ⟨d, d', h6, h7, h8, h9⟩ := hft
            rw [hg] at h6; cases Option.some.inj h6
            have e1 := rd_same (cx := cx) (sub1 hs (o := ad) (by simp [Op.operands]))
            have e2 := h5 fr' (sub1 hs (o := x) (by simp [Op.operands]))
            have e3 := get_disL_box (l := ds).2 h7
            simp only [aop, e1, h1, e2, e3, (storeA_same hst h8).2]
            simp only [Eff.app, boxApp_disL h7]; rfl
        · simp at h
      · simp at h
    · rename_i b off v fr1 h1 h2
      obtain ⟨ds, rfl, h3, h4, h5⟩ := rdF_loc h2
      split at h
      · rename_i c hg
        split at h
        · rename_i c' hst
          obtain rfl := Option.some.inj h
          refine ⟨⟨ds, none⟩, rfl, fun t ht => ?_, h4, trivial, fun h => absurd rfl h, fun fr' H' hs hft => ?_⟩
          · have := h3 t ht; rw [mem_tmpsOf] at this ⊢; simp at this; simp [Op.operands, this]
          · have : H' = H := hft
            subst this
            have e1 := rd_same (cx := cx) (sub1 hs (o := ad) (by simp [Op.operands]))
            have e2 := h5 fr' (sub1 hs (o := x) (by simp [Op.operands]))
            simp only [aop, e1, h1, e2, hg, hst]; rfl
        · simp at h
      · simp at h
    · simp at h
  | nilCheck x =>
    simp only [aop] at h
    split at h
    · rename_i b o h1
      obtain rfl := Option.some.inj h
      exact Loc.pure (u := .hp b o) fun fr' H' hs => by
        have e1 := rd_same (cx := cx) (sub1 hs (o := x) (by simp [Op.operands]))
        simp only [aop, e1, h1]; rfl
    · rename_i b o h1
      obtain rfl := Option.some.inj h
      exact Loc.pure (u := .lp b o) fun fr' H' hs => by
        have e1 := rd_same (cx := cx) (sub1 hs (o := x) (by simp [Op.operands]))
        simp only [aop, e1, h1]; rfl
    · rename_i y h1
      obtain rfl := Option.some.inj h
      exact Loc.pure (u := .vp y) fun fr' H' hs => by
        have e1 := rd_same (cx := cx) (sub1 hs (o := x) (by simp [Op.operands]))
        simp only [aop, e1, h1]; rfl
    · simp at h
  | binOp op t x y yt =>
    simp only [aop] at h
    split at h
    · rename_i p q h1 h2
      obtain ⟨u, h5, rfl⟩ := pureR_some h
      refine Loc.pure fun fr' H' hs => ?_
      have e1 := rd_same (cx := cx) (sub1 hs (o := x) (by simp [Op.operands]))
      have e2 := rd_same (cx := cx) (sub1 hs (o := y) (by simp [Op.operands]))
      simp only [aop, e1, e2, h1, h2, h5, pureR]
    · simp at h
  | unOp op t x =>
    simp only [aop] at h
    split at h
    · rename_i p h1
      obtain ⟨u, h5, rfl⟩ := pureR_some h
      refine Loc.pure fun fr' H' hs => ?_
      have e1 := rd_same (cx := cx) (sub1 hs (o := x) (by simp [Op.operands]))
      simp only [aop, e1, h1, h5, pureR]
    · simp at h
  | convert s t x =>
    simp only [aop] at h
    split at h
    · rename_i p h1
      obtain ⟨u, h5, rfl⟩ := pureR_some h
      refine Loc.pure fun fr' H' hs => ?_
      have e1 := rd_same (cx := cx) (sub1 hs (o := x) (by simp [Op.operands]))
      simp only [aop, e1, h1, h5, pureR]
    · simp at h
  | makeSlice t l c =>
    simp only [aop] at h
    split at h
    · rename_i p q h1 h2
      obtain ⟨u, h5, rfl⟩ := pureR_some h
      refine Loc.pure fun fr' H' hs => ?_
      have e1 := rd_same (cx := cx) (sub1 hs (o := l) (by simp [Op.operands]))
      have e2 := rd_same (cx := cx) (sub1 hs (o := c) (by simp [Op.operands]))
      simp only [aop, e1, e2, h1, h2, h5, pureR]
    · simp at h
  | slice t x lo hi mx =>
    simp only [aop] at h
    split at h
    · rename_i p h1
      split at h
      · rename_i l hh m h2 h3 h4
        obtain ⟨u, h5, rfl⟩ := pureR_some h
        refine Loc.pure fun fr' H' hs => ?_
        have e1 := rd_same (cx := cx) (sub1 hs (o := x) (by simp [Op.operands]))
        have e2 := rds_same (cx := cx) (subs hs (ps := lo.toList) fun o ho => by cases lo <;> simp [Op.operands] at ho ⊢; simp [ho])
        have e3 := rds_same (cx := cx) (subs hs (ps := hi.toList) fun o ho => by cases hi <;> simp [Op.operands] at ho ⊢; simp [ho])
        have e4 := rds_same (cx := cx) (subs hs (ps := mx.toList) fun o ho => by cases mx <;> simp [Op.operands] at ho ⊢; simp [ho])
        simp only [aop, e1, e2, e3, e4, h1, h2, h3, h4, h5, pureR]
      · simp at h
    · simp at h
  | fieldAddr t x i =>
    simp only [aop] at h
    split at h
    · rename_i p h1
      obtain ⟨u, h5, rfl⟩ := pureR_some h
      refine Loc.pure fun fr' H' hs => ?_
      have e1 := rd_same (cx := cx) (sub1 hs (o := x) (by simp [Op.operands]))
      simp only [aop, e1, h1, h5, pureR]
    · simp at h
  | field t x i =>
    simp only [aop] at h
    split at h
    · rename_i p h1
      obtain ⟨u, h5, rfl⟩ := pureR_some h
      refine Loc.pure fun fr' H' hs => ?_
      have e1 := rd_same (cx := cx) (sub1 hs (o := x) (by simp [Op.operands]))
      simp only [aop, e1, h1, h5, pureR]
    · simp at h
  | indexAddr t x i =>
    simp only [aop] at h
    split at h
    · rename_i p q h1 h2
      obtain ⟨u, h5, rfl⟩ := pureR_some h
      refine Loc.pure fun fr' H' hs => ?_
      have e1 := rd_same (cx := cx) (sub1 hs (o := x) (by simp [Op.operands]))
      have e2 := rd_same (cx := cx) (sub1 hs (o := i) (by simp [Op.operands]))
      simp only [aop, e1, e2, h1, h2, h5, pureR]
    · simp at h
  | index t x i =>
    simp only [aop] at h
    split at h
    · rename_i p q h1 h2
      obtain ⟨u, h5, rfl⟩ := pureR_some h
      refine Loc.pure fun fr' H' hs => ?_
      have e1 := rd_same (cx := cx) (sub1 hs (o := x) (by simp [Op.operands]))
      have e2 := rd_same (cx := cx) (sub1 hs (o := i) (by simp [Op.operands]))
      simp only [aop, e1, e2, h1, h2, h5, pureR]
    · simp at h
  | extract x i =>
    simp only [aop] at h
    split at h
    · rename_i p h1
      obtain ⟨u, h5, rfl⟩ := pureR_some h
      refine Loc.pure fun fr' H' hs => ?_
      have e1 := rd_same (cx := cx) (sub1 hs (o := x) (by simp [Op.operands]))
      simp only [aop, e1, h1, h5, pureR]
    · simp at h
  | call c =>
    obtain ⟨callee, args, argTypes⟩ := c
    simp only [aop] at h
    split at h
    · split at h
      · rename_i s x t u' hargs htys
        split at h
        · rename_i s' fr1 x' h1 h2
          obtain ⟨ds, rfl, h3, h4, h5⟩ := rdS_loc h1
          obtain ⟨u, h6, rfl⟩ := pureR_some h
          have hne : ftOf u ≠ .wH := by rcases ftOf_plain u with h | ⟨t, h⟩ <;> simp [h]
          refine ⟨⟨ds, none⟩, rfl, fun t ht => ?_, h4, trivial, fun _ => rfl, fun fr' H' hs _ => ?_⟩
          · have := h3 t ht; rw [mem_tmpsOf] at this ⊢; simp at this; simp [Op.operands, Call.operands, hargs, this]
          · have e1 := h5 fr' (sub1 hs (o := s) (by simp [Op.operands, Call.operands, hargs]))
            have e2 := rd_same (cx := cx) (sub1 hs (o := x) (by simp [Op.operands, Call.operands, hargs]))
            simp only [aop, hargs, htys, e1, e2, h2, h6, pureR, if_neg hne]; rfl
        · simp at h
      · simp at h
    · rename_i b hnb
      split at h
      · rename_i as h1
        obtain ⟨u, h6, rfl⟩ := pureR_some h
        refine Loc.pure fun fr' H' hs => ?_
        have e1 := rds_same (cx := cx) (subs hs (ps := args.toList) fun o ho => by simp [Op.operands, Call.operands] at ho ⊢; exact ho)
        cases b <;> first | exact (hnb rfl).elim | simp only [aop, e1, h1, h6, pureR]
      · simp at h
    · rename_i f
      split at h
      · rename_i g as h1 h2
        split at h
        · rename_i v H' ft hca
          obtain rfl := Option.some.inj h
          have reads : ∀ fr', (∀ t ∈ tmpsOf (Op.call ⟨.value f, args, argTypes⟩).operands.toList, SameAt fr fr' t) → rd cx fr' f = some (.fn g) ∧ rdsF cx fr' argTypes.toList args.toList = some as := fun fr' hs =>
            ⟨by rw [rd_same (cx := cx) (sub1 hs (o := f) (by simp [Op.operands, Call.operands])), h1], by rw [rdsF_same (cx := cx) (subs hs (ps := args.toList) fun o ho => by simp [Op.operands, Call.operands] at ho ⊢; exact .inr ho), h2]⟩
          unfold callA at hca
          cases hiso : cx.iso g with
          | true =>
            rw [hiso, cond_true] at hca
            split at hca
            · rename_i ds hds
              split at hca
              · rename_i v0 H0 hcall
                split at hca
                · rename_i y hy
                  obtain ⟨rfl, h3⟩ := Prod.mk.inj (Option.some.inj hca)
                  obtain ⟨rfl, rfl⟩ := Prod.mk.inj h3
                  refine ⟨⟨[], none⟩, rfl, by simp, fun _ => rfl, trivial, fun _ => rfl, fun fr' H' hs _ => ?_⟩
                  obtain ⟨e1, e2⟩ := reads fr' hs
                  simp only [aop, e1, e2, callA, hiso, cond_true, hds, hcall, hy]; rfl
                · simp at hca
              · simp at hca
            · simp at hca
          | false =>
            rw [hiso, cond_false] at hca
            split at hca
            · rename_i hpl
              split at hca
              · rename_i v0 H0 hcall
                obtain ⟨rfl, h3⟩ := Prod.mk.inj (Option.some.inj hca)
                obtain ⟨rfl, rfl⟩ := Prod.mk.inj h3
                refine ⟨⟨[], none⟩, rfl, by simp, fun _ => rfl, trivial, fun h => absurd rfl h, fun fr' H' hs hft => ?_⟩
                have : H' = H := hft
                subst this
                obtain ⟨e1, e2⟩ := reads fr' hs
                simp only [aop, e1, e2, callA, hiso, cond_false, if_pos hpl, hcall]; rfl
              · simp at hca
            · simp at hca
        · simp at h
      · simp at h
    · simp at h
  | _ => simp [aop] at h

end
end Go.AI

/- Regions that draw their order: two steps that are apart may be taken in either order. -/
namespace Go.AI
set_option linter.unusedVariables false
set_option linter.unusedSimpArgs false

/-! ### What a value among the operands makes of an operation -/

/-- A value that an operation may take: no pointer into a variable, unless the operation says so. -/
def NoLp (u : Nat) (a : AV) : Prop := isLp u a = false

theorem rd_lp {cx : Cx} {fr : Fr} {t u o : Nat} {v : AV} (hg : get fr t = some (.lp u o)) (h : rd cx fr (.tmp t) = some v) : v = .lp u o := by
  simp only [rd, hg] at h
  exact (Option.some.inj h).symm

theorem toD0_lp {u o : Nat} : toD0 (.lp u o) = none := rfl

theorem rds_get {cx : Cx} {fr : Fr} : ∀ {os : List Operand} {as : List AV} {o : Operand}, rds cx fr os = some as → o ∈ os → ∃ a ∈ as, rd cx fr o = some a
  | [], _, _, _, h => by simp at h
  | p :: r, _, o, h, ho => by
    simp only [rds] at h
    split at h
    · rename_i a as h1 h2
      obtain rfl := Option.some.inj h
      rcases List.mem_cons.1 ho with rfl | ho
      · exact ⟨a, by simp, h1⟩
      · obtain ⟨b, hb, h3⟩ := rds_get h2 ho
        exact ⟨b, List.mem_cons_of_mem _ hb, h3⟩
    · simp at h

theorem rdS_lp {cx : Cx} {st : Bool} {fr fr1 : Fr} {t u o : Nat} {v : AV} (hg : get fr t = some (.lp u o)) (h : rdS cx st fr (.tmp t) = some (v, fr1)) : v = .lp u o := by
  cases st with
  | false =>
    simp only [rdS, cond_false] at h
    cases hr : rd cx fr (.tmp t) with
    | none => rw [hr] at h; simp at h
    | some w => rw [hr] at h; simp at h; rw [← h.1]; exact rd_lp hg hr
  | true =>
    simp only [rdS, cond_true, hg] at h
    exact (Prod.mk.inj (Option.some.inj h)).1.symm

theorem rdsS_lp {cx : Cx} {st : Bool} {u o t : Nat} : ∀ {os : List Operand} {fr fr1 : Fr} {as : List AV}, rdsS cx st fr os = some (as, fr1) → Operand.tmp t ∈ os → get fr t = some (.lp u o) → AV.lp u o ∈ as
  | [], _, _, _, _, h, _ => by simp at h
  | p :: r, fr, fr1, _, h, ho, hg => by
    simp only [rdsS] at h
    split at h
    · rename_i v fr2 h1
      split at h
      · rename_i us fr3 h2
        obtain ⟨rfl, rfl⟩ := Prod.mk.inj (Option.some.inj h)
        rcases List.mem_cons.1 ho with rfl | ho
        · rw [rdS_lp hg h1]; simp
        · obtain ⟨ds, rfl, _⟩ := rdS_loc h1
          refine List.mem_cons_of_mem _ (rdsS_lp h2 ho ?_)
          rw [get_disL, hg]; split <;> rfl
      · simp at h
    · simp at h

/-- An operation takes no junk, and a pointer into a variable only where its foot says so. -/
def Takes (fr : Fr) (op : Op) (ft : Foot) : Prop :=
  ∀ t ∈ tmpsOf op.operands.toList, ∃ a, get fr t = some a ∧ a ≠ .junk ∧ ∀ u o, a = .lp u o → ft.touches u = true

theorem rd_some {cx : Cx} {fr : Fr} {t : Nat} {v : AV} (h : rd cx fr (.tmp t) = some v) : ∃ a, get fr t = some a ∧ a ≠ .junk ∧ ∀ u o, a = .lp u o → v = .lp u o := by
  cases hg : get fr t with
  | none => simp [rd, hg] at h
  | some a =>
    refine ⟨a, rfl, ?_, ?_⟩
    · rintro rfl; simp [rd, hg] at h
    · rintro u o rfl; exact rd_lp hg h

theorem rdS_some {cx : Cx} {st : Bool} {fr fr1 : Fr} {t : Nat} {v : AV} (h : rdS cx st fr (.tmp t) = some (v, fr1)) : ∃ a, get fr t = some a ∧ a ≠ .junk ∧ ∀ u o, a = .lp u o → v = .lp u o := by
  cases hg : get fr t with
  | none =>
    cases st <;> simp [rdS, rd, hg] at h
  | some a =>
    refine ⟨a, rfl, ?_, ?_⟩
    · rintro rfl; cases st <;> simp [rdS, rd, hg] at h
    · rintro u o rfl; exact rdS_lp hg h

theorem rdF_some {cx : Cx} {fx : List (Option Nat)} {st : Bool} {fr fr1 : Fr} {t : Nat} {v : AV} (h : rdF cx fx st fr (.tmp t) = some (v, fr1)) : ∃ a, get fr t = some a ∧ a ≠ .junk ∧ ∀ u o, a = .lp u o → v = .lp u o := by
  unfold rdF at h
  split at h
  · rename_i u fr2 h1
    obtain ⟨rfl, rfl⟩ := Prod.mk.inj (Option.some.inj h)
    obtain ⟨a, h2, h3, h4⟩ := rdS_some h1
    exact ⟨a, h2, h3, fun u' o ha => by rw [h4 u' o ha, fixA_lp]⟩
  · simp at h

theorem fixArgs_mem {P : Program} {u o : Nat} : ∀ {ts : List TypeId} {as : List AV}, AV.lp u o ∈ as → AV.lp u o ∈ fixArgs P ts as
  | [], _, h => h
  | t :: ts, [], h => by simp at h
  | t :: ts, a :: as, h => by
    rcases List.mem_cons.1 h with rfl | h
    · simp [fixArgs, fixA_lp]
    · exact List.mem_cons_of_mem _ (fixArgs_mem h)

theorem rdsF_get {cx : Cx} {fr : Fr} {ts : List TypeId} {os : List Operand} {as : List AV} {o : Operand} (h : rdsF cx fr ts os = some as) (ho : o ∈ os) : ∃ a, rd cx fr o = some a ∧ ∀ u k, a = .lp u k → AV.lp u k ∈ as := by
  unfold rdsF at h
  split at h
  · rename_i us h1
    obtain rfl := Option.some.inj h
    obtain ⟨a, h2, h3⟩ := rds_get h1 ho
    exact ⟨a, h3, fun u k ha => fixArgs_mem (ha ▸ h2)⟩
  · simp at h

theorem takes1 {cx : Cx} {fr : Fr} {op : Op} {ft : Foot} (h : ∀ t, Operand.tmp t ∈ op.operands.toList → ∃ v, rd cx fr (.tmp t) = some v ∧ ∀ u o, v = .lp u o → ft.touches u = true) : Takes fr op ft := fun t ht => by
  rw [mem_tmpsOf] at ht
  obtain ⟨v, h1, h2⟩ := h t ht
  obtain ⟨a, h3, h4, h5⟩ := rd_some h1
  exact ⟨a, h3, h4, fun u o ha => h2 u o (h5 u o ha)⟩

theorem toDs_not {as : List AV} {ds : List DV} (h : toDV1s as = some ds) : ∀ a ∈ as, ∀ u o, a ≠ .lp u o := by
  induction as generalizing ds with
  | nil => simp
  | cons b as ih =>
    simp only [toDV1s] at h
    split at h
    · rename_i x xs h1 h2
      intro a ha u o
      rcases List.mem_cons.1 ha with rfl | ha
      · rintro rfl; simp [toDV1, toD0] at h1
      · exact ih h2 a ha u o
    · simp at h

theorem fillA_plain {place : Nat → Option (Nat × Nat)} : ∀ {is : List Nat} {as cells out : List AV}, is.length = as.length → fillA place cells (is.zip as) = some out → ∀ a ∈ as, plain a = true
  | [], [], _, _, _, _ => by simp
  | i :: is, b :: as, cells, out, hl, h => by
    simp only [List.zip_cons_cons, fillA] at h
    split at h
    · simp at h
    · split at h
      · rename_i hc
        intro a ha
        rcases List.mem_cons.1 ha with rfl | ha
        · exact hc.2.2
        · exact fillA_plain (by simpa using hl) h a ha
      · simp at h
  | [], _ :: _, _, _, hl, _ => by simp at hl
  | _ :: _, [], _, _, hl, _ => by simp at hl

theorem dparts_not {is : List Nat} : ∀ {as : List AV} {ps : List (Nat × DV)}, is.length = as.length → dparts (is.zip as) = some ps → ∀ a ∈ as, ∀ u o, a ≠ .lp u o := by
  induction is with
  | nil => intro as ps hl _; cases as <;> simp at hl ⊢
  | cons i is ih =>
    intro as ps hl h
    cases as with
    | nil => simp
    | cons b as =>
      simp only [List.zip_cons_cons, dparts] at h
      split at h
      · rename_i x xs h1 h2
        intro a ha u o
        rcases List.mem_cons.1 ha with rfl | ha
        · rintro rfl; simp [toDV1, toD0] at h1
        · exact ih (by simpa using hl) h2 a ha u o
      · simp at h

theorem rds_length {cx : Cx} {fr : Fr} : ∀ {os : List Operand} {as : List AV}, rds cx fr os = some as → os.length = as.length
  | [], _, h => by simp [rds] at h; subst h; rfl
  | o :: r, _, h => by
    simp only [rds] at h
    split at h
    · rename_i a as h1 h2
      obtain rfl := Option.some.inj h
      simp [rds_length h2]
    · simp at h

theorem rdsS_length {cx : Cx} {st : Bool} : ∀ {os : List Operand} {fr fr1 : Fr} {as : List AV}, rdsS cx st fr os = some (as, fr1) → os.length = as.length
  | [], _, _, _, h => by simp [rdsS] at h; simp [h.1]
  | o :: r, fr, fr1, _, h => by
    simp only [rdsS] at h
    split at h
    · split at h
      · rename_i h2
        obtain ⟨rfl, rfl⟩ := Prod.mk.inj (Option.some.inj h)
        simp [rdsS_length h2]
      · simp at h
    · simp at h

theorem rdsS_get {cx : Cx} {st : Bool} {t : Nat} : ∀ {os : List Operand} {fr fr1 : Fr} {as : List AV}, rdsS cx st fr os = some (as, fr1) → Operand.tmp t ∈ os → ∃ a, get fr t = some a ∧ a ≠ .junk ∧ ∀ u o, a = .lp u o → AV.lp u o ∈ as
  | [], _, _, _, _, h => by simp at h
  | p :: r, fr, fr1, _, h, ho => by
    have h0 := h
    simp only [rdsS] at h
    split at h
    · rename_i v fr2 h1
      split at h
      · rename_i us fr3 h2
        obtain ⟨rfl, rfl⟩ := Prod.mk.inj (Option.some.inj h)
        rcases List.mem_cons.1 ho with rfl | ho
        · obtain ⟨a, h3, h4, h5⟩ := rdS_some h1
          exact ⟨a, h3, h4, fun u o ha => by rw [h5 u o ha]; simp⟩
        · obtain ⟨ds, rfl, _⟩ := rdS_loc h1
          obtain ⟨a, h3, h4, h5⟩ := rdsS_get h2 ho
          rw [get_disL] at h3
          cases hg : get fr t with
          | none => rw [hg] at h3; simp at h3
          | some b =>
            rw [hg] at h3
            refine ⟨b, rfl, ?_, ?_⟩
            · rintro rfl
              split at h3 <;> (simp [dup, dupC] at h3; exact h4 h3.symm)
            · rintro u o rfl
              refine List.mem_cons_of_mem _ (h5 u o ?_)
              split at h3 <;> (simp [dup, dupC] at h3; exact h3.symm)
      · simp at h
    · simp at h


theorem ftOf_lp (u o : Nat) : (ftOf (.lp u o)).touches u = true := by simp [ftOf, Foot.touches]

theorem lp_not_plain {u o : Nat} : plain (.lp u o) = false := rfl

/-- Two reads. -/
theorem takes_of {fr : Fr} {op : Op} {ft : Foot} (h : ∀ t, Operand.tmp t ∈ op.operands.toList → ∃ a, get fr t = some a ∧ a ≠ .junk ∧ ∀ u o, a = .lp u o → ft.touches u = true) : Takes fr op ft := fun t ht => h t (mem_tmpsOf.1 ht)

theorem foldD_not {f : DV → DV → Option DV} : ∀ {r : List AV} {x z : DV}, foldD f x r = some z → ∀ u o, AV.lp u o ∉ r
  | [], _, _, _, u, o => by simp
  | .d y :: r, x, z, h, u, o => by
    simp only [foldD] at h
    split at h
    · have := foldD_not h u o
      simp [this]
    · simp at h
  | .osl _ _ :: _, _, _, h, _, _ => by simp [foldD] at h
  | .agg _ :: _, _, _, h, _, _ => by simp [foldD] at h
  | .tup _ :: _, _, _, h, _, _ => by simp [foldD] at h
  | .box _ :: _, _, _, h, _, _ => by simp [foldD] at h
  | .lp _ _ :: _, _, _, h, _, _ => by simp [foldD] at h
  | .hp _ _ :: _, _, _, h, _, _ => by simp [foldD] at h
  | .vp _ :: _, _, _, h, _, _ => by simp [foldD] at h
  | .fn _ :: _, _, _, h, _, _ => by simp [foldD] at h
  | .nilp :: _, _, _, h, _, _ => by simp [foldD] at h
  | .nilf :: _, _, _, h, _, _ => by simp [foldD] at h
  | .undef :: _, _, _, h, _, _ => by simp [foldD] at h
  | .junk :: _, _, _, h, _, _ => by simp [foldD] at h

theorem lenA_not {P : Program} {t : TypeId} {x : AV} {z : DV} (h : lenA P t x = some z) (u o : Nat) : x ≠ .lp u o := by
  rintro rfl
  unfold lenA at h
  split at h <;> simp_all

theorem builtinA_not {P : Program} {b : Builtin} {ts : List TypeId} {as : List AV} {v : AV} (h : builtinA P b ts as = some v) (u o : Nat) : AV.lp u o ∉ as := by
  unfold builtinA at h
  split at h
  · rename_i t ts x
    cases hl : lenA P t x with
    | none => rw [hl] at h; simp at h
    | some z =>
      have := lenA_not hl u o
      simp [Ne.symm this]
  · rename_i x r
    cases hl : foldD min2D x r with
    | none => rw [hl] at h; simp at h
    | some z => simp [foldD_not hl u o]
  · rename_i x r
    cases hl : foldD max2D x r with
    | none => rw [hl] at h; simp at h
    | some z => simp [foldD_not hl u o]
  · simp at h

theorem aop_takes {cx : Cx} {st hf : Bool} {op : Op} {fr : Fr} {H : Hp} {R : AI.R} (h : aop cx st hf fr H op = some R) : Takes fr op R.ft := by
  have via : ∀ {t : Nat} {x : Operand} {v : AV}, Operand.tmp t = x → rd cx fr x = some v → (∀ u o, v = .lp u o → R.ft.touches u = true) → ∃ a, get fr t = some a ∧ a ≠ .junk ∧ ∀ u o, a = .lp u o → R.ft.touches u = true := by
    rintro t x v rfl h1 h2
    obtain ⟨a, h3, h4, h5⟩ := rd_some h1
    exact ⟨a, h3, h4, fun u o ha => h2 u o (h5 u o ha)⟩
  have viaS : ∀ {t : Nat} {x : Operand} {v : AV} {fr1 : Fr}, Operand.tmp t = x → rdS cx st fr x = some (v, fr1) → (∀ u o, v = .lp u o → R.ft.touches u = true) → ∃ a, get fr t = some a ∧ a ≠ .junk ∧ ∀ u o, a = .lp u o → R.ft.touches u = true := by
    rintro t x v fr1 rfl h1 h2
    obtain ⟨a, h3, h4, h5⟩ := rdS_some h1
    exact ⟨a, h3, h4, fun u o ha => h2 u o (h5 u o ha)⟩
  have viaF : ∀ {t : Nat} {x : Operand} {v : AV} {fr1 : Fr} {fx : List (Option Nat)}, Operand.tmp t = x → rdF cx fx st fr x = some (v, fr1) → (∀ u o, v = .lp u o → R.ft.touches u = true) → ∃ a, get fr t = some a ∧ a ≠ .junk ∧ ∀ u o, a = .lp u o → R.ft.touches u = true := by
    rintro t x v fr1 fx rfl h1 h2
    obtain ⟨a, h3, h4, h5⟩ := rdF_some h1
    exact ⟨a, h3, h4, fun u o ha => h2 u o (h5 u o ha)⟩
  cases op with
  | move x =>
    refine takes_of fun t ht => ?_
    simp only [aop] at h
    split at h
    · rename_i v fr1 h1
      obtain rfl := Option.some.inj h
      exact viaS (by simpa [Op.operands] using ht) h1 fun u o hv => by rw [hv]; exact ftOf_lp u o
    · simp at h
  | assign x =>
    refine takes_of fun t ht => ?_
    simp only [aop] at h
    split at h
    · rename_i v fr1 h1
      obtain rfl := Option.some.inj h
      exact viaS (by simpa [Op.operands] using ht) h1 fun u o hv => by rw [hv]; exact ftOf_lp u o
    · simp at h
  | pick c x y =>
    refine takes_of fun t ht => ?_
    simp only [aop] at h
    split at h
    · rename_i b h1
      split at h
      · rename_i x' y' hx hy
        cases hpk : (pickB x' && pickB y') with
        | false => rw [hpk] at h; simp at h
        | true =>
          simp only [Bool.and_eq_true] at hpk
          simp [Op.operands] at ht
          rcases ht with ht | ht | ht
          · exact via ht h1 (by simp)
          · exact via ht hx (by rintro u o rfl; simp [pickB] at hpk)
          · exact via ht hy (by rintro u o rfl; simp [pickB] at hpk)
      · simp at h
    · simp at h
  | alloc el => exact takes_of fun t ht => by simp [Op.operands] at ht
  | box el x =>
    refine takes_of fun t ht => ?_
    simp only [aop] at h
    split at h
    · rename_i v fr1 h1
      split at h
      · rename_i hp
        exact viaF (by simpa [Op.operands] using ht) h1 (by rintro u o rfl; simp [lp_not_plain] at hp)
      · simp at h
    · simp at h
  | build t ps =>
    refine takes_of fun t' ht => ?_
    simp only [aop] at h
    split at h
    · rename_i as fr1 h1
      obtain ⟨u, h5, rfl⟩ := pureR_some h
      have hlen := rdsS_length h1
      obtain ⟨a, h2, h3, h4⟩ := rdsS_get h1 (t := t') (by simpa [Op.operands] using ht)
      refine ⟨a, h2, h3, fun u' o ha => ?_⟩
      have hm := h4 u' o ha
      have hpl : ∀ a ∈ as, plain a = true := by
        have hl : (ps.toList.map (·.1)).length = as.length := by rw [← hlen]; simp
        unfold buildA at h5
        split at h5
        · split at h5
          · cases hf' : fillA _ _ ((ps.toList.map (·.1)).zip as) with
            | none => rw [hf'] at h5; simp at h5
            | some out => exact fillA_plain hl hf'
          · simp at h5
        · rename_i el _ _
          cases hok : tyOK cx.P el with
          | false => rw [hok] at h5; simp at h5
          | true =>
            rw [hok, cond_true] at h5
            cases hf' : fillA _ _ ((ps.toList.map (·.1)).zip as) with
            | none => rw [hf'] at h5; simp at h5
            | some out => exact fillA_plain hl hf'
        · simp at h5
      have := hpl _ hm
      simp [lp_not_plain] at this
    · simp at h
  | buildSlice t n ps =>
    refine takes_of fun t' ht => ?_
    simp only [aop] at h
    split at h
    · rename_i as h1
      obtain ⟨u, h5, rfl⟩ := pureR_some h
      have hlen := rds_length h1
      obtain ⟨v, hm, h2⟩ := rds_get h1 (o := .tmp t') (by simpa [Op.operands] using ht)
      refine via rfl h2 fun u' o hv => ?_
      subst hv
      unfold buildSliceA at h5
      split at h5
      · split at h5
        · rename_i hz hd
          exact absurd rfl (dparts_not (by rw [← hlen]; simp) hd _ hm u' o)
        · simp at h5
      · simp at h5
    · simp at h
  | load t ad =>
    refine takes_of fun t' ht => ?_
    have ht' : Operand.tmp t' = ad := by simpa [Op.operands] using ht
    simp only [aop] at h
    split at h
    · rename_i x h1
      exact via ht' h1 (by simp)
    · rename_i u off h1
      refine via ht' h1 fun u' o hv => ?_
      obtain ⟨rfl, rfl⟩ : u = u' ∧ off = o := by injection hv with h1 h2; exact ⟨h1, h2⟩
      split at h
      · split at h
        · cases st with
          | true => rw [cond_true] at h; obtain rfl := Option.some.inj h; simp [Foot.touches]
          | false => rw [cond_false] at h; obtain rfl := Option.some.inj h; simp [Foot.touches]
        · simp at h
      · simp at h
    · rename_i b off h1
      exact via ht' h1 (by simp)
    · simp at h
  | store t ad x =>
    refine takes_of fun t' ht => ?_
    have ht' : Operand.tmp t' = ad ∨ Operand.tmp t' = x := by simpa [Op.operands] using ht
    simp only [aop] at h
    split at h
    · rename_i u off v fr1 h1 h2
      split at h
      · split at h
        · rename_i cs' hst
          obtain rfl := Option.some.inj h
          rcases ht' with ht' | ht'
          · refine via ht' h1 fun u' o hv => ?_
            obtain ⟨rfl, rfl⟩ : u = u' ∧ off = o := by injection hv with h1 h2; exact ⟨h1, h2⟩
            simp [Foot.touches]
          · refine viaF ht' h2 fun u' o hv => ?_
            subst hv
            unfold storeA at hst
            split at hst
            · rename_i hc; have := hc.2.2.2; simp [lp_not_plain] at this
            · simp at hst
        · simp at h
      · simp at h
    · rename_i b off v fr1 h1 h2
      split at h
      · split at h
        · rename_i cs' hst
          obtain rfl := Option.some.inj h
          rcases ht' with ht' | ht'
          · exact via ht' h1 (by simp)
          · refine viaF ht' h2 fun u' o hv => ?_
            subst hv
            replace hst := (storeH_some hst).2
            unfold storeA at hst
            split at hst
            · rename_i hc; have := hc.2.2.2; simp [lp_not_plain] at this
            · simp at hst
        · simp at h
      · simp at h
    · simp at h
  | nilCheck x =>
    refine takes_of fun t' ht => ?_
    have ht' : Operand.tmp t' = x := by simpa [Op.operands] using ht
    simp only [aop] at h
    split at h
    · rename_i h1; exact via ht' h1 (by simp)
    · rename_i b o h1
      obtain rfl := Option.some.inj h
      refine via ht' h1 fun u' o' hv => ?_
      obtain ⟨rfl, rfl⟩ : b = u' ∧ o = o' := by injection hv with h1 h2; exact ⟨h1, h2⟩
      simp [Foot.touches]
    · rename_i h1; exact via ht' h1 (by simp)
    · simp at h
  | binOp op t x y yt =>
    refine takes_of fun t' ht => ?_
    have ht' : Operand.tmp t' = x ∨ Operand.tmp t' = y := by simpa [Op.operands] using ht
    simp only [aop] at h
    split at h
    · rename_i p q h1 h2
      rcases ht' with ht' | ht'
      · exact via ht' h1 (by simp)
      · exact via ht' h2 (by simp)
    · simp at h
  | unOp op t x =>
    refine takes_of fun t' ht => ?_
    have ht' : Operand.tmp t' = x := by simpa [Op.operands] using ht
    simp only [aop] at h
    split at h
    · rename_i p h1; exact via ht' h1 (by simp)
    · simp at h
  | convert s t x =>
    refine takes_of fun t' ht => ?_
    have ht' : Operand.tmp t' = x := by simpa [Op.operands] using ht
    simp only [aop] at h
    split at h
    · rename_i p h1
      obtain ⟨u, h5, rfl⟩ := pureR_some h
      refine via ht' h1 fun u' o hv => ?_
      subst hv
      unfold convA at h5
      split at h5 <;> (try (simp at h5; done)) <;> split at h5 <;> simp_all [elems]
    · simp at h
  | makeSlice t l c =>
    refine takes_of fun t' ht => ?_
    have ht' : Operand.tmp t' = l ∨ Operand.tmp t' = c := by simpa [Op.operands] using ht
    simp only [aop] at h
    split at h
    · rename_i p q h1 h2
      obtain ⟨u, h5, rfl⟩ := pureR_some h
      unfold makeSliceA at h5
      split at h5
      · rcases ht' with ht' | ht'
        · exact via ht' h1 (by simp)
        · exact via ht' h2 (by simp)
      · simp at h5
    · simp at h
  | slice t x lo hi mx =>
    refine takes_of fun t' ht => ?_
    have ht' : Operand.tmp t' = x ∨ lo = some (.tmp t') ∨ hi = some (.tmp t') ∨ mx = some (.tmp t') := by
      simpa [Op.operands] using ht
    simp only [aop] at h
    split at h
    · rename_i v h1
      split at h
      · rename_i l hh m h2 h3 h4
        obtain ⟨u, h5, rfl⟩ := pureR_some h
        have one : ∀ {oo : Option Operand} {ll : List AV}, oo = some (.tmp t') → rds cx fr oo.toList = some ll → (∀ u o, ll.head? ≠ some (.lp u o)) → ∃ a, get fr t' = some a ∧ a ≠ .junk ∧ ∀ u' o, a = .lp u' o → (ftOf u).touches u' = true := by
          rintro oo ll rfl hr hn
          obtain ⟨w, hw, h6⟩ := rds_get hr (o := .tmp t') (by simp)
          have hll : ll.head? = some w := by
            have hl := rds_length hr
            cases ll with
            | nil => simp at hw
            | cons a r =>
              have : r = [] := by
                cases r with
                | nil => rfl
                | cons b r => exact absurd (show (1 : Nat) = r.length + 1 + 1 from hl) (by omega)
              subst this
              simp at hw; simp [hw]
          exact via rfl h6 fun u' o hv => absurd (by rw [hll, hv]) (hn u' o)
        have hb : ∀ {oo : Option AV} {d i : Int}, bound oo d = some i → ∀ u o, oo ≠ some (.lp u o) := by
          rintro oo d i hb u o rfl; simp [bound] at hb
        unfold sliceA at h5
        split at h5
        · split at h5
          · rename_i hm0
            split at h5
            · rename_i hlo hhi
              rcases ht' with ht' | ht' | ht' | ht'
              · exact via ht' h1 (by simp)
              · exact one ht' h2 (hb hlo)
              · exact one ht' h3 (hb hhi)
              · exact one ht' h4 (by intro u o hh; rw [hm0] at hh; simp at hh)
            · simp at h5
          · simp at h5
        · split at h5
          · rename_i sz xs hel
            split at h5
            · rename_i hlo hhi
              rcases ht' with ht' | ht' | ht' | ht'
              · exact via ht' h1 (by rintro u o rfl; simp [elems] at hel)
              · exact one ht' h2 (hb hlo)
              · exact one ht' h3 (hb hhi)
              · refine one ht' h4 ?_
                intro u o hh
                rw [hh] at h5
                split at h5 <;> simp at h5
            · simp at h5
          · simp at h5
        · simp at h5
      · simp at h
    · simp at h
  | fieldAddr t x i =>
    refine takes_of fun t' ht => ?_
    have ht' : Operand.tmp t' = x := by simpa [Op.operands] using ht
    simp only [aop] at h
    split at h
    · rename_i v h1
      obtain ⟨u, h5, rfl⟩ := pureR_some h
      refine via ht' h1 fun u' o hv => ?_
      subst hv
      unfold fieldAddrA at h5
      split at h5
      · split at h5
        · simp at h5; subst h5; simp [ftOf, Foot.touches]
        · simp at h5
      · simp at h5
    · simp at h
  | field t x i =>
    refine takes_of fun t' ht => ?_
    have ht' : Operand.tmp t' = x := by simpa [Op.operands] using ht
    simp only [aop] at h
    split at h
    · rename_i v h1
      obtain ⟨u, h5, rfl⟩ := pureR_some h
      refine via ht' h1 fun u' o hv => ?_
      subst hv
      unfold fieldA at h5
      split at h5 <;> simp at *
    · simp at h
  | indexAddr t x i =>
    refine takes_of fun t' ht => ?_
    have ht' : Operand.tmp t' = x ∨ Operand.tmp t' = i := by simpa [Op.operands] using ht
    simp only [aop] at h
    split at h
    · rename_i v ix h1 h2
      obtain ⟨u, h5, rfl⟩ := pureR_some h
      unfold indexAddrA at h5
      split at h5
      · rcases ht' with ht' | ht'
        · refine via ht' h1 fun u' o hv => ?_
          subst hv
          split at h5
          · simp [elems] at h5
          · split at h5
            · simp at h5; subst h5; simp [ftOf, Foot.touches]
            · simp at h5
          · simp at h5
        · exact via ht' h2 (by simp)
      · simp at h5
    · simp at h
  | index t x i =>
    refine takes_of fun t' ht => ?_
    have ht' : Operand.tmp t' = x ∨ Operand.tmp t' = i := by simpa [Op.operands] using ht
    simp only [aop] at h
    split at h
    · rename_i v ix h1 h2
      obtain ⟨u, h5, rfl⟩ := pureR_some h
      unfold indexA at h5
      split at h5
      · split at h5
        · rcases ht' with ht' | ht'
          · exact via ht' h1 (by simp)
          · exact via ht' h2 (by simp)
        · rcases ht' with ht' | ht'
          · exact via ht' h1 (by simp)
          · exact via ht' h2 (by simp)
        · simp at h5
      · simp at h5
    · simp at h
  | makeMap t r =>
    refine takes_of fun t' ht => ?_
    simp only [aop] at h
    split at h
    · simp [Op.operands] at ht
    · simp at h
  | lookup t x k ck =>
    refine takes_of fun t' ht => ?_
    have ht' : Operand.tmp t' = x ∨ Operand.tmp t' = k := by simpa [Op.operands] using ht
    simp only [aop] at h
    split at h
    · rename_i b k' h1 h2
      rcases ht' with ht' | ht'
      · exact via ht' h1 (by simp)
      · exact via ht' h2 (by simp)
    · simp at h
  | mapUpdate t x k v =>
    refine takes_of fun t' ht => ?_
    have ht' : Operand.tmp t' = x ∨ Operand.tmp t' = k ∨ Operand.tmp t' = v := by simpa [Op.operands] using ht
    simp only [aop] at h
    split at h
    · rename_i b k' v' h1 h2 h3
      split at h
      · split at h
        · rename_i hc
          rcases ht' with ht' | ht' | ht'
          · exact via ht' h1 (by simp)
          · exact via ht' h2 (by simp)
          · exact via ht' h3 (by rintro u o rfl; simp [lp_not_plain] at hc)
        · simp at h
      · simp at h
    · simp at h
  | extract x i =>
    refine takes_of fun t' ht => ?_
    have ht' : Operand.tmp t' = x := by simpa [Op.operands] using ht
    simp only [aop] at h
    split at h
    · rename_i p h1; exact via ht' h1 (by simp)
    · simp at h
  | call c =>
    obtain ⟨callee, args, argTypes⟩ := c
    refine takes_of fun t' ht => ?_
    simp only [aop] at h
    split at h
    · split at h
      · rename_i s x t u' hargs htys
        have ht' : Operand.tmp t' = s ∨ Operand.tmp t' = x := by simpa [Op.operands, Call.operands, hargs] using ht
        split at h
        · rename_i s' fr1 x' h1 h2
          obtain ⟨u, h6, rfl⟩ := pureR_some h
          unfold appendA at h6
          simp only at h6
          split at h6
          · unfold appendZ at h6
            split at h6
            · rcases ht' with ht' | ht'
              · exact viaS ht' h1 (by simp)
              · exact via ht' h2 (by simp)
            · simp at h6
          · simp at h6
          · unfold appendS at h6
            split at h6
            · split at h6
              · split at h6
                · rename_i sz2 ys hap
                  rcases ht' with ht' | ht'
                  · exact viaS ht' h1 (by simp)
                  · refine via ht' h2 fun u'' o hv => ?_
                    subst hv
                    simp only [appended] at hap
                    split at hap
                    · simp [elems] at hap
                    · split at hap <;> simp at *
                · simp at h6
              · simp at h6
            · simp at h6
        · simp at h
      · simp at h
    · rename_i b hnb
      split at h
      · rename_i as h1
        obtain ⟨u, h6, rfl⟩ := pureR_some h
        obtain ⟨v, hm, h2⟩ := rds_get h1 (o := .tmp t') (by simpa [Op.operands, Call.operands] using ht)
        refine via rfl h2 fun u' o hv => ?_
        subst hv
        exact absurd hm (builtinA_not h6 u' o)
      · simp at h
    · rename_i f
      split at h
      · rename_i g as h1 h2
        split at h
        · rename_i v H' ft hca
          obtain rfl := Option.some.inj h
          have ht' : Operand.tmp t' = f ∨ Operand.tmp t' ∈ args := by simpa [Op.operands, Call.operands] using ht
          rcases ht' with ht' | ht'
          · exact via ht' h1 (by simp)
          · obtain ⟨w, h3, hm⟩ := rdsF_get h2 (o := .tmp t') (by simpa using ht')
            refine via rfl h3 fun u' o hv => ?_
            have hm := hm u' o hv
            unfold callA at hca
            cases hiso : cx.iso g with
            | true =>
              rw [hiso, cond_true] at hca
              split at hca
              · rename_i ds hds
                exact absurd rfl (toDs_not hds _ hm u' o)
              · simp at hca
            | false =>
              rw [hiso, cond_false] at hca
              split at hca
              · rename_i hpl
                have := (List.all_eq_true.1 hpl) _ hm
                simp [lp_not_plain] at this
              · simp at hca
        · simp at h
      · simp at h
    · simp at h
  | _ => simp [aop] at h

theorem aop_boxed {cx : Cx} {st hf : Bool} {op : Op} {fr : Fr} {H : Hp} {R : AI.R} (h : aop cx st hf fr H op = some R) {u lo n : Nat} (hx : R.ft = .rL u lo n ∨ R.ft = .wL u lo n) : ∃ c, get fr u = some (.box c) := by
  have no : ∀ v, ¬ (ftOf v = .rL u lo n ∨ ftOf v = .wL u lo n) := fun v => by cases v <;> simp [ftOf]
  have pr : ∀ {v : Option AV} {fr' H'}, pureR v fr' H' = some R → False := fun hp => by
    obtain ⟨v, _, rfl⟩ := pureR_some hp
    exact no _ hx
  cases op with
  | load t ad =>
    simp only [aop] at h
    split at h
    · split at h
      · obtain rfl := Option.some.inj h; simp at hx
      · simp at h
    · rename_i u' off h1
      split at h
      · rename_i cs h2
        split at h
        · cases st with
          | true => rw [cond_true] at h; obtain rfl := Option.some.inj h; simp at hx; rw [← hx.1]; exact ⟨_, h2⟩
          | false => rw [cond_false] at h; obtain rfl := Option.some.inj h; simp at hx; rw [← hx.1]; exact ⟨_, h2⟩
        · simp at h
      · simp at h
    · split at h
      · split at h
        · cases st with
          | true => rw [cond_true] at h; obtain rfl := Option.some.inj h; simp at hx
          | false => rw [cond_false] at h; obtain rfl := Option.some.inj h; simp at hx
        · simp at h
      · simp at h
    · simp at h
  | store t ad x =>
    simp only [aop] at h
    split at h
    · rename_i u' off v fr1 h1 h2
      split at h
      · rename_i cs h3
        split at h
        · obtain rfl := Option.some.inj h
          simp at hx
          rw [← hx.1]
          obtain ⟨ds, rfl, _⟩ := rdF_loc h2
          exact ⟨_, get_disL_box.1 h3⟩
        · simp at h
      · simp at h
    · split at h
      · split at h
        · obtain rfl := Option.some.inj h; simp at hx
        · simp at h
      · simp at h
    · simp at h
  | move x =>
    simp only [aop] at h
    split at h
    · obtain rfl := Option.some.inj h; exact absurd hx (no _)
    · simp at h
  | assign x =>
    simp only [aop] at h
    split at h
    · obtain rfl := Option.some.inj h; exact absurd hx (no _)
    · simp at h
  | nilCheck x =>
    simp only [aop] at h
    split at h <;> first | (obtain rfl := Option.some.inj h; simp at hx) | simp at h
  | alloc el =>
    simp only [aop] at h
    split at h
    · rename_i cs hz
      cases hf with
      | true =>
        rw [cond_true] at h
        cases hd : headB cs with
        | true => rw [hd] at h; cases h
        | false => rw [hd, cond_false] at h; obtain rfl := Option.some.inj h; simp at hx
      | false => rw [cond_false] at h; obtain rfl := Option.some.inj h; simp at hx
    · simp at h
  | box el x =>
    simp only [aop] at h
    split at h
    · split at h
      · cases hf with
        | true => rw [cond_true] at h; obtain rfl := Option.some.inj h; simp at hx
        | false => rw [cond_false] at h; obtain rfl := Option.some.inj h; simp at hx
      · simp at h
    · simp at h
  | call c =>
    obtain ⟨callee, args, argTypes⟩ := c
    simp only [aop] at h
    split at h
    · split at h
      · split at h
        · exact (pr h).elim
        · simp at h
      · simp at h
    · split at h
      · exact (pr h).elim
      · simp at h
    · split at h
      · rename_i g as _ _
        split at h
        · rename_i v H' ft hca
          obtain rfl := Option.some.inj h
          unfold callA at hca
          cases hiso : cx.iso g with
          | true =>
            rw [hiso, cond_true] at hca
            split at hca
            · split at hca
              · split at hca
                · simp at hca; obtain ⟨_, _, rfl⟩ := hca; simp at hx
                · simp at hca
              · simp at hca
            · simp at hca
          | false =>
            rw [hiso, cond_false] at hca
            split at hca
            · split at hca
              · simp at hca; obtain ⟨_, _, rfl⟩ := hca; simp at hx
              · simp at hca
            · simp at hca
        · simp at h
      · simp at h
    · simp at h
  | makeMap t r =>
    simp only [aop] at h
    split at h
    · obtain rfl := Option.some.inj h; simp at hx
    · simp at h
  | lookup t x k ck =>
    simp only [aop] at h
    split at h
    · split at h
      · split at h
        · obtain rfl := Option.some.inj h; simp at hx
        · simp at h
      · simp at h
    · simp at h
  | mapUpdate t x k v =>
    simp only [aop] at h
    split at h
    · split at h
      · split at h
        · obtain rfl := Option.some.inj h; simp at hx
        · simp at h
      · simp at h
    · simp at h
  | pick c x y =>
    simp only [aop] at h
    split at h
    · split at h
      · rename_i x' y' hx hy
        cases hpk : (pickB x' && pickB y') with
        | false => rw [hpk] at h; simp at h
        | true => rw [hpk, cond_true] at h; exact (pr h).elim
      · simp at h
    · simp at h
  | slice t x lo hi mx =>
    simp only [aop] at h
    split at h
    · split at h
      · exact (pr h).elim
      · simp at h
    · simp at h
  | _ =>
    simp only [aop] at h
    first
      | exact (pr h).elim
      | (simp at h; done)
      | (split at h <;> first | exact (pr h).elim | (simp at h; done))
      | skip

end Go.AI

/- Two steps that are apart may be taken in either order. -/
namespace Go.AI
set_option linter.unusedVariables false
set_option linter.unusedSimpArgs false

/-- What an effect does to what a slot holds. -/
def boxAtD (bx : Option (Nat × Nat × List AV)) (t : Nat) (a : AV) : AV :=
  match bx, a with
  | some (u, lo, cs), .box b => if t = u then .box (setRange b lo cs) else .box b
  | _, a => a

def effAt (e : Eff) (t : Nat) (a : AV) : AV := boxAtD e.bx t (if t ∈ e.ds then dup a else a)

theorem boxAtD_nb {bx : Option (Nat × Nat × List AV)} {t : Nat} {a : AV} (h : ∀ c, a ≠ .box c) : boxAtD bx t a = a := by
  unfold boxAtD
  split
  · rename_i b; exact absurd rfl (h b)
  · rfl

theorem get_boxApp (bx : Option (Nat × Nat × List AV)) (fr : Fr) (t : Nat) : get (boxApp bx fr) t = (get fr t).map (boxAtD bx t) := by
  cases bx with
  | none => simp [boxApp, boxAtD]; cases get fr t <;> rfl
  | some x =>
    obtain ⟨u, lo, cs⟩ := x
    simp only [boxApp]
    split
    · rename_i b hb
      rw [get_upd]
      split
      · rename_i he
        rw [he, hb]
        simp [boxAtD]
      · rename_i hne
        cases hg : get fr t with
        | none => rfl
        | some a => cases a <;> simp [boxAtD, hne]
    · rename_i hb
      cases hg : get fr t with
      | none => rfl
      | some a =>
        cases a <;> simp [boxAtD]
        rename_i c
        intro he
        rw [he] at hg
        exact absurd hg (hb c)

theorem get_app (e : Eff) (fr : Fr) (t : Nat) : get (e.app fr) t = (get fr t).map (effAt e t) := by
  unfold Eff.app
  rw [get_boxApp, get_disL]
  split
  · rename_i h; cases get fr t <;> simp [effAt, h]
  · rename_i h; cases get fr t <;> simp [effAt, h]

/-- What a step makes of what a slot holds that is not its destination. -/
theorem get_step {dst : Option Nat} {v : AV} {e : Eff} {fr : Fr} {t : Nat} (h : dst ≠ some t) :
    get (put dst v (e.app fr)) t = (get fr t).map (fun a => (match dst with | some d => kill d | none => id) (effAt e t a)) := by
  cases dst with
  | none => simp only [put]; rw [get_app]; rfl
  | some d =>
    rw [get_put, if_neg (fun he => h (by rw [he])), get_app]
    cases get fr t <;> rfl

theorem get_step_dst {d : Nat} {v : AV} {fr : Fr} : get (put (some d) v fr) d = some (kill d v) := by rw [get_put, if_pos rfl]

theorem effAt_lp {e : Eff} {t u o : Nat} : effAt e t (.lp u o) = .lp u o := by
  unfold effAt
  have : (if t ∈ e.ds then dup (.lp u o) else .lp u o) = AV.lp u o := by split <;> rfl
  rw [this]
  exact boxAtD_nb (by simp)

theorem effAt_junk {e : Eff} {t : Nat} : effAt e t .junk = .junk := by
  unfold effAt
  have : (if t ∈ e.ds then dup .junk else .junk) = AV.junk := by split <;> rfl
  rw [this]
  exact boxAtD_nb (by simp)

theorem dup_lp {a : AV} {u o : Nat} (h : dup a = .lp u o) : a = .lp u o := by
  cases a <;> simp [dup, dupC] at h ⊢
  · split at h <;> simp at h
  · exact h

theorem boxAtD_lp {bx : Option (Nat × Nat × List AV)} {t u o : Nat} {a : AV} (h : boxAtD bx t a = .lp u o) : a = .lp u o := by
  unfold boxAtD at h
  split at h
  · split at h <;> simp at h
  · exact h

theorem lp_of_effAt {e : Eff} {t u o : Nat} {a : AV} (h : effAt e t a = .lp u o) : a = .lp u o := by
  unfold effAt at h
  have := boxAtD_lp h
  split at this
  · exact dup_lp this
  · exact this

theorem isLp_effAt {e : Eff} {t d : Nat} {a : AV} : isLp d (effAt e t a) = isLp d a := by
  cases h : effAt e t a with
  | lp u o => rw [lp_of_effAt h]
  | _ =>
    cases a with
    | lp u o => rw [effAt_lp] at h; cases h
    | _ => rfl

theorem kill_effAt {e : Eff} {t d : Nat} {a : AV} : kill d (effAt e t a) = effAt e t (kill d a) := by
  unfold kill
  rw [isLp_effAt]
  cases isLp d a with
  | true => simp [effAt_junk]
  | false => simp

theorem kill_not {d : Nat} {a : AV} (h : ∀ o, a ≠ .lp d o) : kill d a = a := by
  unfold kill
  have : isLp d a = false := by
    cases a <;> simp [isLp]
    rename_i u o
    rintro rfl
    exact h o rfl
  rw [this, cond_false]

theorem kill_kill {d d' : Nat} {a : AV} : kill d (kill d' a) = kill d' (kill d a) := by
  have hj : ∀ x, isLp x .junk = false := fun _ => rfl
  unfold kill
  cases h1 : isLp d a <;> cases h2 : isLp d' a <;> simp [h1, h2, hj]

theorem kill_ne_junk {d : Nat} {a : AV} (h : kill d a ≠ .junk) : kill d a = a := by
  unfold kill at h ⊢
  cases hl : isLp d a with
  | true => rw [hl] at h; simp at h
  | false => rfl

theorem kill_lp {d u o : Nat} {a : AV} (h : kill d a = .lp u o) : a = .lp u o := by
  unfold kill at h
  cases hl : isLp d a with
  | true => rw [hl] at h; simp at h
  | false => rw [hl] at h; exact h

theorem setRange_get {b cs : List AV} {lo : Nat} (h : lo + cs.length ≤ b.length) (k : Nat) : (setRange b lo cs)[k]? = if lo ≤ k ∧ k < lo + cs.length then cs[k - lo]? else b[k]? := by
  unfold setRange
  have hl : (b.take lo).length = lo := by simp; omega
  rw [List.getElem?_append]
  split
  · rename_i h1
    rw [hl] at h1
    rw [if_neg (by omega), List.getElem?_take, if_pos h1]
  · rename_i h1
    rw [hl] at h1 ⊢
    rw [List.getElem?_append]
    split
    · rename_i h2
      rw [if_pos (by omega)]
    · rename_i h2
      rw [if_neg (by omega), List.getElem?_drop]
      congr 1; omega

theorem setRange_len {b cs : List AV} {lo : Nat} (h : lo + cs.length ≤ b.length) : (setRange b lo cs).length = b.length := by
  unfold setRange; simp; omega

theorem setRange_comm {b cs cs' : List AV} {lo lo' : Nat} (h : lo + cs.length ≤ b.length) (h' : lo' + cs'.length ≤ b.length) (hd : lo + cs.length ≤ lo' ∨ lo' + cs'.length ≤ lo ∨ cs.length = 0 ∨ cs'.length = 0) :
    setRange (setRange b lo cs) lo' cs' = setRange (setRange b lo' cs') lo cs := by
  apply List.ext_getElem?
  intro k
  rw [setRange_get (by rw [setRange_len h]; exact h'), setRange_get h, setRange_get (by rw [setRange_len h']; exact h), setRange_get h']
  by_cases h1 : lo ≤ k ∧ k < lo + cs.length <;> by_cases h2 : lo' ≤ k ∧ k < lo' + cs'.length <;> simp only [h1, h2, if_true, if_false, and_self] <;> omega

/-! ### A step, told by its effect -/

/-- The slots that a step reads. -/
def Reads (ops : List Oper) (o : Oper) (fr : Fr) (t : Nat) : Prop :=
  (∃ j want oj, o.guard = some (j, want) ∧ ops[j]? = some oj ∧ oj.dst = some t) ∨ (guardOf ops fr o = some true ∧ t ∈ tmpsOf o.op.operands.toList)

structure Did (cx : Cx) (an : RA) (ops : List Oper) (i : Nat) (o : Oper) (s s1 : ST) (f : Foot) (v : AV) (e : Eff) : Prop where
  fr : s1.fr = put o.dst v (e.app s.fr)
  ds : ∀ t ∈ e.ds, t ∈ tmpsOf o.op.operands.toList
  st : an.st.contains i = false → e.ds = []
  bx : match e.bx with | none => True | some (u, lo, cs) => ∃ n c, f = .wL u lo n ∧ cs.length ≤ n ∧ get s.fr u = some (.box c) ∧ lo + cs.length ≤ c.length
  H : f ≠ .wH → s1.H = s.H
  ok : ∀ u o', v = .lp u o' → f.touches u = true
  tk : ∀ t, Reads ops o s.fr t → ∃ a, get s.fr t = some a ∧ a ≠ .junk ∧ ∀ u o', a = .lp u o' → f.touches u = true
  boxed : ∀ u lo n, f = .rL u lo n ∨ f = .wL u lo n → ∃ c, get s.fr u = some (.box c)
  move : ∀ s', (∀ t, Reads ops o s.fr t → SameAt s.fr s'.fr t) → FtOK s.fr s'.fr s.H s'.H f →
    stepOp cx an ops i o s' = some ⟨put o.dst v (e.app s'.fr), if f = .wH then s1.H else s'.H⟩ ∧ (stepFt cx an ops i o s').ft = f

theorem guard_same {ops : List Oper} {o : Oper} {fr fr' : Fr} (h : ∀ t, (∃ j want oj, o.guard = some (j, want) ∧ ops[j]? = some oj ∧ oj.dst = some t) → SameAt fr fr' t) : guardOf ops fr' o = guardOf ops fr o := by
  unfold guardOf
  cases hg : o.guard with
  | none => rfl
  | some jw =>
    obtain ⟨j, want⟩ := jw
    simp only
    cases hj : ops[j]? with
    | none => rfl
    | some oj =>
      simp only
      cases hd : oj.dst with
      | none => rfl
      | some d =>
        simp only
        rcases h d ⟨j, want, oj, hg, hj, hd⟩ with h | ⟨c, c', h1, h2⟩
        · rw [h]
        · rw [h1, h2]

theorem guard_reads {ops : List Oper} {o : Oper} {fr : Fr} {b : Bool} (hb : guardOf ops fr o = some b) {t : Nat} (h : ∃ j want oj, o.guard = some (j, want) ∧ ops[j]? = some oj ∧ oj.dst = some t) :
    ∃ a, get fr t = some a ∧ ((∃ b, a = .d (.bool b)) ∨ a = .undef) := by
  obtain ⟨j, want, oj, hg, hj, hd⟩ := h
  unfold guardOf at hb
  simp only [hg, hj, hd] at hb
  split at hb
  · rename_i b' h1; exact ⟨_, h1, .inl ⟨b', rfl⟩⟩
  · rename_i h1; exact ⟨_, h1, .inr rfl⟩
  · simp at hb

theorem step_did {cx : Cx} {an : RA} {ops : List Oper} {i : Nat} {o : Oper} {s s1 : ST} (h : stepOp cx an ops i o s = some s1) :
    ∃ v e, Did cx an ops i o s s1 (stepFt cx an ops i o s).ft v e := by
  unfold stepOp at h
  split at h
  · rename_i hg
    split at h
    · rename_i r hr
      cases hok : okV r.v r.ft with
      | false => rw [hok] at h; simp at h
      | true =>
      rw [hok, cond_true] at h
      obtain rfl := Option.some.inj h
      have hft : (stepFt cx an ops i o s).ft = r.ft := by simp only [stepFt, hg, hr]
      rw [hft]
      obtain ⟨e, h1, h2, h3, h4, h5, h6⟩ := aop_loc hr
      refine ⟨fixA (fxOf cx.P o.type) r.v, e, ⟨by simp [h1], h2, h3, h4, h5, ?_, ?_, ?_, ?_⟩⟩
      · intro u o' hv; rw [fixA_lp_inv hv] at hok; exact hok
      · rintro t (ht | ⟨_, ht⟩)
        · obtain ⟨a, h7, h8⟩ := guard_reads hg ht
          refine ⟨a, h7, ?_, ?_⟩ <;> rcases h8 with ⟨b, rfl⟩ | rfl <;> simp
        · exact aop_takes hr t ht
      · intro u lo n hf; exact aop_boxed hr hf
      · intro s' hs hf
        have hgs : guardOf ops s'.fr o = some true := by rw [← hg]; exact guard_same fun t ht => hs t (.inl ht)
        have := h6 s'.fr s'.H (fun t ht => hs t (.inr ⟨hg, ht⟩)) hf
        simp only [stepOp, stepFt, hgs, this, hok, cond_true, and_self]
    · simp at h
  · rename_i hg
    obtain rfl := Option.some.inj h
    have hft : (stepFt cx an ops i o s).ft = .non := by simp [stepFt, hg]
    rw [hft]
    refine ⟨.undef, ⟨[], none⟩, ⟨rfl, by simp, fun _ => rfl, trivial, fun _ => rfl, by simp, ?_, by simp, ?_⟩⟩
    · rintro t (ht | ⟨ht, _⟩)
      · obtain ⟨a, h7, h8⟩ := guard_reads hg ht
        refine ⟨a, h7, ?_, ?_⟩ <;> rcases h8 with ⟨b, rfl⟩ | rfl <;> simp
      · rw [hg] at ht; simp at ht
    · intro s' hs hf
      have hgs : guardOf ops s'.fr o = some false := by rw [← hg]; exact guard_same fun t ht => hs t (.inl ht)
      simp [stepOp, stepFt, hgs, Eff.app, boxApp, disL]
  · simp at h


/-! ### Two steps -/

theorem clash_comm (f g : Foot) : f.clash g = g.clash f := by
  cases f <;> cases g <;> first
    | rfl
    | (rw [Bool.eq_iff_iff]
       simp only [Foot.clash, Bool.and_eq_true, beq_iff_eq, decide_eq_true_eq]
       constructor <;> rintro ⟨⟨rfl, h1⟩, h2⟩ <;> exact ⟨⟨rfl, h2⟩, h1⟩)

theorem SameAt.symm {fr fr' : Fr} {t : Nat} (h : SameAt fr fr' t) : SameAt fr' fr t := by
  rcases h with h | ⟨c, c', h1, h2⟩
  · exact .inl h.symm
  · exact .inr ⟨c', c, h2, h1⟩

theorem dup_bool {a : AV} {x : Bool} (h : dup a = .d (.bool x)) : a = .d (.bool x) := by
  cases a <;> simp [dup, dupC] at h ⊢
  · exact h
  · split at h <;> simp at h

theorem dup_undef {a : AV} (h : dup a = .undef) : a = .undef := by
  cases a <;> simp [dup, dupC] at h ⊢
  · split at h <;> simp at h

theorem boxAtD_box {bx : Option (Nat × Nat × List AV)} {t : Nat} {a : AV} {c : List AV} (h : boxAtD bx t a = .box c) : ∃ b, a = .box b := by
  unfold boxAtD at h
  split at h
  · exact ⟨_, rfl⟩
  · exact ⟨_, h⟩

theorem box_of_step {dst : Option Nat} {e : Eff} {t : Nat} {a : AV} {c : List AV} (h : (match dst with | some d => kill d | none => id) (effAt e t a) = .box c) : ∃ b, a = .box b := by
  have h1 : effAt e t a = .box c := by
    cases dst with
    | none => exact h
    | some d =>
      have : kill d (effAt e t a) ≠ .junk := by
        intro he
        have h' : kill d (effAt e t a) = .box c := h
        rw [he] at h'; cases h'
      rw [← kill_ne_junk this]; exact h
  obtain ⟨b, hb⟩ := boxAtD_box h1
  split at hb
  · exact ⟨b, box_of_dup hb⟩
  · exact ⟨b, hb⟩

/-- A slot that another step reads: as it is before and behind. -/
theorem same_after {dst : Option Nat} {v : AV} {e : Eff} {fr : Fr} {t : Nat} {b : AV} (hd : dst ≠ some t) (hb : get fr t = some b) (hk : ∀ d o, dst = some d → b ≠ .lp d o) (hs : t ∉ e.ds ∨ (∃ x, b = .d (.bool x)) ∨ b = .undef) :
    SameAt fr (put dst v (e.app fr)) t := by
  have h1 := get_step (v := v) (e := e) (fr := fr) hd
  have h2 : effAt e t b = boxAtD e.bx t b := by
    unfold effAt
    split
    · rename_i h
      rcases hs with hs | ⟨x, rfl⟩ | rfl
      · exact absurd h hs
      · rfl
      · rfl
    · rfl
  rw [hb] at h1
  simp only [Option.map_some] at h1
  have h3 : (match dst with | some d => kill d | none => id) (effAt e t b) = effAt e t b := by
    cases dst with
    | none => rfl
    | some d => exact kill_not fun o he => hk d o rfl (lp_of_effAt he)
  rw [h3, h2] at h1
  unfold boxAtD at h1
  split at h1
  · rename_i u lo cs c hbx
    split at h1
    · exact .inr ⟨c, _, hb, h1⟩
    · exact .inl (by rw [h1, hb])
  · exact .inl (by rw [h1, hb])

theorem same_before {dst : Option Nat} {v : AV} {e : Eff} {fr : Fr} {t : Nat} {a : AV} (hd : dst ≠ some t) (ha : get (put dst v (e.app fr)) t = some a) (hj : a ≠ .junk) (hs : t ∉ e.ds ∨ (∃ x, a = .d (.bool x)) ∨ a = .undef) :
    SameAt (put dst v (e.app fr)) fr t := by
  have h1 := get_step (v := v) (e := e) (fr := fr) hd
  rw [ha] at h1
  cases hb : get fr t with
  | none => rw [hb] at h1; simp at h1
  | some b =>
    rw [hb] at h1
    simp only [Option.map_some, Option.some.injEq] at h1
    refine (same_after hd hb ?_ ?_).symm
    · rintro d o rfl rfl
      rw [effAt_lp] at h1
      exact hj (by rw [h1]; simp [kill, isLp])
    · have h2 : effAt e t b = a := by
        cases dst with
        | none => exact h1.symm
        | some d =>
          have h1' : a = kill d (effAt e t b) := h1
          rw [h1'] at hj ⊢
          exact (kill_ne_junk hj).symm
      rcases hs with hs | ⟨x, rfl⟩ | rfl
      · exact .inl hs
      · right; left
        refine ⟨x, ?_⟩
        unfold effAt boxAtD at h2
        split at h2
        · split at h2 <;> cases h2
        · split at h2
          · exact dup_bool h2
          · exact h2
      · right; right
        unfold effAt boxAtD at h2
        split at h2
        · split at h2 <;> cases h2
        · split at h2
          · exact dup_undef h2
          · exact h2

def BxOK (fr : Fr) (f : Foot) (e : Eff) : Prop :=
  match e.bx with | none => True | some (u, lo, cs) => ∃ n c, f = .wL u lo n ∧ cs.length ≤ n ∧ get fr u = some (.box c) ∧ lo + cs.length ≤ c.length

theorem ft_keep {dst : Option Nat} {v : AV} {e : Eff} {fr : Fr} {fi fj : Foot} (hbx : BxOK fr fi e) (hc : fi.clash fj = false) (ht : ∀ d, dst = some d → fj.touches d = false) {u lo n : Nat}
    (hf : fj = .rL u lo n ∨ fj = .wL u lo n) {c : List AV} (hg : get fr u = some (.box c)) :
    ∃ c', get (put dst v (e.app fr)) u = some (.box c') ∧ c'.length = c.length ∧ ∀ k, lo ≤ k → k < lo + n → c'[k]? = c[k]? := by
  have hu : fj.touches u = true := by rcases hf with rfl | rfl <;> simp [Foot.touches]
  have hd : dst ≠ some u := fun h => by rw [ht u h] at hu; cases hu
  have h1 := get_step (v := v) (e := e) (fr := fr) hd
  rw [hg] at h1
  simp only [Option.map_some] at h1
  have h3 : (match dst with | some d => kill d | none => id) (effAt e u (.box c)) = effAt e u (.box c) := by
    cases dst with
    | none => rfl
    | some d => exact kill_not fun o he => by have := lp_of_effAt he; cases this
  have h2 : effAt e u (.box c) = boxAtD e.bx u (.box c) := by unfold effAt; split <;> rfl
  rw [h3, h2] at h1
  unfold BxOK at hbx
  cases hb : e.bx with
  | none => rw [hb] at h1; exact ⟨c, h1, rfl, fun _ _ _ => rfl⟩
  | some x =>
    obtain ⟨u', lo', cs⟩ := x
    rw [hb] at h1 hbx
    obtain ⟨m, c0, rfl, h4, h5, h6⟩ := hbx
    simp only [boxAtD] at h1
    split at h1
    · rename_i he
      subst he
      rw [hg] at h5
      obtain rfl := AV.box.inj (Option.some.inj h5)
      refine ⟨_, h1, setRange_len h6, fun k hk1 hk2 => ?_⟩
      rw [setRange_get h6, if_neg]
      intro hk
      rcases hf with rfl | rfl <;> (simp [Foot.clash] at hc; omega)
    · exact ⟨c, h1, rfl, fun _ _ _ => rfl⟩

theorem eff_none {e : Eff} {t : Nat} {a : AV} (h : t ∉ e.ds) (hb : ∀ u lo cs, e.bx = some (u, lo, cs) → u ≠ t) : effAt e t a = a := by
  unfold effAt
  rw [if_neg h]
  unfold boxAtD
  split
  · rename_i u lo cs b hx
    rw [if_neg (fun he => hb u lo cs hx he.symm)]
  · rfl

theorem eff_comm {ei ej : Eff} {t : Nat} {b : AV} {fi fj : Foot} (hc : fi.clash fj = false)
    (hi : ∀ u lo cs, ei.bx = some (u, lo, cs) → ∃ n, fi = .wL u lo n ∧ cs.length ≤ n ∧ (u = t → ∀ c, b = .box c → lo + cs.length ≤ c.length))
    (hj : ∀ u lo cs, ej.bx = some (u, lo, cs) → ∃ n, fj = .wL u lo n ∧ cs.length ≤ n ∧ (u = t → ∀ c, b = .box c → lo + cs.length ≤ c.length)) :
    effAt ej t (effAt ei t b) = effAt ei t (effAt ej t b) := by
  by_cases hbx : ∃ c, b = .box c
  · obtain ⟨c, rfl⟩ := hbx
    have h2 : ∀ (e : Eff) (c : List AV), effAt e t (.box c) = boxAtD e.bx t (.box c) := fun e c => by unfold effAt; split <;> rfl
    have h3 : ∀ (bx : Option (Nat × Nat × List AV)) (c : List AV), ∃ c', boxAtD bx t (.box c) = .box c' := fun bx c => by
      unfold boxAtD; split
      · split <;> exact ⟨_, rfl⟩
      · exact ⟨_, rfl⟩
    obtain ⟨c1, e1⟩ := h3 ei.bx c
    obtain ⟨c2, e2⟩ := h3 ej.bx c
    rw [h2, h2, e1, e2, h2, h2]
    cases hxi : ei.bx with
    | none =>
      rw [hxi] at e1
      have e3 : AV.box c = .box c1 := e1
      obtain rfl := AV.box.inj e3
      exact e2
    | some x =>
      obtain ⟨u, lo, cs⟩ := x
      rw [hxi] at e1
      cases hxj : ej.bx with
      | none =>
        rw [hxj] at e2
        have e3 : AV.box c = .box c2 := e2
        obtain rfl := AV.box.inj e3
        exact e1.symm
      | some y =>
        obtain ⟨u', lo', cs'⟩ := y
        rw [hxj] at e2
        obtain ⟨n, rfl, h4, h5⟩ := hi _ _ _ hxi
        obtain ⟨n', rfl, h6, h7⟩ := hj _ _ _ hxj
        simp only [boxAtD] at e1 e2 ⊢
        split at e1
        · rename_i hu
          subst hu
          split at e2
          · rename_i hu'
            subst hu'
            simp only [if_true]
            obtain rfl := AV.box.inj e1
            obtain rfl := AV.box.inj e2
            congr 1
            refine setRange_comm (h5 rfl c rfl) (h7 rfl c rfl) ?_
            simp [Foot.clash] at hc
            omega
          · rename_i hu'
            simp only [if_neg hu']
            obtain rfl := AV.box.inj e1
            obtain rfl := AV.box.inj e2
            simp
        · rename_i hu
          simp only [if_neg hu]
          obtain rfl := AV.box.inj e1
          exact e2
  · have nb : ∀ (e : Eff) (a : AV), (∀ c, a ≠ .box c) → effAt e t a = (if t ∈ e.ds then dup a else a) ∧ ∀ c, effAt e t a ≠ .box c := fun e a ha => by
      have h0 : ∀ c, (if t ∈ e.ds then dup a else a) ≠ .box c := fun c => by
        split
        · exact fun h => ha c (box_of_dup h)
        · exact ha c
      have h1 : effAt e t a = (if t ∈ e.ds then dup a else a) := boxAtD_nb h0
      exact ⟨h1, by rw [h1]; exact h0⟩
    have hb : ∀ c, b ≠ .box c := fun c h => hbx ⟨c, h⟩
    rw [(nb ej _ (nb ei b hb).2).1, (nb ei _ (nb ej b hb).2).1, (nb ei b hb).1, (nb ej b hb).1]
    split <;> split <;> first | rfl | rw [dup_dup]

structure Apart (an : RA) (ops : List Oper) (i j : Nat) (oi oj : Oper) (fi fj : Foot) : Prop where
  ij : ∀ d, oi.dst = some d → d ∉ tmpsOf oj.op.operands.toList ∧ ¬ ∃ g want og, oj.guard = some (g, want) ∧ ops[g]? = some og ∧ og.dst = some d
  ne : ∀ d, oi.dst = some d → oj.dst ≠ some d
  ji : ∀ d, oj.dst = some d → d ∉ tmpsOf oi.op.operands.toList ∧ ¬ ∃ g want og, oi.guard = some (g, want) ∧ ops[g]? = some og ∧ og.dst = some d
  clash : fi.clash fj = false
  nij : ∀ d, oi.dst = some d → fj.touches d = false
  nji : ∀ d, oj.dst = some d → fi.touches d = false
  sh : an.st.contains i = true ∨ an.st.contains j = true → ∀ t, t ∈ tmpsOf oi.op.operands.toList → t ∉ tmpsOf oj.op.operands.toList

def Sim (s s' : ST) : Prop := (∀ t, get s.fr t = get s'.fr t) ∧ s.H = s'.H

theorem swap {cx : Cx} {an : RA} {ops : List Oper} {i j : Nat} {oi oj : Oper} {s s1 s2 : ST} (h1 : stepOp cx an ops i oi s = some s1) (h2 : stepOp cx an ops j oj s1 = some s2)
    (ap : Apart an ops i j oi oj (stepFt cx an ops i oi s).ft (stepFt cx an ops j oj s1).ft) :
    ∃ s1' s2', stepOp cx an ops j oj s = some s1' ∧ (stepFt cx an ops j oj s).ft = (stepFt cx an ops j oj s1).ft ∧
      stepOp cx an ops i oi s1' = some s2' ∧ (stepFt cx an ops i oi s1').ft = (stepFt cx an ops i oi s).ft ∧ Sim s2 s2' := by
  obtain ⟨vi, ei, hi⟩ := step_did h1
  obtain ⟨vj, ej, hj⟩ := step_did h2
  generalize (stepFt cx an ops i oi s).ft = fi at *
  generalize (stepFt cx an ops j oj s1).ft = fj at *
  have dsi : ∀ t, t ∈ ei.ds → an.st.contains i = true := fun t ht => by
    cases hh : an.st.contains i with
    | true => rfl
    | false => rw [hi.st hh] at ht; cases ht
  have dsj : ∀ t, t ∈ ej.ds → an.st.contains j = true := fun t ht => by
    cases hh : an.st.contains j with
    | true => rfl
    | false => rw [hj.st hh] at ht; cases ht
  have ndi : ∀ {t fr}, Reads ops oj fr t → oi.dst ≠ some t := fun hr hd => by
    rcases hr with hr | ⟨_, hr⟩
    · exact (ap.ij _ hd).2 hr
    · exact (ap.ij _ hd).1 hr
  have ndj : ∀ {t fr}, Reads ops oi fr t → oj.dst ≠ some t := fun hr hd => by
    rcases hr with hr | ⟨_, hr⟩
    · exact (ap.ji _ hd).2 hr
    · exact (ap.ji _ hd).1 hr
  -- a slot that the other one's destination is not, and that holds a box behind the step, holds one before it
  have back : ∀ u, fj.touches u = true → ∀ c, get s1.fr u = some (.box c) → ∃ c0, get s.fr u = some (.box c0) := fun u hu c hg => by
    have hd : oi.dst ≠ some u := fun h => by rw [ap.nij u h] at hu; cases hu
    rw [hi.fr, get_step hd] at hg
    cases hb : get s.fr u with
    | none => rw [hb] at hg; simp at hg
    | some b =>
      rw [hb] at hg
      simp only [Option.map_some, Option.some.injEq] at hg
      obtain ⟨c0, rfl⟩ := box_of_step hg
      exact ⟨c0, rfl⟩
  have bxi : BxOK s.fr fi ei := hi.bx
  -- the second one, taken first
  have sameJ : ∀ t, Reads ops oj s1.fr t → SameAt s1.fr s.fr t := fun t hr => by
    obtain ⟨a, ha, hnj, hlp⟩ := hj.tk t hr
    rw [hi.fr] at ha ⊢
    refine same_before (ndi hr) ha hnj ?_
    rcases hr with hr | ⟨_, hr⟩
    · right
      cases hg : guardOf ops s1.fr oj with
      | none => unfold stepOp at h2; rw [hg] at h2; simp at h2
      | some bb =>
        obtain ⟨a', h3, h4⟩ := guard_reads hg hr
        rw [hi.fr] at h3
        rw [ha] at h3
        obtain rfl := Option.some.inj h3
        exact h4
    · left
      intro ht
      exact ap.sh (.inl (dsi t ht)) t (hi.ds t ht) hr
  have ftJ : FtOK s1.fr s.fr s1.H s.H fj := by
    have cell : ∀ u lo n, fj = .rL u lo n ∨ fj = .wL u lo n → ∃ c c', get s1.fr u = some (.box c) ∧ get s.fr u = some (.box c') ∧ c'.length = c.length ∧ ∀ k, lo ≤ k → k < lo + n → c'[k]? = c[k]? := fun u lo n hf => by
      obtain ⟨c, hc⟩ := hj.boxed u lo n hf
      obtain ⟨c0, hc0⟩ := back u (by rcases hf with rfl | rfl <;> simp [Foot.touches]) c hc
      obtain ⟨c', h3, h4, h5⟩ := ft_keep (v := vi) bxi ap.clash ap.nij hf hc0
      rw [← hi.fr, hc] at h3
      obtain rfl := AV.box.inj (Option.some.inj h3)
      exact ⟨c, c0, hc, hc0, h4.symm, fun k h6 h7 => (h5 k h6 h7).symm⟩
    have hcl := ap.clash
    cases fj with
    | rL u lo n => exact cell u lo n (.inl rfl)
    | wL u lo n => exact cell u lo n (.inr rfl)
    | rH => exact (hi.H (by rintro rfl; simp [Foot.clash] at hcl)).symm
    | wH => exact (hi.H (by rintro rfl; simp [Foot.clash] at hcl)).symm
    | non => trivial
    | adr t => trivial
  obtain ⟨j1, j2⟩ := hj.move s sameJ ftJ
  -- the first one, taken behind it
  have bxj : BxOK s.fr fj ej := by
    have := hj.bx
    unfold BxOK
    cases hb : ej.bx with
    | none => trivial
    | some x =>
      obtain ⟨u, lo, cs⟩ := x
      rw [hb] at this
      obtain ⟨n, c, rfl, h3, h4, h5⟩ := this
      obtain ⟨c0, hc0⟩ := back u (by simp [Foot.touches]) c h4
      obtain ⟨c', h6, h7, _⟩ := ft_keep (v := vi) bxi ap.clash ap.nij (.inr rfl) hc0
      rw [← hi.fr, h4] at h6
      obtain rfl := AV.box.inj (Option.some.inj h6)
      exact ⟨n, c0, rfl, h3, hc0, by omega⟩
  have hcl' : fj.clash fi = false := by rw [clash_comm]; exact ap.clash
  have sameI : ∀ t, Reads ops oi s.fr t → SameAt s.fr (put oj.dst vj (ej.app s.fr)) t := fun t hr => by
    obtain ⟨a, ha, hnj, hlp⟩ := hi.tk t hr
    refine same_after (ndj hr) ha ?_ ?_
    · rintro d o hd rfl
      have := hlp d o rfl
      rw [ap.nji d hd] at this; cases this
    · rcases hr with hr | ⟨_, hr⟩
      · right
        cases hg : guardOf ops s.fr oi with
        | none => unfold stepOp at h1; rw [hg] at h1; simp at h1
        | some bb =>
          obtain ⟨a', h3, h4⟩ := guard_reads hg hr
          rw [ha] at h3
          obtain rfl := Option.some.inj h3
          exact h4
      · left
        intro ht
        exact ap.sh (.inr (dsj t ht)) t hr (hj.ds t ht)
  have ftI : FtOK s.fr (put oj.dst vj (ej.app s.fr)) s.H (if fj = .wH then s2.H else s.H) fi := by
    have cell : ∀ u lo n, fi = .rL u lo n ∨ fi = .wL u lo n → ∃ c c', get s.fr u = some (.box c) ∧ get (put oj.dst vj (ej.app s.fr)) u = some (.box c') ∧ c'.length = c.length ∧ ∀ k, lo ≤ k → k < lo + n → c'[k]? = c[k]? := fun u lo n hf => by
      obtain ⟨c, hc⟩ := hi.boxed u lo n hf
      obtain ⟨c', h3, h4, h5⟩ := ft_keep (v := vj) bxj hcl' ap.nji hf hc
      exact ⟨c, c', hc, h3, h4, h5⟩
    have hcl := ap.clash
    cases fi with
    | rL u lo n => exact cell u lo n (.inl rfl)
    | wL u lo n => exact cell u lo n (.inr rfl)
    | rH => exact if_neg (by rintro rfl; simp [Foot.clash] at hcl)
    | wH => exact if_neg (by rintro rfl; simp [Foot.clash] at hcl)
    | non => trivial
    | adr t => trivial
  obtain ⟨i1, i2⟩ := hi.move ⟨put oj.dst vj (ej.app s.fr), if fj = .wH then s2.H else s.H⟩ sameI ftI
  refine ⟨_, _, j1, j2, i1, i2, fun t => ?_, ?_⟩
  · show get s2.fr t = get (put oi.dst vi (ei.app (put oj.dst vj (ej.app s.fr)))) t
    have bi : ∀ u lo cs, ei.bx = some (u, lo, cs) → fi.touches u = true := fun u lo cs hb => by
      have := hi.bx; rw [hb] at this; obtain ⟨n, c, rfl, _⟩ := this; simp [Foot.touches]
    have bj : ∀ u lo cs, ej.bx = some (u, lo, cs) → fj.touches u = true := fun u lo cs hb => by
      have := hj.bx; rw [hb] at this; obtain ⟨n, c, rfl, _⟩ := this; simp [Foot.touches]
    rw [hj.fr, hi.fr]
    by_cases hdj : oj.dst = some t
    · have hdi : oi.dst ≠ some t := fun h => ap.ne t h hdj
      rw [get_step hdi, hdj, get_step_dst, get_step_dst]
      simp only [Option.map_some]
      rw [eff_none (fun ht => (ap.ji t hdj).1 (hi.ds t ht)) (fun u lo cs hb he => by have := bi u lo cs hb; rw [he, ap.nji t hdj] at this; cases this)]
      cases hd : oi.dst with
      | none => rfl
      | some d =>
        congr 1
        refine (kill_not fun o he => ?_).symm
        have := hj.ok d o (kill_lp he)
        rw [ap.nij d hd] at this; cases this
    · by_cases hdi : oi.dst = some t
      · rw [get_step hdj, hdi, get_step_dst, get_step_dst]
        simp only [Option.map_some]
        rw [eff_none (fun ht => (ap.ij t hdi).1 (hj.ds t ht)) (fun u lo cs hb he => by have := bj u lo cs hb; rw [he, ap.nij t hdi] at this; cases this)]
        cases hd : oj.dst with
        | none => rfl
        | some d =>
          congr 1
          refine kill_not fun o he => ?_
          have := hi.ok d o (kill_lp he)
          rw [ap.nji d hd] at this; cases this
      · rw [get_step hdj, get_step hdi, get_step hdi, get_step hdj]
        cases hb : get s.fr t with
        | none => rfl
        | some b =>
          simp only [Option.map_some, Option.some.injEq]
          have hcm : effAt ej t (effAt ei t b) = effAt ei t (effAt ej t b) := by
            refine eff_comm ap.clash (fun u lo cs hx => ?_) (fun u lo cs hx => ?_)
            · have := bxi; unfold BxOK at this; rw [hx] at this
              obtain ⟨n, c, h3, h4, h5, h6⟩ := this
              refine ⟨n, h3, h4, fun he c' hc => ?_⟩
              subst he; subst hc
              rw [hb] at h5
              obtain rfl := AV.box.inj (Option.some.inj h5)
              exact h6
            · have := bxj; unfold BxOK at this; rw [hx] at this
              obtain ⟨n, c, h3, h4, h5, h6⟩ := this
              refine ⟨n, h3, h4, fun he c' hc => ?_⟩
              subst he; subst hc
              rw [hb] at h5
              obtain rfl := AV.box.inj (Option.some.inj h5)
              exact h6
          cases hd : oi.dst with
          | none =>
            cases hd' : oj.dst with
            | none => exact hcm
            | some d' => simp only [id]; rw [← kill_effAt, hcm]
          | some d =>
            cases hd' : oj.dst with
            | none => simp only [id]; rw [← kill_effAt, hcm]
            | some d' => simp only []; rw [← kill_effAt, ← kill_effAt, hcm, kill_kill]
  · show s2.H = if fi = .wH then s1.H else if fj = .wH then s2.H else s.H
    have hcl := ap.clash
    by_cases h3 : fi = .wH
    · rw [if_pos h3]
      exact hj.H (by rintro rfl; rw [h3] at hcl; simp [Foot.clash] at hcl)
    · rw [if_neg h3]
      by_cases h4 : fj = .wH
      · rw [if_pos h4]
      · rw [if_neg h4, hj.H h4, hi.H h3]

end Go.AI

/- A region that draws its order: the walk of the text's order serves every order. -/
namespace Go.AI
set_option linter.unusedVariables false
set_option linter.unusedSimpArgs false

section
variable {cx : Cx} {an : RA} {ops : Array Oper} {F : Nat → Foot}

theorem Sim.refl (s : ST) : Sim s s := ⟨fun _ => rfl, rfl⟩
theorem Sim.symm {s s' : ST} (h : Sim s s') : Sim s' s := ⟨fun t => (h.1 t).symm, h.2.symm⟩
theorem Sim.trans {s s' s'' : ST} (h : Sim s s') (h' : Sim s' s'') : Sim s s'' := ⟨fun t => (h.1 t).trans (h'.1 t), h.2.trans h'.2⟩

theorem step_sim {os : List Oper} {i : Nat} {o : Oper} {s s1 s' : ST} (h : stepOp cx an os i o s = some s1) (hs : Sim s s') :
    ∃ s1', stepOp cx an os i o s' = some s1' ∧ (stepFt cx an os i o s').ft = (stepFt cx an os i o s).ft ∧ Sim s1 s1' := by
  obtain ⟨v, e, hd⟩ := step_did h
  obtain ⟨h1, h2⟩ := hd.move s' (fun t _ => .inl (hs.1 t).symm) (by
    cases hf : (stepFt cx an os i o s).ft with
    | rL u lo n => obtain ⟨c, hc⟩ := hd.boxed u lo n (.inl hf); exact ⟨c, c, hc, by rw [← hs.1]; exact hc, rfl, fun _ _ _ => rfl⟩
    | wL u lo n => obtain ⟨c, hc⟩ := hd.boxed u lo n (.inr hf); exact ⟨c, c, hc, by rw [← hs.1]; exact hc, rfl, fun _ _ _ => rfl⟩
    | rH => exact hs.2.symm
    | wH => exact hs.2.symm
    | non => trivial
    | adr t => trivial)
  refine ⟨_, h1, h2, fun t => ?_, ?_⟩
  · rw [hd.fr]
    show get (put o.dst v (e.app s.fr)) t = get (put o.dst v (e.app s'.fr)) t
    by_cases hdt : o.dst = some t
    · rw [hdt, get_step_dst, get_step_dst]
    · rw [get_step hdt, get_step hdt, hs.1]
  · show s1.H = if _ then s1.H else s'.H
    split
    · rfl
    · rename_i hne; rw [hd.H hne, hs.2]

/-- Operation 'o' stands behind operation 'i'. -/
inductive Reach (ops : Array Oper) (i : Nat) : Oper → Prop
  | here {o : Oper} {g : Edge} : g ∈ o.after → Region.binds .any g = true → g.on = i → Reach ops i o
  | far {o p : Oper} {g : Edge} : g ∈ o.after → Region.binds .any g = true → ops[g.on]? = some p → Reach ops i p → Reach ops i o

theorem reachB_spec {i : Nat} : ∀ (n : Nat) {o : Oper}, reachB ops.toList i n o = true → Reach ops i o
  | 0, _, h => by simp [reachB] at h
  | n + 1, o, h => by
    unfold reachB at h
    rw [List.any_eq_true] at h
    obtain ⟨g, hg, h⟩ := h
    have hg' : g ∈ o.after := by simpa using hg
    simp only [Bool.and_eq_true, Bool.or_eq_true, beq_iff_eq] at h
    rcases h with ⟨h1, h2 | h2⟩
    · exact .here hg' h1 h2
    · split at h2
      · rename_i p hp
        exact .far hg' h1 (by simpa using hp) (reachB_spec n h2)
      · simp at h2

/-- What stands ahead of what is listed, is listed. -/
def Closed (ops : Array Oper) (listed : Array Bool) : Prop := ∀ p o, ops[p]? = some o → listed.getD p false = true → ∀ e ∈ o.after, Region.binds .any e = true → listed.getD e.on false = true

theorem Closed.set {listed : Array Bool} (h : Closed ops listed) {j : Nat} (hj : j ∈ Region.ready .any ops listed) : Closed ops (listed.setIfInBounds j true) := by
  intro p o ho hp e he hb
  by_cases hpj : j = p
  · subst hpj
    obtain ⟨_, o', ho', hall⟩ := mem_ready.1 hj
    rw [ho] at ho'; obtain rfl := Option.some.inj ho'
    exact getD_set_true (hall e he hb)
  · rw [getD_set_ne false hpj] at hp
    exact getD_set_true (h p o ho hp e he hb)

theorem Reach.not {listed : Array Bool} (h : Closed ops listed) {i : Nat} (hi : listed.getD i true = false) {o : Oper} (hr : Reach ops i o) : (∀ e ∈ o.after, Region.binds .any e = true → listed.getD e.on false = true) → False := by
  induction hr with
  | here h1 h2 h3 =>
    intro hall
    have := hall _ h1 h2
    rw [h3] at this
    rcases Nat.lt_or_ge i listed.size with h' | h'
    · simp [h'] at hi this; rw [hi] at this; cases this
    · simp [Array.getElem?_eq_none h'] at this
  | far h1 h2 h3 _ ih => intro hall; exact ih (h _ _ h3 (hall _ h1 h2))

/-- Every order: each operation that is ready may be taken, and leaves the same foot in all of them. -/
def AnyA (cx : Cx) (an : RA) (ops : Array Oper) (F : Nat → Foot) (G : ST → Prop) : Nat → Array Bool → ST → Prop
  | 0, listed, s => Region.ready .any ops listed = [] ∧ G s
  | n + 1, listed, s => (Region.ready .any ops listed = [] → G s) ∧
    ∀ i ∈ Region.ready .any ops listed, ∃ o s1, ops[i]? = some o ∧ stepOp cx an ops.toList i o s = some s1 ∧ (stepFt cx an ops.toList i o s).ft = F i ∧ AnyA cx an ops F G n (listed.setIfInBounds i true) s1

theorem AnyA.sim {G : ST → Prop} (hG : ∀ s s', Sim s s' → G s → G s') : ∀ (n : Nat) (listed : Array Bool) {s s' : ST}, Sim s s' → AnyA cx an ops F G n listed s → AnyA cx an ops F G n listed s'
  | 0, _, s, s', hs, h => ⟨h.1, hG s s' hs h.2⟩
  | n + 1, _, s, s', hs, h => ⟨fun h0 => hG s s' hs (h.1 h0), fun i hi => by
    obtain ⟨o, s1, ho, h1, h2, h3⟩ := h.2 i hi
    obtain ⟨s1', h4, h5, h6⟩ := step_sim h1 hs
    exact ⟨o, s1', ho, h4, h5.trans h2, AnyA.sim hG n _ h6 h3⟩⟩

theorem anyA_first {G : ST → Prop} (hG : ∀ s s', Sim s s' → G s → G s') {i : Nat} {oi : Oper} (hi : ops[i]? = some oi) :
    ∀ (n : Nat) (listed : Array Bool) {s s1 : ST}, Closed ops listed →
      (∀ j oj, ops[j]? = some oj → j ≠ i → listed.getD j true = false → (∀ e ∈ oj.after, Region.binds .any e = true → e.on ≠ i) → ¬ Reach ops i oj → Apart an ops.toList i j oi oj (F i) (F j)) →
      i ∈ Region.ready .any ops listed → stepOp cx an ops.toList i oi s = some s1 → (stepFt cx an ops.toList i oi s).ft = F i →
      AnyA cx an ops F G n (listed.setIfInBounds i true) s1 → AnyA cx an ops F G (n + 1) listed s := by
  intro n
  induction n with
  | zero =>
    intro listed s s1 _ _ hr h1 h2 H
    refine ⟨fun h => (by rw [h] at hr; cases hr), fun j hj => ?_⟩
    by_cases hji : j = i
    · subst hji; exact ⟨oi, s1, hi, h1, h2, H⟩
    · have := ready_mono hj hji
      rw [H.1] at this
      cases this
  | succ n ih =>
    intro listed s s1 hcl hfree hr h1 h2 H
    refine ⟨fun h => (by rw [h] at hr; cases hr), fun j hj => ?_⟩
    by_cases hji : j = i
    · subst hji; exact ⟨oi, s1, hi, h1, h2, H⟩
    · obtain ⟨oj, s2, hoj, h3, h4, h5⟩ := H.2 j (ready_mono hj hji)
      obtain ⟨hjun, oj', hoj', hall⟩ := mem_ready.1 hj
      rw [hoj] at hoj'
      obtain rfl := Option.some.inj hoj'
      have hnot : ∀ e ∈ oj.after, Region.binds .any e = true → e.on ≠ i := fun e he hb heq => by
        have h1 := hall e he hb
        have h0 := (mem_ready.1 hr).1
        rw [heq] at h1
        rcases Nat.lt_or_ge i listed.size with h' | h'
        · simp [h'] at h0 h1; rw [h0] at h1; cases h1
        · simp [Array.getElem?_eq_none h'] at h1
      have hnr : ¬ Reach ops i oj := fun hreach => hreach.not hcl (mem_ready.1 hr).1 hall
      have ap := hfree j oj hoj hji hjun hnot hnr
      obtain ⟨t1, t2, g1, g2, g3, g4, g5⟩ := swap h1 h3 (by rw [h2, h4]; exact ap)
      have hfree' : ∀ k ok, ops[k]? = some ok → k ≠ i → (listed.setIfInBounds j true).getD k true = false →
          (∀ e ∈ ok.after, Region.binds .any e = true → e.on ≠ i) → ¬ Reach ops i ok → Apart an ops.toList i k oi ok (F i) (F k) := fun k ok hk hki hun hno hnr => by
        refine hfree k ok hk hki ?_ hno hnr
        by_cases hjk : j = k
        · subst hjk; exact hjun
        · rw [getD_set_ne true hjk] at hun; exact hun
      refine ⟨oj, t1, hoj, g1, g2.trans h4, ?_⟩
      refine ih (listed.setIfInBounds j true) (hcl.set hj) hfree' (ready_mono hr (Ne.symm hji)) g3 (g4.trans h2) ?_
      rw [Array.setIfInBounds_comm _ _ hji]
      exact AnyA.sim hG _ _ g5 h5

/-! ### The check of the text's order -/

theorem apartFrom_spec {os : List Oper} {st : List Nat} {i : Nat} {oi : Oper} {fi : Ft} : ∀ {l : List Oper} {j : Nat} {fs : List Ft}, apartFrom os st i oi fi j l fs = true →
    ∀ m om, l[m]? = some om → ∃ fm, fs[m]? = some fm ∧ apart2 os st i (j + m) oi om fi fm = true
  | [], j, fs, _, m, om, hm => by simp at hm
  | oj :: l, j, [], h, m, om, hm => by simp [apartFrom] at h
  | oj :: l, j, f :: fs, h, m, om, hm => by
    simp only [apartFrom, Bool.and_eq_true] at h
    cases m with
    | zero => simp at hm; subst hm; exact ⟨f, rfl, h.1⟩
    | succ m =>
      obtain ⟨fm, h1, h2⟩ := apartFrom_spec h.2 m om (by simpa using hm)
      exact ⟨fm, by simpa using h1, by rw [show j + (m + 1) = j + 1 + m by omega]; exact h2⟩

theorem shares_spec {x y : Oper} (h : shares x y = false) : ∀ t, t ∈ tmpsOf x.op.operands.toList → t ∉ tmpsOf y.op.operands.toList := fun t h1 h2 => by
  rw [mem_tmpsOf] at h1 h2
  have : shares x y = true := by
    unfold shares
    rw [List.any_eq_true]
    refine ⟨_, h1, ?_⟩
    simp only
    rw [List.any_eq_true]
    exact ⟨_, h2, by simp⟩
  rw [h] at this; cases this

theorem nw_run : ∀ {l : List Oper} {k : Nat} {s : ST} {m : Nat} {om : Oper} {fm : Ft}, l[m]? = some om → (runFts cx an ops.toList k l s)[m]? = some fm → fm.nw = om.dst
  | [], k, s, m, om, fm, h, _ => by simp at h
  | o :: l, k, s, m, om, fm, h, h' => by
    simp only [runFts] at h'
    cases m with
    | zero =>
      simp at h h'
      subst h; subst h'
      unfold stepFt
      split
      · split <;> rfl
      · rfl
    | succ m =>
      simp only [List.getElem?_cons_succ] at h h'
      split at h'
      · exact nw_run h h'
      · simp at h'

theorem looksAt_iff {o : Oper} {t : Nat} : t ∈ o.looksAt ops ↔ (t ∈ tmpsOf o.op.operands.toList ∨ ∃ g want og, o.guard = some (g, want) ∧ ops.toList[g]? = some og ∧ og.dst = some t) := by
  unfold Oper.looksAt
  rw [List.mem_append]
  refine or_congr ?_ ?_
  · rw [mem_tmpsOf, List.mem_filterMap]
    constructor
    · rintro ⟨x, hx, h⟩
      cases x <;> simp at h
      subst h; exact hx
    · intro h; exact ⟨_, h, rfl⟩
  · cases hg : o.guard with
    | none => simp
    | some jw =>
      obtain ⟨j, want⟩ := jw
      cases hj : ops[j]? with
      | none => simp [hj]
      | some oj => simp [hj]; 

theorem apart_of {i j : Nat} {oi oj : Oper} {fi fj : Ft} (hk : oi.apart ops oj = true) (h2 : apart2 ops.toList an.st i j oi oj fi fj = true) (hnr : ¬ Reach ops i oj) (hno : ∀ e ∈ oj.after, Region.binds .any e = true → e.on ≠ i) (hi : fi.nw = oi.dst) (hj : fj.nw = oj.dst) :
    Apart an ops.toList i j oi oj fi.ft fj.ft := by
  obtain ⟨h3, h4, h5⟩ := Oper.apart_spec hk
  unfold apart2 at h2
  have hb : oj.after.any (fun g => Region.binds .any g && g.on == i) = false := by
    rw [← Bool.not_eq_true]
    intro h
    obtain ⟨e, he, hb⟩ := Array.any_eq_true'.1 h
    simp only [Bool.and_eq_true, beq_iff_eq] at hb
    exact hno e he hb.1 hb.2
  have hrb : reachB ops.toList i 8 oj = false := by
    rw [← Bool.not_eq_true]
    exact fun h => hnr (reachB_spec 8 h)
  rw [hb, Bool.false_or, hrb, Bool.or_false] at h2
  simp only [Bool.and_eq_true, Bool.not_eq_true', Ft.clash, Bool.or_eq_false_iff] at h2
  obtain ⟨⟨⟨h6, h7⟩, h8⟩, h9⟩ := h2
  refine ⟨fun d hd => ?_, h4, fun d hd => ?_, h6, fun d hd => ?_, fun d hd => ?_, fun hs => ?_⟩
  · have := h3 d hd; rw [looksAt_iff] at this; exact not_or.1 this
  · have := h5 d hd; rw [looksAt_iff] at this; exact not_or.1 this
  · rw [hi, hd] at h7; exact h7
  · rw [hj, hd] at h8; exact h8
  · rw [Bool.and_eq_false_iff] at h9
    rcases h9 with h9 | h9
    · simp only [Bool.or_eq_false_iff] at h9
      rcases hs with hs | hs
      · rw [h9.1] at hs; cases hs
      · rw [h9.2] at hs; cases hs
    · exact shares_spec h9

theorem anyA_lex {G : ST → Prop} (hG : ∀ s s', Sim s s' → G s → G s') : ∀ (l : List Oper) (k : Nat) (listed : Array Bool) {s s' : ST}, (∀ j, l[j]? = ops[k + j]?) → (∀ j, j < k → listed.getD j true = true) → Closed ops listed →
    Region.lexFrom .any ops l.length k listed = true → runOps cx an ops.toList k l s = some s' → apartAll ops.toList an.st k l (runFts cx an ops.toList k l s) = true →
    (∀ m f, (runFts cx an ops.toList k l s)[m]? = some f → F (k + m) = f.ft) → G s' → AnyA cx an ops F G l.length listed s
  | [], k, listed, s, s', _, _, _, hB, h, _, _, hg => by
    simp only [runOps] at h
    obtain rfl := Option.some.inj h
    exact ⟨by simpa [Region.lexFrom] using hB, hg⟩
  | o :: l, k, listed, s, s', hl, hls, hcl, hB, h, ha, hF, hg => by
    have h0 : ops[k]? = some o := by simpa using (hl 0).symm
    simp only [List.length_cons, Region.lexFrom, Bool.and_eq_true] at hB
    obtain ⟨⟨hr, hf⟩, hB'⟩ := hB
    simp only [runOps] at h
    split at h
    · rename_i s1 h1
      have hfts : runFts cx an ops.toList k (o :: l) s = stepFt cx an ops.toList k o s :: runFts cx an ops.toList (k + 1) l s1 := by simp only [runFts, h1]
      rw [hfts] at ha hF
      simp only [apartAll, Bool.and_eq_true] at ha
      have hFk : (stepFt cx an ops.toList k o s).ft = F k := (hF 0 _ rfl).symm
      refine anyA_first hG h0 l.length listed hcl ?_ (by simpa using hr) h1 hFk (anyA_lex hG l (k + 1) _ (fun j => by have := hl (j + 1); simpa [Nat.add_assoc, Nat.add_comm 1 j] using this) ?_ (hcl.set (by simpa using hr)) hB' h ha.2 ?_ hg)
      · intro j oj hoj hne hun hno hnr
        have hjk : k < j := by
          rcases Nat.lt_trichotomy j k with h' | h' | h'
          · rw [hls j h'] at hun; cases hun
          · exact absurd h' hne
          · exact h'
        have hm : l[j - k - 1]? = some oj := by
          have := hl (j - k)
          rw [show k + (j - k) = j by omega, hoj, show j - k = (j - k - 1) + 1 by omega, List.getElem?_cons_succ] at this
          exact this
        obtain ⟨fm, h4, h5⟩ := apartFrom_spec ha.1 (j - k - 1) oj hm
        have hFj : F j = fm.ft := by
          have := hF (j - k - 1 + 1) fm (by simpa using h4)
          rwa [show k + (j - k - 1 + 1) = j by omega] at this
        rw [show k + 1 + (j - k - 1) = j by omega] at h5
        rw [← hFk, hFj]
        refine apart_of (Region.free_spec h0 hf j oj hoj hne hun hno) h5 hnr hno ?_ (nw_run hm h4)
        unfold stepFt
        split
        · split <;> rfl
        · rfl
      · intro j hj
        by_cases hjk : k = j
        · subst hjk
          rcases Nat.lt_or_ge k listed.size with h' | h'
          · simp [h']
          · simp [Array.getElem?_eq_none h']
        · rw [getD_set_ne true hjk]; exact hls j (by omega)
      · intro m f hm
        have := hF (m + 1) f (by simpa using hm)
        rwa [show k + (m + 1) = k + 1 + m by omega] at this
    · simp at h

end

section
variable {P : Program} {E : Ent} {cx : Cx} {an : RA} {ops : Array Oper} {F : Nat → Foot}

theorem wpAny_of_anyA (hc : CxOK P E cx) {Q : Exit → Act → World → Prop} {n : Nat} (hd : dstsOK n ops.toList = true) {G : ST → Prop} {ds : List Deferred}
    (hQ : ∀ s a w, G s → SR E s a.tmps w → a.tmps.size = n → a.defers = ds → Q .normal a w) : ∀ (fuel : Nat) (listed : Array Bool) (s : ST) (a : Act) (w : World),
      AnyA cx an ops F G fuel listed s → SR E s a.tmps w → a.tmps.size = n → a.defers = ds → wpAny P .any ops Q fuel listed a w
  | 0, _, s, a, w, h, hs, hn, hdf => ⟨h.1, hQ s a w h.2 hs hn hdf⟩
  | fuel + 1, listed, s, a, w, h, hs, hn, hdf => ⟨fun h0 => hQ s a w (h.1 h0) hs hn hdf, fun i hi => by
    obtain ⟨o, s1, ho, h1, _, h2⟩ := h.2 i hi
    exact step_sound hc ho hs (by rw [hn]; exact hd) h1 fun a' w' h3 h4 h5 => wpAny_of_anyA hc hd hQ fuel _ s1 a' w' h2 h3 (h4.trans hn) (h5.trans hdf)⟩

theorem restrict_congr {fr fr' : Fr} (h : ∀ t, get fr t = get fr' t) : ∀ l, restrict fr l = restrict fr' l
  | [] => rfl
  | t :: l => by simp only [restrict, h, restrict_congr h l]

/-- A region. -/
theorem region_sound (hc : CxOK P E cx) (hm : P.follows .mixedOrders = true) {id : Nat} {draw : Bool} {Q : Exit → Act → World → Prop} {s s' : ST} {a : Act} {w : World} (hd : dstsOK a.tmps.size ops.toList = true) (hl : an.live.Nodup)
    (hs : SR E s a.tmps w) (h : runRegion cx an ops draw s = some s')
    (hQ : ∀ a' w', SR E s' a'.tmps w' → a'.tmps.size = a.tmps.size → a'.defers = a.defers → Q .normal a' w') : (Code.region id ops draw).wp P Q a w := by
  unfold runRegion at h
  split at h
  · rename_i s1 h1
    have hk : ∀ k : Nat, ops.toList[k]? = ops[0 + k]? := fun k => by simp
    cases draw with
    | false =>
      rw [cond_false] at h
      obtain rfl := Option.some.inj h
      refine wp_region ?_
      have := runOps_sound hc (Q := Q) hd ops.toList 0 (a := a) (w := w) rfl hk hs h1 fun a' w' h2 h3 h4 => hQ a' w' (h2.restrict hl) h3 h4
      rwa [Array.length_toList, ← List.range_eq_range'] at this
    | true =>
      rw [cond_true] at h
      cases hb : (Region.lexB .any ops && apartAll ops.toList an.st 0 ops.toList (runFts cx an ops.toList 0 ops.toList s)) with
      | false => rw [hb] at h; simp at h
      | true =>
        rw [hb, cond_true] at h
        obtain rfl := Option.some.inj h
        simp only [Bool.and_eq_true, Region.lexB] at hb
        obtain ⟨⟨_, hlex⟩, hap⟩ := hb
        let fts := runFts cx an ops.toList 0 ops.toList s
        have hany := anyA_lex (cx := cx) (an := an) (ops := ops) (F := fun i => (fts.getD i ⟨.non, none⟩).ft) (G := Sim s1) (fun s s' h h' => h'.trans h) ops.toList 0 (Array.replicate ops.size false) hk (fun j hj => absurd hj (by omega)) (fun p o ho hp => by
          have hlt := (Array.getElem?_eq_some_iff.1 ho).1
          simp [hlt] at hp)
          (by simpa using hlex) h1 hap (fun m f hm => by
            show (fts.getD (0 + m) ⟨.non, none⟩).ft = f.ft
            rw [Nat.zero_add, List.getD_eq_getElem?_getD]
            have : fts[m]? = some f := hm
            rw [this]; rfl) (Sim.refl s1)
        refine wp_region_any hm ?_
        rw [Array.length_toList] at hany
        refine wpAny_of_anyA hc hd (ds := a.defers) (fun s2 a' w' h2 h3 h4 h5 => hQ a' w' ?_ h4 h5) _ _ s a _ hany (hs.heap_eq rfl ⟨rfl, rfl, rfl⟩) rfl rfl
        have := h3.restrict (l := an.live) hl
        rw [restrict_congr h2.1, h2.2]
        exact this
  · simp at h
end
end Go.AI

/- The code of a function, and calls of functions. -/
namespace Go.AI
set_option linter.unusedVariables false
set_option linter.unusedSimpArgs false

/-- Each region's destinations are slots. -/
def codeOK (n : Nat) : Code → Bool
  | .region _ ops _ => dstsOK n ops.toList
  | .seq a b => codeOK n a && codeOK n b
  | .cond _ a b => codeOK n a && codeOK n b
  | .block _ b | .loop b | .scope b => codeOK n b
  | _ => true

def Ex.exit : Ex → Exit
  | .nrm => .normal
  | .ext i => .exit i
  | .ret => .ret

section
variable {P : Program} {E : Ent} {cx : Cx} {an : Ann}

/-- What holds behind a run. -/
def Upon (E : Ent) (n : Nat) (ds : List Deferred) (r : Ex × ST) (Q : Exit → Act → World → Prop) : Prop :=
  ∀ a w, SR E r.2 a.tmps w → a.tmps.size = n → a.defers = ds → Q r.1.exit a w

theorem loopN_sound {n : Nat} {ds : List Deferred} {f : ST → Option (Ex × ST)} {b : Code}
    (hb : ∀ s a w r Q, SR E s a.tmps w → a.tmps.size = n → a.defers = ds → f s = some r → Upon E n ds r Q → b.wp P Q a w) {Q : Exit → Act → World → Prop} :
    ∀ (k : Nat) (s : ST) (a : Act) (w : World) (r : Ex × ST), SR E s a.tmps w → a.tmps.size = n → a.defers = ds → loopN k f s = some r → Upon E n ds r Q → Code.rounds P b Q k a w
  | 0, s, a, w, r, _, _, _, h, _ => by simp [loopN] at h
  | k + 1, s, a, w, r, hs, hn, hd, h, hQ => by
    simp only [loopN] at h
    rw [rounds_succ]
    split at h
    · rename_i s' h1
      refine hb s a w _ _ hs hn hd h1 fun a' w' h2 h3 h4 => ?_
      exact loopN_sound hb k s' a' w' r h2 h3 h4 h hQ
    · rename_i hne
      refine hb s a w r _ hs hn hd h fun a' w' h2 h3 h4 => ?_
      have := hQ a' w' h2 h3 h4
      obtain ⟨ex, s'⟩ := r
      cases ex with
      | nrm => exact absurd h (hne s')
      | ext i => exact this
      | ret => exact this

theorem exec_sound (hc : CxOK P E cx) (hm : P.follows .mixedOrders = true) (hl : ∀ id, (an id).live.Nodup) {n k : Nat} : ∀ (c : Code), codeOK n c = true → ∀ (s : ST) (a : Act) (w : World) (r : Ex × ST) (Q : Exit → Act → World → Prop),
    SR E s a.tmps w → a.tmps.size = n → exec cx an k c s = some r → Upon E n a.defers r Q → c.wp P Q a w
  | .skip, _, s, a, w, r, Q, hs, hn, h, hQ => by
    simp only [exec] at h; obtain rfl := Option.some.inj h
    exact wp_skip (hQ a w hs hn rfl)
  | .label _, _, s, a, w, r, Q, hs, hn, h, hQ => by
    simp only [exec] at h; obtain rfl := Option.some.inj h
    exact wp_label (hQ a w hs hn rfl)
  | .region id ops draw, hok, s, a, w, r, Q, hs, hn, h, hQ => by
    simp only [exec] at h
    split at h
    · rename_i s' h1
      obtain rfl := Option.some.inj h
      exact region_sound hc hm (by rw [hn]; exact hok) (hl id) hs h1 fun a' w' h2 h3 h4 => hQ a' w' h2 (h3.trans hn) h4
    · simp at h
  | .seq x y, hok, s, a, w, r, Q, hs, hn, h, hQ => by
    simp only [codeOK, Bool.and_eq_true] at hok
    simp only [exec] at h
    refine wp_seq ?_
    split at h
    · rename_i s' h1
      exact exec_sound hc hm hl x hok.1 s a w _ _ hs hn h1 fun a' w' h2 h3 h4 => exec_sound hc hm hl y hok.2 s' a' w' r Q h2 h3 h (by rw [h4]; exact hQ)
    · rename_i hne
      refine exec_sound hc hm hl x hok.1 s a w r _ hs hn h fun a' w' h2 h3 h4 => ?_
      have := hQ a' w' h2 h3 h4
      obtain ⟨ex, s'⟩ := r
      cases ex with
      | nrm => exact absurd h (hne s')
      | ext i => exact this
      | ret => exact this
  | .cond c x y, hok, s, a, w, r, Q, hs, hn, h, hQ => by
    simp only [codeOK, Bool.and_eq_true] at hok
    simp only [exec] at h
    split at h
    · rename_i t h1
      obtain ⟨Φ, μ, BF, BH, hF, _, _, hI⟩ := id hs
      have hv := rd_sound (a := a) hF rfl (fun g x hx => (hc.glob.1 g x hx).mono hI.sub) h1
      have he : a.eval c = .bool t := by
        have := hv.1
        generalize a.eval c = v at this
        cases this; rfl
      refine wp_cond he ?_
      cases t with
      | true => rw [cond_true] at h; rw [if_pos rfl]; exact exec_sound hc hm hl x hok.1 s a w r Q hs hn h hQ
      | false => rw [cond_false] at h; rw [if_neg (by decide)]; exact exec_sound hc hm hl y hok.2 s a w r Q hs hn h hQ
    · simp at h
  | .block id b, hok, s, a, w, r, Q, hs, hn, h, hQ => by
    simp only [exec] at h
    refine wp_block ?_
    split at h
    · rename_i i s' h1
      split at h
      · rename_i hi
        obtain rfl := Option.some.inj h
        refine exec_sound hc hm hl b hok s a w _ _ hs hn h1 fun a' w' h2 h3 h4 => ?_
        show Exit.inBlock id Q (.exit i) a' w'
        simp only [Exit.inBlock, hi, if_true]
        exact hQ a' w' h2 h3 h4
      · rename_i hi
        obtain rfl := Option.some.inj h
        refine exec_sound hc hm hl b hok s a w _ _ hs hn h1 fun a' w' h2 h3 h4 => ?_
        show Exit.inBlock id Q (.exit i) a' w'
        simp only [Exit.inBlock, hi, if_false]
        exact hQ a' w' h2 h3 h4
    · rename_i hne
      refine exec_sound hc hm hl b hok s a w r _ hs hn h fun a' w' h2 h3 h4 => ?_
      have := hQ a' w' h2 h3 h4
      obtain ⟨ex, s'⟩ := r
      cases ex with
      | nrm => exact this
      | ext i => exact absurd h (hne i s')
      | ret => exact this
  | .loop b, hok, s, a, w, r, Q, hs, hn, h, hQ => by
    simp only [exec] at h
    exact wp_loop_rounds k (loopN_sound (ds := a.defers) (fun s' a' w' r' Q' h1 h2 h3 h4 h5 => exec_sound hc hm hl b hok s' a' w' r' Q' h1 h2 h4 (by rw [h3]; exact h5)) k s a w r hs hn rfl h hQ)
  | .exit id, _, s, a, w, r, Q, hs, hn, h, hQ => by
    simp only [exec] at h; obtain rfl := Option.some.inj h
    exact wp_exit (hQ a w hs hn rfl)
  | .scope b, hok, s, a, w, r, Q, hs, hn, h, hQ => by
    simp only [exec] at h
    refine wp_scope_straight (exec_sound hc hm hl b hok s a w r _ hs hn h fun a' w' h2 h3 h4 => ?_)
    have := hQ a' w' h2 h3 h4
    obtain ⟨ex, s'⟩ := r
    cases ex <;> exact this
  | .ret, _, s, a, w, r, Q, hs, hn, h, hQ => by
    simp only [exec] at h; obtain rfl := Option.some.inj h
    exact wp_ret (hQ a w hs hn rfl)
  | .goto _, _, s, a, w, r, Q, hs, hn, h, hQ => by simp [exec] at h
  | .refuse _, _, s, a, w, r, Q, hs, hn, h, hQ => by simp [exec] at h
  | .rangeFunc _ _ _ _, _, s, a, w, r, Q, hs, hn, h, hQ => by simp [exec] at h

end
end Go.AI
