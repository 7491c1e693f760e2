/- Two steps that are apart may be taken in either order. -/
import Derived.Test.YtolbinhdmenekaaAxDraw
import Derived.Test.YtolbinhdmenekaaAxStep
namespace Go.AI
set_option linter.unusedVariables false
set_option linter.unusedSimpArgs false

/-- What an effect does to what a slot holds. -/
def boxAtD (bx : Option (Nat × Nat × List AV)) (t : Nat) (a : AV) : AV :=
  match bx, a with
  | some (u, lo, cs), .box b => if t = u then .box (setRange b lo cs) else .box b
  | _, a => a

def effAt (e : Eff) (t : Nat) (a : AV) : AV := boxAtD e.bx t (if t ∈ e.ds then dup a else a)

theorem boxAtD_nb {bx : Option (Nat × Nat × List AV)} {t : Nat} {a : AV} (h : ∀ c, a ≠ .box c) : boxAtD bx t a = a := by
  unfold boxAtD
  split
  · rename_i b; exact absurd rfl (h b)
  · rfl

theorem get_boxApp (bx : Option (Nat × Nat × List AV)) (fr : Fr) (t : Nat) : get (boxApp bx fr) t = (get fr t).map (boxAtD bx t) := by
  cases bx with
  | none => simp [boxApp, boxAtD]; cases get fr t <;> rfl
  | some x =>
    obtain ⟨u, lo, cs⟩ := x
    simp only [boxApp]
    split
    · rename_i b hb
      rw [get_upd]
      split
      · rename_i he
        rw [he, hb]
        simp [boxAtD]
      · rename_i hne
        cases hg : get fr t with
        | none => rfl
        | some a => cases a <;> simp [boxAtD, hne]
    · rename_i hb
      cases hg : get fr t with
      | none => rfl
      | some a =>
        cases a <;> simp [boxAtD]
        rename_i c
        intro he
        rw [he] at hg
        exact absurd hg (hb c)

theorem get_app (e : Eff) (fr : Fr) (t : Nat) : get (e.app fr) t = (get fr t).map (effAt e t) := by
  unfold Eff.app
  rw [get_boxApp, get_disL]
  split
  · rename_i h; cases get fr t <;> simp [effAt, h]
  · rename_i h; cases get fr t <;> simp [effAt, h]

/-- What a step makes of what a slot holds that is not its destination. -/
theorem get_step {dst : Option Nat} {v : AV} {e : Eff} {fr : Fr} {t : Nat} (h : dst ≠ some t) :
    get (put dst v (e.app fr)) t = (get fr t).map (fun a => (match dst with | some d => kill d | none => id) (effAt e t a)) := by
  cases dst with
  | none => simp only [put]; rw [get_app]; rfl
  | some d =>
    rw [get_put, if_neg (fun he => h (by rw [he])), get_app]
    cases get fr t <;> rfl

theorem get_step_dst {d : Nat} {v : AV} {fr : Fr} : get (put (some d) v fr) d = some (kill d v) := by rw [get_put, if_pos rfl]

theorem effAt_lp {e : Eff} {t u o : Nat} : effAt e t (.lp u o) = .lp u o := by
  unfold effAt
  have : (if t ∈ e.ds then dup (.lp u o) else .lp u o) = AV.lp u o := by split <;> rfl
  rw [this]
  exact boxAtD_nb (by simp)

theorem effAt_junk {e : Eff} {t : Nat} : effAt e t .junk = .junk := by
  unfold effAt
  have : (if t ∈ e.ds then dup .junk else .junk) = AV.junk := by split <;> rfl
  rw [this]
  exact boxAtD_nb (by simp)

theorem dup_lp {a : AV} {u o : Nat} (h : dup a = .lp u o) : a = .lp u o := by
  cases a <;> simp [dup, dupC] at h ⊢
  · split at h <;> simp at h
  · exact h

theorem boxAtD_lp {bx : Option (Nat × Nat × List AV)} {t u o : Nat} {a : AV} (h : boxAtD bx t a = .lp u o) : a = .lp u o := by
  unfold boxAtD at h
  split at h
  · split at h <;> simp at h
  · exact h

theorem lp_of_effAt {e : Eff} {t u o : Nat} {a : AV} (h : effAt e t a = .lp u o) : a = .lp u o := by
  unfold effAt at h
  have := boxAtD_lp h
  split at this
  · exact dup_lp this
  · exact this

theorem isLp_effAt {e : Eff} {t d : Nat} {a : AV} : isLp d (effAt e t a) = isLp d a := by
  cases h : effAt e t a with
  | lp u o => rw [lp_of_effAt h]
  | _ =>
    cases a with
    | lp u o => rw [effAt_lp] at h; cases h
    | _ => rfl

theorem kill_effAt {e : Eff} {t d : Nat} {a : AV} : kill d (effAt e t a) = effAt e t (kill d a) := by
  unfold kill
  rw [isLp_effAt]
  cases isLp d a with
  | true => simp [effAt_junk]
  | false => simp

theorem kill_not {d : Nat} {a : AV} (h : ∀ o, a ≠ .lp d o) : kill d a = a := by
  unfold kill
  have : isLp d a = false := by
    cases a <;> simp [isLp]
    rename_i u o
    rintro rfl
    exact h o rfl
  rw [this, cond_false]

theorem kill_kill {d d' : Nat} {a : AV} : kill d (kill d' a) = kill d' (kill d a) := by
  have hj : ∀ x, isLp x .junk = false := fun _ => rfl
  unfold kill
  cases h1 : isLp d a <;> cases h2 : isLp d' a <;> simp [h1, h2, hj]

theorem kill_ne_junk {d : Nat} {a : AV} (h : kill d a ≠ .junk) : kill d a = a := by
  unfold kill at h ⊢
  cases hl : isLp d a with
  | true => rw [hl] at h; simp at h
  | false => rfl

theorem kill_lp {d u o : Nat} {a : AV} (h : kill d a = .lp u o) : a = .lp u o := by
  unfold kill at h
  cases hl : isLp d a with
  | true => rw [hl] at h; simp at h
  | false => rw [hl] at h; exact h

theorem setRange_get {b cs : List AV} {lo : Nat} (h : lo + cs.length ≤ b.length) (k : Nat) : (setRange b lo cs)[k]? = if lo ≤ k ∧ k < lo + cs.length then cs[k - lo]? else b[k]? := by
  unfold setRange
  have hl : (b.take lo).length = lo := by simp; omega
  rw [List.getElem?_append]
  split
  · rename_i h1
    rw [hl] at h1
    rw [if_neg (by omega), List.getElem?_take, if_pos h1]
  · rename_i h1
    rw [hl] at h1 ⊢
    rw [List.getElem?_append]
    split
    · rename_i h2
      rw [if_pos (by omega)]
    · rename_i h2
      rw [if_neg (by omega), List.getElem?_drop]
      congr 1; omega

theorem setRange_len {b cs : List AV} {lo : Nat} (h : lo + cs.length ≤ b.length) : (setRange b lo cs).length = b.length := by
  unfold setRange; simp; omega

theorem setRange_comm {b cs cs' : List AV} {lo lo' : Nat} (h : lo + cs.length ≤ b.length) (h' : lo' + cs'.length ≤ b.length) (hd : lo + cs.length ≤ lo' ∨ lo' + cs'.length ≤ lo ∨ cs.length = 0 ∨ cs'.length = 0) :
    setRange (setRange b lo cs) lo' cs' = setRange (setRange b lo' cs') lo cs := by
  apply List.ext_getElem?
  intro k
  rw [setRange_get (by rw [setRange_len h]; exact h'), setRange_get h, setRange_get (by rw [setRange_len h']; exact h), setRange_get h']
  by_cases h1 : lo ≤ k ∧ k < lo + cs.length <;> by_cases h2 : lo' ≤ k ∧ k < lo' + cs'.length <;> simp only [h1, h2, if_true, if_false, and_self] <;> omega

/-! ### A step, told by its effect -/

/-- The slots that a step reads. -/
def Reads (ops : List Oper) (o : Oper) (fr : Fr) (t : Nat) : Prop :=
  (∃ j want oj, o.guard = some (j, want) ∧ ops[j]? = some oj ∧ oj.dst = some t) ∨ (guardOf ops fr o = some true ∧ t ∈ tmpsOf o.op.operands.toList)

structure Did (cx : Cx) (an : RA) (ops : List Oper) (i : Nat) (o : Oper) (s s1 : ST) (f : Foot) (v : AV) (e : Eff) : Prop where
  fr : s1.fr = put o.dst v (e.app s.fr)
  ds : ∀ t ∈ e.ds, t ∈ tmpsOf o.op.operands.toList
  st : an.st.contains i = false → e.ds = []
  bx : match e.bx with | none => True | some (u, lo, cs) => ∃ n c, f = .wL u lo n ∧ cs.length ≤ n ∧ get s.fr u = some (.box c) ∧ lo + cs.length ≤ c.length
  H : f ≠ .wH → s1.H = s.H
  ok : ∀ u o', v = .lp u o' → f.touches u = true
  tk : ∀ t, Reads ops o s.fr t → ∃ a, get s.fr t = some a ∧ a ≠ .junk ∧ ∀ u o', a = .lp u o' → f.touches u = true
  boxed : ∀ u lo n, f = .rL u lo n ∨ f = .wL u lo n → ∃ c, get s.fr u = some (.box c)
  move : ∀ s', (∀ t, Reads ops o s.fr t → SameAt s.fr s'.fr t) → FtOK s.fr s'.fr s.H s'.H f →
    stepOp cx an ops i o s' = some ⟨put o.dst v (e.app s'.fr), if f = .wH then s1.H else s'.H⟩ ∧ (stepFt cx an ops i o s').ft = f

theorem guard_same {ops : List Oper} {o : Oper} {fr fr' : Fr} (h : ∀ t, (∃ j want oj, o.guard = some (j, want) ∧ ops[j]? = some oj ∧ oj.dst = some t) → SameAt fr fr' t) : guardOf ops fr' o = guardOf ops fr o := by
  unfold guardOf
  cases hg : o.guard with
  | none => rfl
  | some jw =>
    obtain ⟨j, want⟩ := jw
    simp only
    cases hj : ops[j]? with
    | none => rfl
    | some oj =>
      simp only
      cases hd : oj.dst with
      | none => rfl
      | some d =>
        simp only
        rcases h d ⟨j, want, oj, hg, hj, hd⟩ with h | ⟨c, c', h1, h2⟩
        · rw [h]
        · rw [h1, h2]

theorem guard_reads {ops : List Oper} {o : Oper} {fr : Fr} {b : Bool} (hb : guardOf ops fr o = some b) {t : Nat} (h : ∃ j want oj, o.guard = some (j, want) ∧ ops[j]? = some oj ∧ oj.dst = some t) :
    ∃ a, get fr t = some a ∧ ((∃ b, a = .d (.bool b)) ∨ a = .undef) := by
  obtain ⟨j, want, oj, hg, hj, hd⟩ := h
  unfold guardOf at hb
  simp only [hg, hj, hd] at hb
  split at hb
  · rename_i b' h1; exact ⟨_, h1, .inl ⟨b', rfl⟩⟩
  · rename_i h1; exact ⟨_, h1, .inr rfl⟩
  · simp at hb

theorem step_did {cx : Cx} {an : RA} {ops : List Oper} {i : Nat} {o : Oper} {s s1 : ST} (h : stepOp cx an ops i o s = some s1) :
    ∃ v e, Did cx an ops i o s s1 (stepFt cx an ops i o s).ft v e := by
  unfold stepOp at h
  split at h
  · rename_i hg
    split at h
    · rename_i r hr
      cases hok : okV r.v r.ft with
      | false => rw [hok] at h; simp at h
      | true =>
      rw [hok, cond_true] at h
      obtain rfl := Option.some.inj h
      have hft : (stepFt cx an ops i o s).ft = r.ft := by simp only [stepFt, hg, hr]
      rw [hft]
      obtain ⟨e, h1, h2, h3, h4, h5, h6⟩ := aop_loc hr
      refine ⟨fixA (fxOf cx.P o.type) r.v, e, ⟨by simp [h1], h2, h3, h4, h5, ?_, ?_, ?_, ?_⟩⟩
      · intro u o' hv; rw [fixA_lp_inv hv] at hok; exact hok
      · rintro t (ht | ⟨_, ht⟩)
        · obtain ⟨a, h7, h8⟩ := guard_reads hg ht
          refine ⟨a, h7, ?_, ?_⟩ <;> rcases h8 with ⟨b, rfl⟩ | rfl <;> simp
        · exact aop_takes hr t ht
      · intro u lo n hf; exact aop_boxed hr hf
      · intro s' hs hf
        have hgs : guardOf ops s'.fr o = some true := by rw [← hg]; exact guard_same fun t ht => hs t (.inl ht)
        have := h6 s'.fr s'.H (fun t ht => hs t (.inr ⟨hg, ht⟩)) hf
        simp only [stepOp, stepFt, hgs, this, hok, cond_true, and_self]
    · simp at h
  · rename_i hg
    obtain rfl := Option.some.inj h
    have hft : (stepFt cx an ops i o s).ft = .non := by simp [stepFt, hg]
    rw [hft]
    refine ⟨.undef, ⟨[], none⟩, ⟨rfl, by simp, fun _ => rfl, trivial, fun _ => rfl, by simp, ?_, by simp, ?_⟩⟩
    · rintro t (ht | ⟨ht, _⟩)
      · obtain ⟨a, h7, h8⟩ := guard_reads hg ht
        refine ⟨a, h7, ?_, ?_⟩ <;> rcases h8 with ⟨b, rfl⟩ | rfl <;> simp
      · rw [hg] at ht; simp at ht
    · intro s' hs hf
      have hgs : guardOf ops s'.fr o = some false := by rw [← hg]; exact guard_same fun t ht => hs t (.inl ht)
      simp [stepOp, stepFt, hgs, Eff.app, boxApp, disL]
  · simp at h


/-! ### Two steps -/

theorem clash_comm (f g : Foot) : f.clash g = g.clash f := by
  cases f <;> cases g <;> first
    | rfl
    | (rw [Bool.eq_iff_iff]
       simp only [Foot.clash, Bool.and_eq_true, beq_iff_eq, decide_eq_true_eq]
       constructor <;> rintro ⟨⟨rfl, h1⟩, h2⟩ <;> exact ⟨⟨rfl, h2⟩, h1⟩)

theorem SameAt.symm {fr fr' : Fr} {t : Nat} (h : SameAt fr fr' t) : SameAt fr' fr t := by
  rcases h with h | ⟨c, c', h1, h2⟩
  · exact .inl h.symm
  · exact .inr ⟨c', c, h2, h1⟩

theorem dup_bool {a : AV} {x : Bool} (h : dup a = .d (.bool x)) : a = .d (.bool x) := by
  cases a <;> simp [dup, dupC] at h ⊢
  · exact h
  · split at h <;> simp at h

theorem dup_undef {a : AV} (h : dup a = .undef) : a = .undef := by
  cases a <;> simp [dup, dupC] at h ⊢
  · split at h <;> simp at h

theorem boxAtD_box {bx : Option (Nat × Nat × List AV)} {t : Nat} {a : AV} {c : List AV} (h : boxAtD bx t a = .box c) : ∃ b, a = .box b := by
  unfold boxAtD at h
  split at h
  · exact ⟨_, rfl⟩
  · exact ⟨_, h⟩

theorem box_of_step {dst : Option Nat} {e : Eff} {t : Nat} {a : AV} {c : List AV} (h : (match dst with | some d => kill d | none => id) (effAt e t a) = .box c) : ∃ b, a = .box b := by
  have h1 : effAt e t a = .box c := by
    cases dst with
    | none => exact h
    | some d =>
      have : kill d (effAt e t a) ≠ .junk := by
        intro he
        have h' : kill d (effAt e t a) = .box c := h
        rw [he] at h'; cases h'
      rw [← kill_ne_junk this]; exact h
  obtain ⟨b, hb⟩ := boxAtD_box h1
  split at hb
  · exact ⟨b, box_of_dup hb⟩
  · exact ⟨b, hb⟩

/-- A slot that another step reads: as it is before and behind. -/
theorem same_after {dst : Option Nat} {v : AV} {e : Eff} {fr : Fr} {t : Nat} {b : AV} (hd : dst ≠ some t) (hb : get fr t = some b) (hk : ∀ d o, dst = some d → b ≠ .lp d o) (hs : t ∉ e.ds ∨ (∃ x, b = .d (.bool x)) ∨ b = .undef) :
    SameAt fr (put dst v (e.app fr)) t := by
  have h1 := get_step (v := v) (e := e) (fr := fr) hd
  have h2 : effAt e t b = boxAtD e.bx t b := by
    unfold effAt
    split
    · rename_i h
      rcases hs with hs | ⟨x, rfl⟩ | rfl
      · exact absurd h hs
      · rfl
      · rfl
    · rfl
  rw [hb] at h1
  simp only [Option.map_some] at h1
  have h3 : (match dst with | some d => kill d | none => id) (effAt e t b) = effAt e t b := by
    cases dst with
    | none => rfl
    | some d => exact kill_not fun o he => hk d o rfl (lp_of_effAt he)
  rw [h3, h2] at h1
  unfold boxAtD at h1
  split at h1
  · rename_i u lo cs c hbx
    split at h1
    · exact .inr ⟨c, _, hb, h1⟩
    · exact .inl (by rw [h1, hb])
  · exact .inl (by rw [h1, hb])

theorem same_before {dst : Option Nat} {v : AV} {e : Eff} {fr : Fr} {t : Nat} {a : AV} (hd : dst ≠ some t) (ha : get (put dst v (e.app fr)) t = some a) (hj : a ≠ .junk) (hs : t ∉ e.ds ∨ (∃ x, a = .d (.bool x)) ∨ a = .undef) :
    SameAt (put dst v (e.app fr)) fr t := by
  have h1 := get_step (v := v) (e := e) (fr := fr) hd
  rw [ha] at h1
  cases hb : get fr t with
  | none => rw [hb] at h1; simp at h1
  | some b =>
    rw [hb] at h1
    simp only [Option.map_some, Option.some.injEq] at h1
    refine (same_after hd hb ?_ ?_).symm
    · rintro d o rfl rfl
      rw [effAt_lp] at h1
      exact hj (by rw [h1]; simp [kill, isLp])
    · have h2 : effAt e t b = a := by
        cases dst with
        | none => exact h1.symm
        | some d =>
          have h1' : a = kill d (effAt e t b) := h1
          rw [h1'] at hj ⊢
          exact (kill_ne_junk hj).symm
      rcases hs with hs | ⟨x, rfl⟩ | rfl
      · exact .inl hs
      · right; left
        refine ⟨x, ?_⟩
        unfold effAt boxAtD at h2
        split at h2
        · split at h2 <;> cases h2
        · split at h2
          · exact dup_bool h2
          · exact h2
      · right; right
        unfold effAt boxAtD at h2
        split at h2
        · split at h2 <;> cases h2
        · split at h2
          · exact dup_undef h2
          · exact h2

def BxOK (fr : Fr) (f : Foot) (e : Eff) : Prop :=
  match e.bx with | none => True | some (u, lo, cs) => ∃ n c, f = .wL u lo n ∧ cs.length ≤ n ∧ get fr u = some (.box c) ∧ lo + cs.length ≤ c.length

theorem ft_keep {dst : Option Nat} {v : AV} {e : Eff} {fr : Fr} {fi fj : Foot} (hbx : BxOK fr fi e) (hc : fi.clash fj = false) (ht : ∀ d, dst = some d → fj.touches d = false) {u lo n : Nat}
    (hf : fj = .rL u lo n ∨ fj = .wL u lo n) {c : List AV} (hg : get fr u = some (.box c)) :
    ∃ c', get (put dst v (e.app fr)) u = some (.box c') ∧ c'.length = c.length ∧ ∀ k, lo ≤ k → k < lo + n → c'[k]? = c[k]? := by
  have hu : fj.touches u = true := by rcases hf with rfl | rfl <;> simp [Foot.touches]
  have hd : dst ≠ some u := fun h => by rw [ht u h] at hu; cases hu
  have h1 := get_step (v := v) (e := e) (fr := fr) hd
  rw [hg] at h1
  simp only [Option.map_some] at h1
  have h3 : (match dst with | some d => kill d | none => id) (effAt e u (.box c)) = effAt e u (.box c) := by
    cases dst with
    | none => rfl
    | some d => exact kill_not fun o he => by have := lp_of_effAt he; cases this
  have h2 : effAt e u (.box c) = boxAtD e.bx u (.box c) := by unfold effAt; split <;> rfl
  rw [h3, h2] at h1
  unfold BxOK at hbx
  cases hb : e.bx with
  | none => rw [hb] at h1; exact ⟨c, h1, rfl, fun _ _ _ => rfl⟩
  | some x =>
    obtain ⟨u', lo', cs⟩ := x
    rw [hb] at h1 hbx
    obtain ⟨m, c0, rfl, h4, h5, h6⟩ := hbx
    simp only [boxAtD] at h1
    split at h1
    · rename_i he
      subst he
      rw [hg] at h5
      obtain rfl := AV.box.inj (Option.some.inj h5)
      refine ⟨_, h1, setRange_len h6, fun k hk1 hk2 => ?_⟩
      rw [setRange_get h6, if_neg]
      intro hk
      rcases hf with rfl | rfl <;> (simp [Foot.clash] at hc; omega)
    · exact ⟨c, h1, rfl, fun _ _ _ => rfl⟩

theorem eff_none {e : Eff} {t : Nat} {a : AV} (h : t ∉ e.ds) (hb : ∀ u lo cs, e.bx = some (u, lo, cs) → u ≠ t) : effAt e t a = a := by
  unfold effAt
  rw [if_neg h]
  unfold boxAtD
  split
  · rename_i u lo cs b hx
    rw [if_neg (fun he => hb u lo cs hx he.symm)]
  · rfl

theorem eff_comm {ei ej : Eff} {t : Nat} {b : AV} {fi fj : Foot} (hc : fi.clash fj = false)
    (hi : ∀ u lo cs, ei.bx = some (u, lo, cs) → ∃ n, fi = .wL u lo n ∧ cs.length ≤ n ∧ (u = t → ∀ c, b = .box c → lo + cs.length ≤ c.length))
    (hj : ∀ u lo cs, ej.bx = some (u, lo, cs) → ∃ n, fj = .wL u lo n ∧ cs.length ≤ n ∧ (u = t → ∀ c, b = .box c → lo + cs.length ≤ c.length)) :
    effAt ej t (effAt ei t b) = effAt ei t (effAt ej t b) := by
  by_cases hbx : ∃ c, b = .box c
  · obtain ⟨c, rfl⟩ := hbx
    have h2 : ∀ (e : Eff) (c : List AV), effAt e t (.box c) = boxAtD e.bx t (.box c) := fun e c => by unfold effAt; split <;> rfl
    have h3 : ∀ (bx : Option (Nat × Nat × List AV)) (c : List AV), ∃ c', boxAtD bx t (.box c) = .box c' := fun bx c => by
      unfold boxAtD; split
      · split <;> exact ⟨_, rfl⟩
      · exact ⟨_, rfl⟩
    obtain ⟨c1, e1⟩ := h3 ei.bx c
    obtain ⟨c2, e2⟩ := h3 ej.bx c
    rw [h2, h2, e1, e2, h2, h2]
    cases hxi : ei.bx with
    | none =>
      rw [hxi] at e1
      have e3 : AV.box c = .box c1 := e1
      obtain rfl := AV.box.inj e3
      exact e2
    | some x =>
      obtain ⟨u, lo, cs⟩ := x
      rw [hxi] at e1
      cases hxj : ej.bx with
      | none =>
        rw [hxj] at e2
        have e3 : AV.box c = .box c2 := e2
        obtain rfl := AV.box.inj e3
        exact e1.symm
      | some y =>
        obtain ⟨u', lo', cs'⟩ := y
        rw [hxj] at e2
        obtain ⟨n, rfl, h4, h5⟩ := hi _ _ _ hxi
        obtain ⟨n', rfl, h6, h7⟩ := hj _ _ _ hxj
        simp only [boxAtD] at e1 e2 ⊢
        split at e1
        · rename_i hu
          subst hu
          split at e2
          · rename_i hu'
            subst hu'
            simp only [if_true]
            obtain rfl := AV.box.inj e1
            obtain rfl := AV.box.inj e2
            congr 1
            refine setRange_comm (h5 rfl c rfl) (h7 rfl c rfl) ?_
            simp [Foot.clash] at hc
            omega
          · rename_i hu'
            simp only [if_neg hu']
            obtain rfl := AV.box.inj e1
            obtain rfl := AV.box.inj e2
            simp
        · rename_i hu
          simp only [if_neg hu]
          obtain rfl := AV.box.inj e1
          exact e2
  · have nb : ∀ (e : Eff) (a : AV), (∀ c, a ≠ .box c) → effAt e t a = (if t ∈ e.ds then dup a else a) ∧ ∀ c, effAt e t a ≠ .box c := fun e a ha => by
      have h0 : ∀ c, (if t ∈ e.ds then dup a else a) ≠ .box c := fun c => by
        split
        · exact fun h => ha c (box_of_dup h)
        · exact ha c
      have h1 : effAt e t a = (if t ∈ e.ds then dup a else a) := boxAtD_nb h0
      exact ⟨h1, by rw [h1]; exact h0⟩
    have hb : ∀ c, b ≠ .box c := fun c h => hbx ⟨c, h⟩
    rw [(nb ej _ (nb ei b hb).2).1, (nb ei _ (nb ej b hb).2).1, (nb ei b hb).1, (nb ej b hb).1]
    split <;> split <;> first | rfl | rw [dup_dup]

structure Apart (an : RA) (ops : List Oper) (i j : Nat) (oi oj : Oper) (fi fj : Foot) : Prop where
  ij : ∀ d, oi.dst = some d → d ∉ tmpsOf oj.op.operands.toList ∧ ¬ ∃ g want og, oj.guard = some (g, want) ∧ ops[g]? = some og ∧ og.dst = some d
  ne : ∀ d, oi.dst = some d → oj.dst ≠ some d
  ji : ∀ d, oj.dst = some d → d ∉ tmpsOf oi.op.operands.toList ∧ ¬ ∃ g want og, oi.guard = some (g, want) ∧ ops[g]? = some og ∧ og.dst = some d
  clash : fi.clash fj = false
  nij : ∀ d, oi.dst = some d → fj.touches d = false
  nji : ∀ d, oj.dst = some d → fi.touches d = false
  sh : an.st.contains i = true ∨ an.st.contains j = true → ∀ t, t ∈ tmpsOf oi.op.operands.toList → t ∉ tmpsOf oj.op.operands.toList

def Sim (s s' : ST) : Prop := (∀ t, get s.fr t = get s'.fr t) ∧ s.H = s'.H

theorem swap {cx : Cx} {an : RA} {ops : List Oper} {i j : Nat} {oi oj : Oper} {s s1 s2 : ST} (h1 : stepOp cx an ops i oi s = some s1) (h2 : stepOp cx an ops j oj s1 = some s2)
    (ap : Apart an ops i j oi oj (stepFt cx an ops i oi s).ft (stepFt cx an ops j oj s1).ft) :
    ∃ s1' s2', stepOp cx an ops j oj s = some s1' ∧ (stepFt cx an ops j oj s).ft = (stepFt cx an ops j oj s1).ft ∧
      stepOp cx an ops i oi s1' = some s2' ∧ (stepFt cx an ops i oi s1').ft = (stepFt cx an ops i oi s).ft ∧ Sim s2 s2' := by
  obtain ⟨vi, ei, hi⟩ := step_did h1
  obtain ⟨vj, ej, hj⟩ := step_did h2
  generalize (stepFt cx an ops i oi s).ft = fi at *
  generalize (stepFt cx an ops j oj s1).ft = fj at *
  have dsi : ∀ t, t ∈ ei.ds → an.st.contains i = true := fun t ht => by
    cases hh : an.st.contains i with
    | true => rfl
    | false => rw [hi.st hh] at ht; cases ht
  have dsj : ∀ t, t ∈ ej.ds → an.st.contains j = true := fun t ht => by
    cases hh : an.st.contains j with
    | true => rfl
    | false => rw [hj.st hh] at ht; cases ht
  have ndi : ∀ {t fr}, Reads ops oj fr t → oi.dst ≠ some t := fun hr hd => by
    rcases hr with hr | ⟨_, hr⟩
    · exact (ap.ij _ hd).2 hr
    · exact (ap.ij _ hd).1 hr
  have ndj : ∀ {t fr}, Reads ops oi fr t → oj.dst ≠ some t := fun hr hd => by
    rcases hr with hr | ⟨_, hr⟩
    · exact (ap.ji _ hd).2 hr
    · exact (ap.ji _ hd).1 hr
  -- a slot that the other one's destination is not, and that holds a box behind the step, holds one before it
  have back : ∀ u, fj.touches u = true → ∀ c, get s1.fr u = some (.box c) → ∃ c0, get s.fr u = some (.box c0) := fun u hu c hg => by
    have hd : oi.dst ≠ some u := fun h => by rw [ap.nij u h] at hu; cases hu
    rw [hi.fr, get_step hd] at hg
    cases hb : get s.fr u with
    | none => rw [hb] at hg; simp at hg
    | some b =>
      rw [hb] at hg
      simp only [Option.map_some, Option.some.injEq] at hg
      obtain ⟨c0, rfl⟩ := box_of_step hg
      exact ⟨c0, rfl⟩
  have bxi : BxOK s.fr fi ei := hi.bx
  -- the second one, taken first
  have sameJ : ∀ t, Reads ops oj s1.fr t → SameAt s1.fr s.fr t := fun t hr => by
    obtain ⟨a, ha, hnj, hlp⟩ := hj.tk t hr
    rw [hi.fr] at ha ⊢
    refine same_before (ndi hr) ha hnj ?_
    rcases hr with hr | ⟨_, hr⟩
    · right
      cases hg : guardOf ops s1.fr oj with
      | none => unfold stepOp at h2; rw [hg] at h2; simp at h2
      | some bb =>
        obtain ⟨a', h3, h4⟩ := guard_reads hg hr
        rw [hi.fr] at h3
        rw [ha] at h3
        obtain rfl := Option.some.inj h3
        exact h4
    · left
      intro ht
      exact ap.sh (.inl (dsi t ht)) t (hi.ds t ht) hr
  have ftJ : FtOK s1.fr s.fr s1.H s.H fj := by
    have cell : ∀ u lo n, fj = .rL u lo n ∨ fj = .wL u lo n → ∃ c c', get s1.fr u = some (.box c) ∧ get s.fr u = some (.box c') ∧ c'.length = c.length ∧ ∀ k, lo ≤ k → k < lo + n → c'[k]? = c[k]? := fun u lo n hf => by
      obtain ⟨c, hc⟩ := hj.boxed u lo n hf
      obtain ⟨c0, hc0⟩ := back u (by rcases hf with rfl | rfl <;> simp [Foot.touches]) c hc
      obtain ⟨c', h3, h4, h5⟩ := ft_keep (v := vi) bxi ap.clash ap.nij hf hc0
      rw [← hi.fr, hc] at h3
      obtain rfl := AV.box.inj (Option.some.inj h3)
      exact ⟨c, c0, hc, hc0, h4.symm, fun k h6 h7 => (h5 k h6 h7).symm⟩
    have hcl := ap.clash
    cases fj with
    | rL u lo n => exact cell u lo n (.inl rfl)
    | wL u lo n => exact cell u lo n (.inr rfl)
    | rH => exact (hi.H (by rintro rfl; simp [Foot.clash] at hcl)).symm
    | wH => exact (hi.H (by rintro rfl; simp [Foot.clash] at hcl)).symm
    | non => trivial
    | adr t => trivial
  obtain ⟨j1, j2⟩ := hj.move s sameJ ftJ
  -- the first one, taken behind it
  have bxj : BxOK s.fr fj ej := by
    have := hj.bx
    unfold BxOK
    cases hb : ej.bx with
    | none => trivial
    | some x =>
      obtain ⟨u, lo, cs⟩ := x
      rw [hb] at this
      obtain ⟨n, c, rfl, h3, h4, h5⟩ := this
      obtain ⟨c0, hc0⟩ := back u (by simp [Foot.touches]) c h4
      obtain ⟨c', h6, h7, _⟩ := ft_keep (v := vi) bxi ap.clash ap.nij (.inr rfl) hc0
      rw [← hi.fr, h4] at h6
      obtain rfl := AV.box.inj (Option.some.inj h6)
      exact ⟨n, c0, rfl, h3, hc0, by omega⟩
  have hcl' : fj.clash fi = false := by rw [clash_comm]; exact ap.clash
  have sameI : ∀ t, Reads ops oi s.fr t → SameAt s.fr (put oj.dst vj (ej.app s.fr)) t := fun t hr => by
    obtain ⟨a, ha, hnj, hlp⟩ := hi.tk t hr
    refine same_after (ndj hr) ha ?_ ?_
    · rintro d o hd rfl
      have := hlp d o rfl
      rw [ap.nji d hd] at this; cases this
    · rcases hr with hr | ⟨_, hr⟩
      · right
        cases hg : guardOf ops s.fr oi with
        | none => unfold stepOp at h1; rw [hg] at h1; simp at h1
        | some bb =>
          obtain ⟨a', h3, h4⟩ := guard_reads hg hr
          rw [ha] at h3
          obtain rfl := Option.some.inj h3
          exact h4
      · left
        intro ht
        exact ap.sh (.inr (dsj t ht)) t hr (hj.ds t ht)
  have ftI : FtOK s.fr (put oj.dst vj (ej.app s.fr)) s.H (if fj = .wH then s2.H else s.H) fi := by
    have cell : ∀ u lo n, fi = .rL u lo n ∨ fi = .wL u lo n → ∃ c c', get s.fr u = some (.box c) ∧ get (put oj.dst vj (ej.app s.fr)) u = some (.box c') ∧ c'.length = c.length ∧ ∀ k, lo ≤ k → k < lo + n → c'[k]? = c[k]? := fun u lo n hf => by
      obtain ⟨c, hc⟩ := hi.boxed u lo n hf
      obtain ⟨c', h3, h4, h5⟩ := ft_keep (v := vj) bxj hcl' ap.nji hf hc
      exact ⟨c, c', hc, h3, h4, h5⟩
    have hcl := ap.clash
    cases fi with
    | rL u lo n => exact cell u lo n (.inl rfl)
    | wL u lo n => exact cell u lo n (.inr rfl)
    | rH => exact if_neg (by rintro rfl; simp [Foot.clash] at hcl)
    | wH => exact if_neg (by rintro rfl; simp [Foot.clash] at hcl)
    | non => trivial
    | adr t => trivial
  obtain ⟨i1, i2⟩ := hi.move ⟨put oj.dst vj (ej.app s.fr), if fj = .wH then s2.H else s.H⟩ sameI ftI
  refine ⟨_, _, j1, j2, i1, i2, fun t => ?_, ?_⟩
  · show get s2.fr t = get (put oi.dst vi (ei.app (put oj.dst vj (ej.app s.fr)))) t
    have bi : ∀ u lo cs, ei.bx = some (u, lo, cs) → fi.touches u = true := fun u lo cs hb => by
      have := hi.bx; rw [hb] at this; obtain ⟨n, c, rfl, _⟩ := this; simp [Foot.touches]
    have bj : ∀ u lo cs, ej.bx = some (u, lo, cs) → fj.touches u = true := fun u lo cs hb => by
      have := hj.bx; rw [hb] at this; obtain ⟨n, c, rfl, _⟩ := this; simp [Foot.touches]
    rw [hj.fr, hi.fr]
    by_cases hdj : oj.dst = some t
    · have hdi : oi.dst ≠ some t := fun h => ap.ne t h hdj
      rw [get_step hdi, hdj, get_step_dst, get_step_dst]
      simp only [Option.map_some]
      rw [eff_none (fun ht => (ap.ji t hdj).1 (hi.ds t ht)) (fun u lo cs hb he => by have := bi u lo cs hb; rw [he, ap.nji t hdj] at this; cases this)]
      cases hd : oi.dst with
      | none => rfl
      | some d =>
        congr 1
        refine (kill_not fun o he => ?_).symm
        have := hj.ok d o (kill_lp he)
        rw [ap.nij d hd] at this; cases this
    · by_cases hdi : oi.dst = some t
      · rw [get_step hdj, hdi, get_step_dst, get_step_dst]
        simp only [Option.map_some]
        rw [eff_none (fun ht => (ap.ij t hdi).1 (hj.ds t ht)) (fun u lo cs hb he => by have := bj u lo cs hb; rw [he, ap.nij t hdi] at this; cases this)]
        cases hd : oj.dst with
        | none => rfl
        | some d =>
          congr 1
          refine kill_not fun o he => ?_
          have := hi.ok d o (kill_lp he)
          rw [ap.nji d hd] at this; cases this
      · rw [get_step hdj, get_step hdi, get_step hdi, get_step hdj]
        cases hb : get s.fr t with
        | none => rfl
        | some b =>
          simp only [Option.map_some, Option.some.injEq]
          have hcm : effAt ej t (effAt ei t b) = effAt ei t (effAt ej t b) := by
            refine eff_comm ap.clash (fun u lo cs hx => ?_) (fun u lo cs hx => ?_)
            · have := bxi; unfold BxOK at this; rw [hx] at this
              obtain ⟨n, c, h3, h4, h5, h6⟩ := this
              refine ⟨n, h3, h4, fun he c' hc => ?_⟩
              subst he; subst hc
              rw [hb] at h5
              obtain rfl := AV.box.inj (Option.some.inj h5)
              exact h6
            · have := bxj; unfold BxOK at this; rw [hx] at this
              obtain ⟨n, c, h3, h4, h5, h6⟩ := this
              refine ⟨n, h3, h4, fun he c' hc => ?_⟩
              subst he; subst hc
              rw [hb] at h5
              obtain rfl := AV.box.inj (Option.some.inj h5)
              exact h6
          cases hd : oi.dst with
          | none =>
            cases hd' : oj.dst with
            | none => exact hcm
            | some d' => simp only [id]; rw [← kill_effAt, hcm]
          | some d =>
            cases hd' : oj.dst with
            | none => simp only [id]; rw [← kill_effAt, hcm]
            | some d' => simp only []; rw [← kill_effAt, ← kill_effAt, hcm, kill_kill]
  · show s2.H = if fi = .wH then s1.H else if fj = .wH then s2.H else s.H
    have hcl := ap.clash
    by_cases h3 : fi = .wH
    · rw [if_pos h3]
      exact hj.H (by rintro rfl; rw [h3] at hcl; simp [Foot.clash] at hcl)
    · rw [if_neg h3]
      by_cases h4 : fj = .wH
      · rw [if_pos h4]
      · rw [if_neg h4, hj.H h4, hi.H h3]

end Go.AI
