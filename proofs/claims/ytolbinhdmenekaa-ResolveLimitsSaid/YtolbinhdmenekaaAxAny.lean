/- A region that draws its order: the walk of the text's order serves every order. -/
import Derived.Test.YtolbinhdmenekaaAxSwap
import Derived.Still
namespace Go.AI
set_option linter.unusedVariables false
set_option linter.unusedSimpArgs false

section
variable {cx : Cx} {an : RA} {ops : Array Oper} {F : Nat → Foot}

theorem Sim.refl (s : ST) : Sim s s := ⟨fun _ => rfl, rfl⟩
theorem Sim.symm {s s' : ST} (h : Sim s s') : Sim s' s := ⟨fun t => (h.1 t).symm, h.2.symm⟩
theorem Sim.trans {s s' s'' : ST} (h : Sim s s') (h' : Sim s' s'') : Sim s s'' := ⟨fun t => (h.1 t).trans (h'.1 t), h.2.trans h'.2⟩

theorem step_sim {os : List Oper} {i : Nat} {o : Oper} {s s1 s' : ST} (h : stepOp cx an os i o s = some s1) (hs : Sim s s') :
    ∃ s1', stepOp cx an os i o s' = some s1' ∧ (stepFt cx an os i o s').ft = (stepFt cx an os i o s).ft ∧ Sim s1 s1' := by
  obtain ⟨v, e, hd⟩ := step_did h
  obtain ⟨h1, h2⟩ := hd.move s' (fun t _ => .inl (hs.1 t).symm) (by
    cases hf : (stepFt cx an os i o s).ft with
    | rL u lo n => obtain ⟨c, hc⟩ := hd.boxed u lo n (.inl hf); exact ⟨c, c, hc, by rw [← hs.1]; exact hc, rfl, fun _ _ _ => rfl⟩
    | wL u lo n => obtain ⟨c, hc⟩ := hd.boxed u lo n (.inr hf); exact ⟨c, c, hc, by rw [← hs.1]; exact hc, rfl, fun _ _ _ => rfl⟩
    | rH => exact hs.2.symm
    | wH => exact hs.2.symm
    | non => trivial
    | adr t => trivial)
  refine ⟨_, h1, h2, fun t => ?_, ?_⟩
  · rw [hd.fr]
    show get (put o.dst v (e.app s.fr)) t = get (put o.dst v (e.app s'.fr)) t
    by_cases hdt : o.dst = some t
    · rw [hdt, get_step_dst, get_step_dst]
    · rw [get_step hdt, get_step hdt, hs.1]
  · show s1.H = if _ then s1.H else s'.H
    split
    · rfl
    · rename_i hne; rw [hd.H hne, hs.2]

/-- Operation 'o' stands behind operation 'i'. -/
inductive Reach (ops : Array Oper) (i : Nat) : Oper → Prop
  | here {o : Oper} {g : Edge} : g ∈ o.after → Region.binds .any g = true → g.on = i → Reach ops i o
  | far {o p : Oper} {g : Edge} : g ∈ o.after → Region.binds .any g = true → ops[g.on]? = some p → Reach ops i p → Reach ops i o

theorem reachB_spec {i : Nat} : ∀ (n : Nat) {o : Oper}, reachB ops.toList i n o = true → Reach ops i o
  | 0, _, h => by simp [reachB] at h
  | n + 1, o, h => by
    unfold reachB at h
    rw [List.any_eq_true] at h
    obtain ⟨g, hg, h⟩ := h
    have hg' : g ∈ o.after := by simpa using hg
    simp only [Bool.and_eq_true, Bool.or_eq_true, beq_iff_eq] at h
    rcases h with ⟨h1, h2 | h2⟩
    · exact .here hg' h1 h2
    · split at h2
      · rename_i p hp
        exact .far hg' h1 (by simpa using hp) (reachB_spec n h2)
      · simp at h2

/-- What stands ahead of what is listed, is listed. -/
def Closed (ops : Array Oper) (listed : Array Bool) : Prop := ∀ p o, ops[p]? = some o → listed.getD p false = true → ∀ e ∈ o.after, Region.binds .any e = true → listed.getD e.on false = true

theorem Closed.set {listed : Array Bool} (h : Closed ops listed) {j : Nat} (hj : j ∈ Region.ready .any ops listed) : Closed ops (listed.setIfInBounds j true) := by
  intro p o ho hp e he hb
  by_cases hpj : j = p
  · subst hpj
    obtain ⟨_, o', ho', hall⟩ := mem_ready.1 hj
    rw [ho] at ho'; obtain rfl := Option.some.inj ho'
    exact getD_set_true (hall e he hb)
  · rw [getD_set_ne false hpj] at hp
    exact getD_set_true (h p o ho hp e he hb)

theorem Reach.not {listed : Array Bool} (h : Closed ops listed) {i : Nat} (hi : listed.getD i true = false) {o : Oper} (hr : Reach ops i o) : (∀ e ∈ o.after, Region.binds .any e = true → listed.getD e.on false = true) → False := by
  induction hr with
  | here h1 h2 h3 =>
    intro hall
    have := hall _ h1 h2
    rw [h3] at this
    rcases Nat.lt_or_ge i listed.size with h' | h'
    · simp [h'] at hi this; rw [hi] at this; cases this
    · simp [Array.getElem?_eq_none h'] at this
  | far h1 h2 h3 _ ih => intro hall; exact ih (h _ _ h3 (hall _ h1 h2))

/-- Every order: each operation that is ready may be taken, and leaves the same foot in all of them. -/
def AnyA (cx : Cx) (an : RA) (ops : Array Oper) (F : Nat → Foot) (G : ST → Prop) : Nat → Array Bool → ST → Prop
  | 0, listed, s => Region.ready .any ops listed = [] ∧ G s
  | n + 1, listed, s => (Region.ready .any ops listed = [] → G s) ∧
    ∀ i ∈ Region.ready .any ops listed, ∃ o s1, ops[i]? = some o ∧ stepOp cx an ops.toList i o s = some s1 ∧ (stepFt cx an ops.toList i o s).ft = F i ∧ AnyA cx an ops F G n (listed.setIfInBounds i true) s1

theorem AnyA.sim {G : ST → Prop} (hG : ∀ s s', Sim s s' → G s → G s') : ∀ (n : Nat) (listed : Array Bool) {s s' : ST}, Sim s s' → AnyA cx an ops F G n listed s → AnyA cx an ops F G n listed s'
  | 0, _, s, s', hs, h => ⟨h.1, hG s s' hs h.2⟩
  | n + 1, _, s, s', hs, h => ⟨fun h0 => hG s s' hs (h.1 h0), fun i hi => by
    obtain ⟨o, s1, ho, h1, h2, h3⟩ := h.2 i hi
    obtain ⟨s1', h4, h5, h6⟩ := step_sim h1 hs
    exact ⟨o, s1', ho, h4, h5.trans h2, AnyA.sim hG n _ h6 h3⟩⟩

theorem anyA_first {G : ST → Prop} (hG : ∀ s s', Sim s s' → G s → G s') {i : Nat} {oi : Oper} (hi : ops[i]? = some oi) :
    ∀ (n : Nat) (listed : Array Bool) {s s1 : ST}, Closed ops listed →
      (∀ j oj, ops[j]? = some oj → j ≠ i → listed.getD j true = false → (∀ e ∈ oj.after, Region.binds .any e = true → e.on ≠ i) → ¬ Reach ops i oj → Apart an ops.toList i j oi oj (F i) (F j)) →
      i ∈ Region.ready .any ops listed → stepOp cx an ops.toList i oi s = some s1 → (stepFt cx an ops.toList i oi s).ft = F i →
      AnyA cx an ops F G n (listed.setIfInBounds i true) s1 → AnyA cx an ops F G (n + 1) listed s := by
  intro n
  induction n with
  | zero =>
    intro listed s s1 _ _ hr h1 h2 H
    refine ⟨fun h => (by rw [h] at hr; cases hr), fun j hj => ?_⟩
    by_cases hji : j = i
    · subst hji; exact ⟨oi, s1, hi, h1, h2, H⟩
    · have := ready_mono hj hji
      rw [H.1] at this
      cases this
  | succ n ih =>
    intro listed s s1 hcl hfree hr h1 h2 H
    refine ⟨fun h => (by rw [h] at hr; cases hr), fun j hj => ?_⟩
    by_cases hji : j = i
    · subst hji; exact ⟨oi, s1, hi, h1, h2, H⟩
    · obtain ⟨oj, s2, hoj, h3, h4, h5⟩ := H.2 j (ready_mono hj hji)
      obtain ⟨hjun, oj', hoj', hall⟩ := mem_ready.1 hj
      rw [hoj] at hoj'
      obtain rfl := Option.some.inj hoj'
      have hnot : ∀ e ∈ oj.after, Region.binds .any e = true → e.on ≠ i := fun e he hb heq => by
        have h1 := hall e he hb
        have h0 := (mem_ready.1 hr).1
        rw [heq] at h1
        rcases Nat.lt_or_ge i listed.size with h' | h'
        · simp [h'] at h0 h1; rw [h0] at h1; cases h1
        · simp [Array.getElem?_eq_none h'] at h1
      have hnr : ¬ Reach ops i oj := fun hreach => hreach.not hcl (mem_ready.1 hr).1 hall
      have ap := hfree j oj hoj hji hjun hnot hnr
      obtain ⟨t1, t2, g1, g2, g3, g4, g5⟩ := swap h1 h3 (by rw [h2, h4]; exact ap)
      have hfree' : ∀ k ok, ops[k]? = some ok → k ≠ i → (listed.setIfInBounds j true).getD k true = false →
          (∀ e ∈ ok.after, Region.binds .any e = true → e.on ≠ i) → ¬ Reach ops i ok → Apart an ops.toList i k oi ok (F i) (F k) := fun k ok hk hki hun hno hnr => by
        refine hfree k ok hk hki ?_ hno hnr
        by_cases hjk : j = k
        · subst hjk; exact hjun
        · rw [getD_set_ne true hjk] at hun; exact hun
      refine ⟨oj, t1, hoj, g1, g2.trans h4, ?_⟩
      refine ih (listed.setIfInBounds j true) (hcl.set hj) hfree' (ready_mono hr (Ne.symm hji)) g3 (g4.trans h2) ?_
      rw [Array.setIfInBounds_comm _ _ hji]
      exact AnyA.sim hG _ _ g5 h5

/-! ### The check of the text's order -/

theorem apartFrom_spec {os : List Oper} {st : List Nat} {i : Nat} {oi : Oper} {fi : Ft} : ∀ {l : List Oper} {j : Nat} {fs : List Ft}, apartFrom os st i oi fi j l fs = true →
    ∀ m om, l[m]? = some om → ∃ fm, fs[m]? = some fm ∧ apart2 os st i (j + m) oi om fi fm = true
  | [], j, fs, _, m, om, hm => by simp at hm
  | oj :: l, j, [], h, m, om, hm => by simp [apartFrom] at h
  | oj :: l, j, f :: fs, h, m, om, hm => by
    simp only [apartFrom, Bool.and_eq_true] at h
    cases m with
    | zero => simp at hm; subst hm; exact ⟨f, rfl, h.1⟩
    | succ m =>
      obtain ⟨fm, h1, h2⟩ := apartFrom_spec h.2 m om (by simpa using hm)
      exact ⟨fm, by simpa using h1, by rw [show j + (m + 1) = j + 1 + m by omega]; exact h2⟩

theorem shares_spec {x y : Oper} (h : shares x y = false) : ∀ t, t ∈ tmpsOf x.op.operands.toList → t ∉ tmpsOf y.op.operands.toList := fun t h1 h2 => by
  rw [mem_tmpsOf] at h1 h2
  have : shares x y = true := by
    unfold shares
    rw [List.any_eq_true]
    refine ⟨_, h1, ?_⟩
    simp only
    rw [List.any_eq_true]
    exact ⟨_, h2, by simp⟩
  rw [h] at this; cases this

theorem nw_run : ∀ {l : List Oper} {k : Nat} {s : ST} {m : Nat} {om : Oper} {fm : Ft}, l[m]? = some om → (runFts cx an ops.toList k l s)[m]? = some fm → fm.nw = om.dst
  | [], k, s, m, om, fm, h, _ => by simp at h
  | o :: l, k, s, m, om, fm, h, h' => by
    simp only [runFts] at h'
    cases m with
    | zero =>
      simp at h h'
      subst h; subst h'
      unfold stepFt
      split
      · split <;> rfl
      · rfl
    | succ m =>
      simp only [List.getElem?_cons_succ] at h h'
      split at h'
      · exact nw_run h h'
      · simp at h'

theorem looksAt_iff {o : Oper} {t : Nat} : t ∈ o.looksAt ops ↔ (t ∈ tmpsOf o.op.operands.toList ∨ ∃ g want og, o.guard = some (g, want) ∧ ops.toList[g]? = some og ∧ og.dst = some t) := by
  unfold Oper.looksAt
  rw [List.mem_append]
  refine or_congr ?_ ?_
  · rw [mem_tmpsOf, List.mem_filterMap]
    constructor
    · rintro ⟨x, hx, h⟩
      cases x <;> simp at h
      subst h; exact hx
    · intro h; exact ⟨_, h, rfl⟩
  · cases hg : o.guard with
    | none => simp
    | some jw =>
      obtain ⟨j, want⟩ := jw
      cases hj : ops[j]? with
      | none => simp [hj]
      | some oj => simp [hj]; 

theorem apart_of {i j : Nat} {oi oj : Oper} {fi fj : Ft} (hk : oi.apart ops oj = true) (h2 : apart2 ops.toList an.st i j oi oj fi fj = true) (hnr : ¬ Reach ops i oj) (hno : ∀ e ∈ oj.after, Region.binds .any e = true → e.on ≠ i) (hi : fi.nw = oi.dst) (hj : fj.nw = oj.dst) :
    Apart an ops.toList i j oi oj fi.ft fj.ft := by
  obtain ⟨h3, h4, h5⟩ := Oper.apart_spec hk
  unfold apart2 at h2
  have hb : oj.after.any (fun g => Region.binds .any g && g.on == i) = false := by
    rw [← Bool.not_eq_true]
    intro h
    obtain ⟨e, he, hb⟩ := Array.any_eq_true'.1 h
    simp only [Bool.and_eq_true, beq_iff_eq] at hb
    exact hno e he hb.1 hb.2
  have hrb : reachB ops.toList i 8 oj = false := by
    rw [← Bool.not_eq_true]
    exact fun h => hnr (reachB_spec 8 h)
  rw [hb, Bool.false_or, hrb, Bool.or_false] at h2
  simp only [Bool.and_eq_true, Bool.not_eq_true', Ft.clash, Bool.or_eq_false_iff] at h2
  obtain ⟨⟨⟨h6, h7⟩, h8⟩, h9⟩ := h2
  refine ⟨fun d hd => ?_, h4, fun d hd => ?_, h6, fun d hd => ?_, fun d hd => ?_, fun hs => ?_⟩
  · have := h3 d hd; rw [looksAt_iff] at this; exact not_or.1 this
  · have := h5 d hd; rw [looksAt_iff] at this; exact not_or.1 this
  · rw [hi, hd] at h7; exact h7
  · rw [hj, hd] at h8; exact h8
  · rw [Bool.and_eq_false_iff] at h9
    rcases h9 with h9 | h9
    · simp only [Bool.or_eq_false_iff] at h9
      rcases hs with hs | hs
      · rw [h9.1] at hs; cases hs
      · rw [h9.2] at hs; cases hs
    · exact shares_spec h9

theorem anyA_lex {G : ST → Prop} (hG : ∀ s s', Sim s s' → G s → G s') : ∀ (l : List Oper) (k : Nat) (listed : Array Bool) {s s' : ST}, (∀ j, l[j]? = ops[k + j]?) → (∀ j, j < k → listed.getD j true = true) → Closed ops listed →
    Region.lexFrom .any ops l.length k listed = true → runOps cx an ops.toList k l s = some s' → apartAll ops.toList an.st k l (runFts cx an ops.toList k l s) = true →
    (∀ m f, (runFts cx an ops.toList k l s)[m]? = some f → F (k + m) = f.ft) → G s' → AnyA cx an ops F G l.length listed s
  | [], k, listed, s, s', _, _, _, hB, h, _, _, hg => by
    simp only [runOps] at h
    obtain rfl := Option.some.inj h
    exact ⟨by simpa [Region.lexFrom] using hB, hg⟩
  | o :: l, k, listed, s, s', hl, hls, hcl, hB, h, ha, hF, hg => by
    have h0 : ops[k]? = some o := by simpa using (hl 0).symm
    simp only [List.length_cons, Region.lexFrom, Bool.and_eq_true] at hB
    obtain ⟨⟨hr, hf⟩, hB'⟩ := hB
    simp only [runOps] at h
    split at h
    · rename_i s1 h1
      have hfts : runFts cx an ops.toList k (o :: l) s = stepFt cx an ops.toList k o s :: runFts cx an ops.toList (k + 1) l s1 := by simp only [runFts, h1]
      rw [hfts] at ha hF
      simp only [apartAll, Bool.and_eq_true] at ha
      have hFk : (stepFt cx an ops.toList k o s).ft = F k := (hF 0 _ rfl).symm
      refine anyA_first hG h0 l.length listed hcl ?_ (by simpa using hr) h1 hFk (anyA_lex hG l (k + 1) _ (fun j => by have := hl (j + 1); simpa [Nat.add_assoc, Nat.add_comm 1 j] using this) ?_ (hcl.set (by simpa using hr)) hB' h ha.2 ?_ hg)
      · intro j oj hoj hne hun hno hnr
        have hjk : k < j := by
          rcases Nat.lt_trichotomy j k with h' | h' | h'
          · rw [hls j h'] at hun; cases hun
          · exact absurd h' hne
          · exact h'
        have hm : l[j - k - 1]? = some oj := by
          have := hl (j - k)
          rw [show k + (j - k) = j by omega, hoj, show j - k = (j - k - 1) + 1 by omega, List.getElem?_cons_succ] at this
          exact this
        obtain ⟨fm, h4, h5⟩ := apartFrom_spec ha.1 (j - k - 1) oj hm
        have hFj : F j = fm.ft := by
          have := hF (j - k - 1 + 1) fm (by simpa using h4)
          rwa [show k + (j - k - 1 + 1) = j by omega] at this
        rw [show k + 1 + (j - k - 1) = j by omega] at h5
        rw [← hFk, hFj]
        refine apart_of (Region.free_spec h0 hf j oj hoj hne hun hno) h5 hnr hno ?_ (nw_run hm h4)
        unfold stepFt
        split
        · split <;> rfl
        · rfl
      · intro j hj
        by_cases hjk : k = j
        · subst hjk
          rcases Nat.lt_or_ge k listed.size with h' | h'
          · simp [h']
          · simp [Array.getElem?_eq_none h']
        · rw [getD_set_ne true hjk]; exact hls j (by omega)
      · intro m f hm
        have := hF (m + 1) f (by simpa using hm)
        rwa [show k + (m + 1) = k + 1 + m by omega] at this
    · simp at h

end

section
variable {P : Program} {E : Ent} {cx : Cx} {an : RA} {ops : Array Oper} {F : Nat → Foot}

theorem wpAny_of_anyA (hc : CxOK P E cx) {Q : Exit → Act → World → Prop} {n : Nat} (hd : dstsOK n ops.toList = true) {G : ST → Prop} {ds : List Deferred}
    (hQ : ∀ s a w, G s → SR E s a.tmps w → a.tmps.size = n → a.defers = ds → Q .normal a w) : ∀ (fuel : Nat) (listed : Array Bool) (s : ST) (a : Act) (w : World),
      AnyA cx an ops F G fuel listed s → SR E s a.tmps w → a.tmps.size = n → a.defers = ds → wpAny P .any ops Q fuel listed a w
  | 0, _, s, a, w, h, hs, hn, hdf => ⟨h.1, hQ s a w h.2 hs hn hdf⟩
  | fuel + 1, listed, s, a, w, h, hs, hn, hdf => ⟨fun h0 => hQ s a w (h.1 h0) hs hn hdf, fun i hi => by
    obtain ⟨o, s1, ho, h1, _, h2⟩ := h.2 i hi
    exact step_sound hc ho hs (by rw [hn]; exact hd) h1 fun a' w' h3 h4 h5 => wpAny_of_anyA hc hd hQ fuel _ s1 a' w' h2 h3 (h4.trans hn) (h5.trans hdf)⟩

theorem restrict_congr {fr fr' : Fr} (h : ∀ t, get fr t = get fr' t) : ∀ l, restrict fr l = restrict fr' l
  | [] => rfl
  | t :: l => by simp only [restrict, h, restrict_congr h l]

/-- A region. -/
theorem region_sound (hc : CxOK P E cx) (hm : P.follows .mixedOrders = true) {id : Nat} {draw : Bool} {Q : Exit → Act → World → Prop} {s s' : ST} {a : Act} {w : World} (hd : dstsOK a.tmps.size ops.toList = true) (hl : an.live.Nodup)
    (hs : SR E s a.tmps w) (h : runRegion cx an ops draw s = some s')
    (hQ : ∀ a' w', SR E s' a'.tmps w' → a'.tmps.size = a.tmps.size → a'.defers = a.defers → Q .normal a' w') : (Code.region id ops draw).wp P Q a w := by
  unfold runRegion at h
  split at h
  · rename_i s1 h1
    have hk : ∀ k : Nat, ops.toList[k]? = ops[0 + k]? := fun k => by simp
    cases draw with
    | false =>
      rw [cond_false] at h
      obtain rfl := Option.some.inj h
      refine wp_region ?_
      have := runOps_sound hc (Q := Q) hd ops.toList 0 (a := a) (w := w) rfl hk hs h1 fun a' w' h2 h3 h4 => hQ a' w' (h2.restrict hl) h3 h4
      rwa [Array.length_toList, ← List.range_eq_range'] at this
    | true =>
      rw [cond_true] at h
      cases hb : (Region.lexB .any ops && apartAll ops.toList an.st 0 ops.toList (runFts cx an ops.toList 0 ops.toList s)) with
      | false => rw [hb] at h; simp at h
      | true =>
        rw [hb, cond_true] at h
        obtain rfl := Option.some.inj h
        simp only [Bool.and_eq_true, Region.lexB] at hb
        obtain ⟨⟨_, hlex⟩, hap⟩ := hb
        let fts := runFts cx an ops.toList 0 ops.toList s
        have hany := anyA_lex (cx := cx) (an := an) (ops := ops) (F := fun i => (fts.getD i ⟨.non, none⟩).ft) (G := Sim s1) (fun s s' h h' => h'.trans h) ops.toList 0 (Array.replicate ops.size false) hk (fun j hj => absurd hj (by omega)) (fun p o ho hp => by
          have hlt := (Array.getElem?_eq_some_iff.1 ho).1
          simp [hlt] at hp)
          (by simpa using hlex) h1 hap (fun m f hm => by
            show (fts.getD (0 + m) ⟨.non, none⟩).ft = f.ft
            rw [Nat.zero_add, List.getD_eq_getElem?_getD]
            have : fts[m]? = some f := hm
            rw [this]; rfl) (Sim.refl s1)
        refine wp_region_any hm ?_
        rw [Array.length_toList] at hany
        refine wpAny_of_anyA hc hd (ds := a.defers) (fun s2 a' w' h2 h3 h4 h5 => hQ a' w' ?_ h4 h5) _ _ s a _ hany (hs.heap_eq rfl ⟨rfl, rfl, rfl⟩) rfl rfl
        have := h3.restrict (l := an.live) hl
        rw [restrict_congr h2.1, h2.2]
        exact this
  · simp at h
end
end Go.AI
