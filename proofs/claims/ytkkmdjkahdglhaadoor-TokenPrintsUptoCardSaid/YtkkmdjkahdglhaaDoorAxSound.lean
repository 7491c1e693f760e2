/- One operation, whatever it is. -/
import Derived.Test.YtkkmdjkahdglhaaDoorAxMem5
namespace Go.AI
set_option linter.unusedVariables false
set_option linter.unusedSimpArgs false

/-- What an operation's answer must be. -/
def OpOK (E : Ent) (R : AI.R) (tm : Array Value) (P : Program) : Result Next → Prop
  | .ok (.value x) w => VR E R.v R.fr R.H tm x w
  | .ok .skip w => VR E R.v R.fr R.H tm Go.undef w
  | .ok (.enter f args) w => Calls P f args w fun e w' => ∃ x, e = .returned x ∧ VR E R.v R.fr R.H tm x w'
  | _ => False

/-- Every function that is called by its number has a body, and is no entry of the run-time's. -/
def ProgOK (P : Program) : Prop := ∀ (f : FuncId) (fn : Func), P.funcs[f]? = some fn → fn.name ≠ "runtime.NumGoroutine"

theorem callFunc_run {P : Program} (hP : ProgOK P) {f : FuncId} {fn : Func} (hf : P.funcs[f]? = some fn) (hb : fn.body.isSome) (args : Array Value) (w : World) :
    (callFunc f args).run P w = .ok (.enter f args) w := by
  have hn := hP f fn hf
  cases hbb : fn.body with
  | none => rw [hbb] at hb; simp at hb
  | some c => simp [callFunc, hf, hn, hbb]

/-- What is called has a body. -/
def CallBody (P : Program) (call : FuncId → List AV → Hp → Option (AV × Hp)) : Prop := ∀ f as H r, call f as H = some r → ∃ fn : Func, P.funcs[f]? = some fn ∧ fn.body.isSome

section
variable {P : Program} {E : Ent} {w : World} {tm : Array Value} {fr : Fr} {H : Hp} {cx : Cx} {a : Act}

theorem nodup_of_perm3 {BV BF C B BH : List Nat} (h : (BV ++ BF ++ C).Perm B) (hn : (B ++ BH).Nodup) : (BV ++ (BF ++ BH)).Nodup := by
  have h1 : (BV ++ (BF ++ BH) ++ C).Perm (B ++ BH) := by
    have : (BV ++ (BF ++ BH) ++ C).Perm (BV ++ BF ++ C ++ BH) := by
      simp only [List.append_assoc]
      exact List.Perm.append_left _ (List.Perm.append_left _ List.perm_append_comm)
    exact this.trans (List.Perm.append_right _ h)
  exact (List.nodup_append.1 (h1.nodup_iff.2 hn)).1

theorem sub_of_perm3 {BV BF C B BH : List Nat} (h : (BV ++ BF ++ C).Perm B) : ∀ r ∈ BV ++ (BF ++ BH), r ∈ B ++ BH := fun r hr => by
  rcases List.mem_append.1 hr with hr | hr
  · exact List.mem_append_left _ (h.subset (by simp [hr]))
  · rcases List.mem_append.1 hr with hr | hr
    · exact List.mem_append_left _ (h.subset (by simp [hr]))
    · exact List.mem_append_right _ hr

/-- A box's slot, found through a pointer into it. -/
theorem lp_box {e : Env} {B : List Nat} (hF : FR e tm fr B) {u off : Nat} {v : Value} (hl : AR e tm (.lp u off) v []) {cs : List AV} (hg : get fr u = some (.box cs)) :
    ∃ r B1 B2, v = .pointer (some ⟨r, off, none⟩) ∧ BlkR e cs r B1 ∧ (B1 ++ B2).Perm B ∧
      ∀ (e' : Env) (cs' : List AV) (B' : List Nat), BlkR e' cs' r B' → Step e e' B2 → ∃ B'', FR e' tm (upd u (.box cs') fr) B'' ∧ B''.Perm (B' ++ B2) := by
  obtain ⟨r, h1, rfl, _⟩ := hl
  obtain ⟨v', B1, B2, h2, ⟨r', rfl, hb⟩, h3, h4⟩ := hF.split hg
  rw [h1] at h2
  obtain rfl : r = r' := by injection h2 with h; injection h with h; injection h with h; injection h
  exact ⟨r, B1, B2, rfl, hb, h3, fun e' cs' B' hb' hs => h4 e' (.box cs') B' ⟨r, rfl, hb'⟩ hs⟩

/-- The world behind a store into an own block. -/
theorem store_world {Φ : Mem} {μ B : List Nat} {r : Nat} {vs' : Array Value} {cs : List AV} {B1 : List Nat} (hI : Inv E w Φ μ B) (hb : BlkR ⟨Φ, w.heap, μ⟩ cs r B1) (hr : r ∈ B) :
    (∀ C, r ∉ C → Step ⟨Φ, w.heap, μ⟩ ⟨Φ, (w.setRow r vs').heap, μ⟩ C) ∧ Inv E (w.setRow r vs') Φ μ B := by
  obtain ⟨vs, el, h1, h2, _⟩ := hb
  refine ⟨fun C hC => ⟨Sub.refl _, fun _ _ h => h, fun q hq => ⟨setRow_other w r q vs' (fun he => hC (he ▸ hq)), fun _ => rfl⟩⟩, ?_, by rw [setRow_heap_eq]; exact hI.size, hI.sub, hI.mu, fun q hq hx => ?_, hI.own, hI.io.trans ⟨rfl, rfl, rfl⟩⟩
  · intro q o v hv
    have hne : q ≠ r := fun he => by subst he; have := h2 o; simp only at this; rw [this] at hv; simp at hv
    obtain ⟨c, el', fz, h3, h4⟩ := hI.wok q o v hv
    exact ⟨c, el', fz, by rw [setRow_other w r q vs' hne]; exact h3, h4⟩
  · have hne : q ≠ r := fun he => by
      subst he
      rcases hI.own q hr with h | h
      · exact hx h
      · omega
    have hk := hI.keep q hq hx
    exact ⟨by rw [setRow_other w r q vs' hne]; exact hk.1, hk.2⟩


theorem OpOK.value {R : AI.R} {x : Value} {w' : World} {r : Result Next} (hr : r = .ok (.value x) w') (h : VR E R.v R.fr R.H tm x w') : OpOK E R tm P r := by rw [hr]; exact h

theorem run_v {s : Sem Value} {x : Value} {w' : World} (h : s.run P w = .ok x w') : (do pure (Next.value (← s)) : Sem Next).run P w = .ok (.value x) w' := by
  simp [h]

theorem load_sound {Φ : Mem} {μ BF BH : List Nat} (hcx : cx.P = P) (ht : a.tmps = tm) (hg : GOK cx.glob Φ) (hF : FR ⟨Φ, w.heap, μ⟩ tm fr BF) (hH : HR ⟨Φ, w.heap, μ⟩ H μ BH) (hN : (BF ++ BH).Nodup) (hI : Inv E w Φ μ (BF ++ BH))
    {st hf : Bool} {t : TypeId} {ad : Operand} {R : AI.R} (h : aop cx st hf fr H (.load t ad) = some R) :
    ∃ x, (Instr.loadAt t (a.eval ad)).run P w = .ok x w ∧ VR E R.v R.fr R.H tm x w := by
  subst hcx
  simp only [aop] at h
  split at h
  · rename_i x hrd
    have hx := rd_sound (e := ⟨Φ, w.heap, μ⟩) hF ht hg hrd
    split at h
    · rename_i hc
      obtain rfl := Option.some.inj h
      obtain ⟨adr, hv, hp, _⟩ := hx
      rw [hv]
      obtain ⟨y, h1, h2⟩ := vp_load (P := cx.P) (w := w) (e := ⟨Φ, w.heap, μ⟩) (tm := tm) hI.wok hp hc.1 hc.2.1 hc.2.2
      exact ⟨y, h1, VR.pure hF hH hN hI h2⟩
    · simp at h
  · rename_i u off hrd
    have hx := rd_sound (e := ⟨Φ, w.heap, μ⟩) hF ht hg hrd
    split at h
    · rename_i cs hgt
      obtain ⟨r, B1, B2, hv, hb, hp, hup⟩ := lp_box hF hx hgt
      rw [hv]
      split at h
      · rename_i v hl
        obtain ⟨y, C1, C2, h1, h2, h3, h4⟩ := blk_load (P := cx.P) (w := w) (e := ⟨Φ, w.heap, μ⟩) rfl hb hl
        refine ⟨y, h1, ?_⟩
        cases st with
        | true =>
          rw [cond_true] at h
          obtain rfl := Option.some.inj h
          obtain ⟨B'', h5, h6⟩ := hup ⟨Φ, w.heap, μ⟩ _ C2 h3 (Step.refl _ _)
          have hperm : (C1 ++ B'' ++ []).Perm BF := by
            rw [List.append_nil]
            refine (List.Perm.append_left C1 h6).trans ?_
            rw [← List.append_assoc]
            exact (List.Perm.append_right B2 h4).trans hp
          exact ⟨Φ, μ, C1, B'', BH, AR.of_AR1 h2, h5, hH, nodup_of_perm3 hperm hN, hI.perm (sub_of_perm3 hperm)⟩
        | false =>
          rw [cond_false] at h
          obtain rfl := Option.some.inj h
          exact VR.pure hF hH hN hI ((AR.of_AR1 h2).dup fun cs hc => by subst hc; exact h2.elim)
      · simp at h
    · simp at h
  · rename_i b off hrd
    have hx := rd_sound (e := ⟨Φ, w.heap, μ⟩) hF ht hg hrd
    split at h
    · rename_i cs hgt
      obtain ⟨r', hr', hv, _⟩ := hx
      obtain ⟨r, B1, B2, hm, hob, hp, hup⟩ := hH.split hgt
      simp only at hr'
      rw [hm] at hr'; obtain rfl := Option.some.inj hr'
      rw [hv]
      split at h
      · rename_i v hlh
        obtain ⟨hno, hl⟩ := loadH_some hlh
        have hb := hob.cells hno
        obtain ⟨y, C1, C2, h1, h2, h3, h4⟩ := blk_load (P := cx.P) (w := w) (e := ⟨Φ, w.heap, μ⟩) rfl hb hl
        refine ⟨y, h1, ?_⟩
        cases st with
        | true =>
          rw [cond_true] at h
          obtain rfl := Option.some.inj h
          obtain ⟨B'', h5, h6⟩ := hup ⟨Φ, w.heap, μ⟩ _ C2 (.inl ⟨h3, fun T hT => hob.tag T (load_tag hl hT)⟩) (Step.refl _ _)
          have hperm : (C1 ++ (BF ++ B'')).Perm (BF ++ BH) := by
            have h7 : (C1 ++ B'').Perm BH := by
              refine (List.Perm.append_left C1 h6).trans ?_
              rw [← List.append_assoc]
              exact (List.Perm.append_right B2 h4).trans hp
            rw [← List.append_assoc]
            refine (List.Perm.append_right B'' List.perm_append_comm).trans ?_
            rw [List.append_assoc]
            exact List.Perm.append_left BF h7
          exact ⟨Φ, μ, C1, BF, B'', AR.of_AR1 h2, hF, h5, hperm.nodup_iff.2 hN, hI.perm fun q hq => hperm.subset hq⟩
        | false =>
          rw [cond_false] at h
          obtain rfl := Option.some.inj h
          exact VR.pure hF hH hN hI ((AR.of_AR1 h2).dup fun cs hc => by subst hc; exact h2.elim)
      · simp at h
    · simp at h
  · simp at h

theorem store_sound {Φ : Mem} {μ BF BH : List Nat} (hcx : cx.P = P) (ht : a.tmps = tm) (hg : GOK cx.glob Φ) (hF : FR ⟨Φ, w.heap, μ⟩ tm fr BF) (hH : HR ⟨Φ, w.heap, μ⟩ H μ BH) (hN : (BF ++ BH).Nodup) (hI : Inv E w Φ μ (BF ++ BH))
    {st hf : Bool} {t : TypeId} {ad x : Operand} {R : AI.R} (h : aop cx st hf fr H (.store t ad x) = some R) :
    ∃ w', (Instr.storeAt t (a.eval ad) (a.eval x)).run P w = .ok () w' ∧ VR E R.v R.fr R.H tm Go.undef w' := by
  subst hcx
  simp only [aop] at h
  split at h
  · rename_i u off v fr' hrd hrx
    have hx := rd_sound (e := ⟨Φ, w.heap, μ⟩) hF ht hg hrd
    obtain ⟨BV, BF', C, hv, hF', hp⟩ := rdF_sound (e := ⟨Φ, w.heap, μ⟩) hF ht hg hrx
    have hN' := nodup_of_perm3 hp hN
    have hI' := hI.perm (sub_of_perm3 (BH := BH) hp)
    split at h
    · rename_i cs hgt
      split at h
      · rename_i cs' hst
        obtain rfl := Option.some.inj h
        obtain ⟨r, B1, B2, hve, hb, hpb, hup⟩ := lp_box hF' hx hgt
        rw [hve]
        obtain ⟨vs', h1, el, B', h2, h3, D, h4, _⟩ := blk_store (P := cx.P) (w := w) (e := ⟨Φ, w.heap, μ⟩) rfl hb hv hst
        have hrB : r ∈ B1 := by obtain ⟨_, _, _, _, _, _, rfl⟩ := hb; simp
        have hrF : r ∈ BF' := hpb.subset (List.mem_append_left _ hrB)
        obtain ⟨hstep, hinv⟩ := store_world (vs' := vs') hI' hb (List.mem_append_right _ (List.mem_append_left _ hrF))
        refine ⟨_, h1, ?_⟩
        -- what everything is made of
        have hall : (r :: B' ++ (B2 ++ BH) ++ D).Perm (BV ++ (BF' ++ BH)) := by
          have e1 : (r :: B' ++ (B2 ++ BH) ++ D).Perm (r :: B' ++ D ++ (B2 ++ BH)) := by
            rw [List.append_assoc (r :: B'), List.append_assoc (r :: B')]
            exact List.Perm.append_left _ List.perm_append_comm
          refine e1.trans ((List.Perm.append_right _ h4).trans ?_)
          have e2 : (B1 ++ BV ++ (B2 ++ BH)).Perm (BV ++ (B1 ++ B2 ++ BH)) := by
            simp only [← List.append_assoc]
            exact List.Perm.append_right _ (List.Perm.append_right _ List.perm_append_comm)
          exact e2.trans (List.Perm.append_left _ (List.Perm.append_right _ hpb))
        have hnd := hall.nodup_iff.2 hN'
        have hnd2 := (List.nodup_append.1 hnd).1
        have hr_not : ∀ q, q ∈ B' ∨ q ∈ B2 ∨ q ∈ BH → q ≠ r := by
          intro q hq he
          subst he
          have := List.nodup_cons.1 hnd2
          exact this.1 (by rcases hq with h | h | h <;> simp [h])
        have hBlk : BlkR ⟨Φ, (w.setRow r vs').heap, μ⟩ cs' r (r :: B') := by
          obtain ⟨_, _, _, hΦ, _⟩ := hb
          exact ⟨vs', el, h3, hΦ, B', h2.mono fun a v C hC h => h.step ((hstep B' fun hm => hr_not r (.inl hm) rfl).subset hC), rfl⟩
        obtain ⟨B'', h5, h6⟩ := hup ⟨Φ, (w.setRow r vs').heap, μ⟩ cs' _ hBlk (hstep B2 fun hm => hr_not r (.inr (.inl hm)) rfl)
        refine ⟨Φ, μ, [], B'', BH, ⟨rfl, rfl⟩, h5, hH.step (hstep BH fun hm => hr_not r (.inr (.inr hm)) rfl), ?_, ?_⟩
        · have : ([] ++ (B'' ++ BH)).Perm (r :: B' ++ (B2 ++ BH)) := by
            rw [List.nil_append, ← List.append_assoc]
            exact List.Perm.append_right _ h6
          exact this.nodup_iff.2 hnd2
        · refine hinv.perm fun q hq => ?_
          simp only [List.nil_append] at hq
          rcases List.mem_append.1 hq with hq | hq
          · have : q ∈ r :: B' ++ B2 := h6.subset hq
            exact hall.subset (by simp at this ⊢; rcases this with h | h | h <;> simp [h])
          · simp [hq]
      · simp at h
    · simp at h
  · rename_i b off v fr' hrd hrx
    have hx := rd_sound (e := ⟨Φ, w.heap, μ⟩) hF ht hg hrd
    obtain ⟨BV, BF', C, hv, hF', hp⟩ := rdF_sound (e := ⟨Φ, w.heap, μ⟩) hF ht hg hrx
    have hN' := nodup_of_perm3 hp hN
    have hI' := hI.perm (sub_of_perm3 (BH := BH) hp)
    split at h
    · rename_i cs hgt
      split at h
      · rename_i cs' hsth
        obtain ⟨hno, hst⟩ := storeH_some hsth
        obtain rfl := Option.some.inj h
        obtain ⟨r', hr', hve, _⟩ := hx
        obtain ⟨r, B1, B2, hm, hob, hpb, hup⟩ := hH.split hgt
        have hb := hob.cells hno
        simp only at hr'
        rw [hm] at hr'; obtain rfl := Option.some.inj hr'
        rw [hve]
        obtain ⟨vs', h1, el, B', h2, h3, D, h4, htg⟩ := blk_store (P := cx.P) (w := w) (e := ⟨Φ, w.heap, μ⟩) rfl hb hv hst
        have hTag : TagO ⟨Φ, (w.setRow r vs').heap, μ⟩ cs' r := by
          intro T hT
          obtain ⟨hT0, hh⟩ := htg T hT
          obtain ⟨us, e1, e2⟩ := hob.tag T hT0
          obtain ⟨e3, e4⟩ := hh us T e1
          exact ⟨vs', by rw [← e3]; exact h3, by rw [e4]; exact e2⟩
        have hrB : r ∈ B1 := by obtain ⟨_, _, _, _, _, _, rfl⟩ := hb; simp
        have hrH : r ∈ BH := hpb.subset (List.mem_append_left _ hrB)
        obtain ⟨hstep, hinv⟩ := store_world (vs' := vs') hI' hb (List.mem_append_right _ (List.mem_append_right _ hrH))
        refine ⟨_, h1, ?_⟩
        have hall : (r :: B' ++ (B2 ++ BF') ++ D).Perm (BV ++ (BF' ++ BH)) := by
          have e1 : (r :: B' ++ (B2 ++ BF') ++ D).Perm (r :: B' ++ D ++ (B2 ++ BF')) := by
            rw [List.append_assoc (r :: B'), List.append_assoc (r :: B')]
            exact List.Perm.append_left _ List.perm_append_comm
          refine e1.trans ((List.Perm.append_right _ h4).trans ?_)
          have e2 : (B1 ++ BV ++ (B2 ++ BF')).Perm (BV ++ (B1 ++ B2 ++ BF')) := by
            simp only [← List.append_assoc]
            exact List.Perm.append_right _ (List.Perm.append_right _ List.perm_append_comm)
          exact e2.trans (List.Perm.append_left _ ((List.Perm.append_right _ hpb).trans List.perm_append_comm))
        have hnd := hall.nodup_iff.2 hN'
        have hnd2 := (List.nodup_append.1 hnd).1
        have hr_not : ∀ q, q ∈ B' ∨ q ∈ B2 ∨ q ∈ BF' → q ≠ r := by
          intro q hq he
          subst he
          have := List.nodup_cons.1 hnd2
          exact this.1 (by rcases hq with h | h | h <;> simp [h])
        have hBlk : BlkR ⟨Φ, (w.setRow r vs').heap, μ⟩ cs' r (r :: B') := by
          obtain ⟨_, _, _, hΦ, _⟩ := hb
          exact ⟨vs', el, h3, hΦ, B', h2.mono fun a v C hC h => h.step ((hstep B' fun hm => hr_not r (.inl hm) rfl).subset hC), rfl⟩
        obtain ⟨B'', h5, h6⟩ := hup ⟨Φ, (w.setRow r vs').heap, μ⟩ cs' _ (.inl ⟨hBlk, hTag⟩) (hstep B2 fun hm => hr_not r (.inr (.inl hm)) rfl)
        refine ⟨Φ, μ, [], BF', B'', ⟨rfl, rfl⟩, hF'.step (hstep BF' fun hm => hr_not r (.inr (.inr hm)) rfl), h5, ?_, ?_⟩
        · have : ([] ++ (BF' ++ B'')).Perm (r :: B' ++ (B2 ++ BF')) := by
            rw [List.nil_append, ← List.append_assoc]
            exact List.perm_append_comm.trans (List.Perm.append_right _ h6)
          exact this.nodup_iff.2 hnd2
        · refine hinv.perm fun q hq => ?_
          simp only [List.nil_append] at hq
          rcases List.mem_append.1 hq with hq | hq
          · simp [hq]
          · have : q ∈ r :: B' ++ B2 := h6.subset hq
            exact hall.subset (by simp at this ⊢; rcases this with h | h | h <;> simp [h])
      · simp at h
    · simp at h
  · simp at h

theorem opts_sound {e : Env} {B : List Nat} (hF : FR e tm fr B) (ht : a.tmps = tm) (hg : GOK cx.glob e.Φ) {o : Option Operand} {l : List AV} (h : rds cx fr o.toList = some l) : OptR e tm l.head? (o.map a.eval) := by
  have h1 := rds_sound hF ht hg h
  cases o with
  | none => cases h1; exact trivial
  | some x => cases h1 with | cons hx hr => cases hr; exact hx

theorem snd_map (ps : Array (Nat × Operand)) : (ps.map fun (i, x) => (i, a.eval x)) = ((ps.toList.map (·.1)).zip ((ps.toList.map (·.2)).map a.eval)).toArray := by
  apply Array.ext'
  simp only [Array.toList_map]
  induction ps.toList with
  | nil => rfl
  | cons p l ih => simp only [List.map_cons, List.zip_cons_cons, ih]

theorem aop_sound (hP : CallOK P cx.glob cx.call) (hB : CallBody P cx.call) (hPr : ProgOK P) (hcx : cx.P = P) (ht : a.tmps = tm) (hgE : GOKH cx.glob E.Φ E.w.heap E.X) (hs : SR E ⟨fr, H⟩ tm w) {st hf : Bool} {o : Oper} {R : AI.R}
    (h : aop cx st hf fr H o.op = some R) : OpOK E R tm P ((execOp a.eval o).run P w) := by
  obtain ⟨Φ, μ, BF, BH, hF, hH, hN, hI⟩ := hs
  have hgH := hgE.step hI
  have hg : GOK cx.glob Φ := hgH.1
  simp only at hF hH
  have pureCase : ∀ {v : AV} {x : Value} {ft : Foot}, (some (⟨v, fr, H, ft⟩ : AI.R) = some R) → (execOp a.eval o).run P w = .ok (.value x) w → AR ⟨Φ, w.heap, μ⟩ tm v x [] → OpOK E R tm P ((execOp a.eval o).run P w) := by
    intro v x ft hR hr hv
    obtain rfl := Option.some.inj hR
    exact OpOK.value hr (VR.pure hF hH hN hI hv)
  have pureR' : ∀ {v : Option AV}, Go.AI.pureR v fr H = some R → ∃ u, v = some u ∧ some (⟨u, fr, H, ftOf u⟩ : AI.R) = some R := by
    intro v hv
    unfold Go.AI.pureR at hv
    split at hv
    · rename_i u; exact ⟨u, rfl, hv⟩
    · simp at hv
  obtain ⟨dst, op, type, pos, after, guard⟩ := o
  cases op with
  | move x =>
    simp only [aop] at h
    split at h
    · rename_i v fr' hrd
      obtain rfl := Option.some.inj h
      obtain ⟨BV, BF', C, hv, hF', hp⟩ := rdS_sound (e := ⟨Φ, w.heap, μ⟩) hF ht hg hrd
      exact OpOK.value (x := a.eval x) (w' := w) rfl ⟨Φ, μ, BV, BF', BH, hv, hF', hH, nodup_of_perm3 hp hN, hI.perm (sub_of_perm3 hp)⟩
    · simp at h
  | assign x =>
    simp only [aop] at h
    split at h
    · rename_i v fr' hrd
      obtain rfl := Option.some.inj h
      obtain ⟨BV, BF', C, hv, hF', hp⟩ := rdS_sound (e := ⟨Φ, w.heap, μ⟩) hF ht hg hrd
      exact OpOK.value (x := a.eval x) (w' := w) rfl ⟨Φ, μ, BV, BF', BH, hv, hF', hH, nodup_of_perm3 hp hN, hI.perm (sub_of_perm3 hp)⟩
    · simp at h
  | pick c x y =>
    simp only [aop] at h
    split at h
    · rename_i t hrd
      split at h
      · rename_i x' y' hx hy
        cases hpk : (pickB x' && pickB y') with
        | false => rw [hpk] at h; simp at h
        | true =>
        rw [hpk, cond_true] at h
        obtain ⟨u, hu, hR⟩ := pureR' h
        obtain rfl := Option.some.inj hu
        have hc := rd_sound (e := ⟨Φ, w.heap, μ⟩) hF ht hg hrd
        obtain ⟨hcc, _⟩ := hc
        have hce : a.eval c = .bool t := by generalize a.eval c = q at hcc; cases hcc; rfl
        cases t with
        | true => exact pureCase hR (by simp [execOp, hce, asBool]) (rd_sound hF ht hg hx)
        | false => exact pureCase hR (by simp [execOp, hce, asBool]) (rd_sound hF ht hg hy)
      · simp at h
    · simp at h
  | alloc el =>
    subst hcx
    simp only [aop] at h
    split at h
    · rename_i cs hz
      obtain ⟨i, z, hi, hzv, hzs, _, hoc⟩ := zeroCells_spec hz
      have hc := hoc ⟨Φ, w.heap, μ⟩
      have hrun : (execOp a.eval ⟨dst, .alloc el, type, pos, after, guard⟩).run cx.P w = .ok (.value (.pointer (some ⟨w.heap.size, 0, none⟩))) (w.alloc (.cells z.cells el)) := by
        simp [execOp, Instr.alloc, zeroValue_run hi hzv, newVar, newRow]
      cases hf with
      | true =>
        rw [cond_true] at h
        cases hd : headB cs with
        | true => rw [hd] at h; cases h
        | false =>
        rw [hd, cond_false] at h; obtain rfl := Option.some.inj h
        have hno : ∀ T, cs[0]? ≠ some (.bself T) := by
          intro T hT
          cases cs with
          | nil => cases hT
          | cons c cs => simp at hT; subst hT; simp [headB] at hd
        cases bldTy cx.P el with
        | false =>
          rw [cond_false]
          have := VR.heap (E := E) (w' := w.alloc (.cells z.cells el)) (vs := z.cells) (el := el) hF hH hc (by simpa using hN) (by simpa using hI) rfl ⟨rfl, rfl, rfl⟩ (fun T hT => absurd hT (hno T))
          exact OpOK.value hrun this
        | true =>
          rw [cond_true]
          have hc2 : All2O (AC ⟨Φ, w.heap, μ⟩) (bselfC el cs) z.cells.toList [] ∧ ∀ T, (bselfC el cs)[0]? = some (.bself T) → el = T ∧ z.cells[0]? = some (.pointer none) := by
            cases cs with
            | nil => exact ⟨hc, fun T hT => by cases hT⟩
            | cons c cs =>
              cases c
              case nilp =>
                generalize hzl : z.cells.toList = zl at hc
                generalize hB : ([] : List Nat) = B0 at hc
                cases hc with
                | cons ha hr =>
                  obtain ⟨rfl, rfl⟩ := ha
                  refine ⟨?_, fun T hT => ?_⟩
                  · have q := All2O.cons (R := AC ⟨Φ, w.heap, μ⟩) (a := .bself el) (v := .pointer none) (B1 := []) ⟨⟨none, rfl⟩, rfl⟩ hr

                    exact q
                  · simp [bselfC] at hT
                    refine ⟨hT, ?_⟩
                    rw [← Array.getElem?_toList, hzl]; rfl
              all_goals exact ⟨hc, fun T hT => absurd hT (hno T)⟩
          have := VR.heap (E := E) (w' := w.alloc (.cells z.cells el)) (vs := z.cells) (el := el) hF hH hc2.1 (by simpa using hN) (by simpa using hI) rfl ⟨rfl, rfl, rfl⟩ hc2.2
          exact OpOK.value hrun this
      | false =>
        rw [cond_false] at h; obtain rfl := Option.some.inj h
        have := VR.box (E := E) (w' := w.alloc (.cells z.cells el)) (vs := z.cells) (el := el) hF hH hc (by simpa using hN) (by simpa using hI) rfl
        exact OpOK.value hrun this
    · simp at h
  | box el x =>
    subst hcx
    simp only [aop] at h
    split at h
    · rename_i v fr' hrd
      split at h
      · rename_i hpl
        obtain ⟨BV, BF', C, hv, hF', hp⟩ := rdF_sound (e := ⟨Φ, w.heap, μ⟩) hF ht hg hrd
        have hc := (AR.to_AR1 hv hpl).cells hpl
        have hrun : (execOp a.eval ⟨dst, .box el x, type, pos, after, guard⟩).run cx.P w = .ok (.value (.pointer (some ⟨w.heap.size, 0, none⟩))) (w.alloc (.cells (a.eval x).cells el)) := by
          simp [execOp, Instr.box, newVar, newRow]
        cases hf with
        | true =>
          rw [cond_true] at h; obtain rfl := Option.some.inj h
          exact OpOK.value hrun (VR.heap (w' := w.alloc (.cells (a.eval x).cells el)) (vs := (a.eval x).cells) (el := el) hF' hH hc (nodup_of_perm3 hp hN) (hI.perm (sub_of_perm3 hp)) rfl ⟨rfl, rfl, rfl⟩ (by
            intro T hT
            exfalso
            cases v
            case agg us =>
              have := List.all_eq_true.1 hpl (.bself T) (List.mem_of_getElem? hT)
              simp [plainC] at this
            all_goals (simp [AV.cells] at hT; try (subst hT; simp [plain, plainC] at hpl))))
        | false =>
          rw [cond_false] at h; obtain rfl := Option.some.inj h
          exact OpOK.value hrun (VR.box (w' := w.alloc (.cells (a.eval x).cells el)) (vs := (a.eval x).cells) (el := el) hF' hH hc (nodup_of_perm3 hp hN) (hI.perm (sub_of_perm3 hp)) rfl)
      · simp at h
    · simp at h
  | build t ps =>
    subst hcx
    simp only [aop] at h
    split at h
    · rename_i as fr' hrd
      obtain ⟨BV, BF', C, hv, hF', hp⟩ := rdsS_sound (e := ⟨Φ, w.heap, μ⟩) ht hg hF hrd
      unfold Go.AI.pureR at h
      split at h
      · rename_i v hb
        obtain rfl := Option.some.inj h
        obtain ⟨x, B', C', h1, h2, h3⟩ := build_sound (P := cx.P) (w := w) hv hb
        refine OpOK.value (x := x) (w' := w) ?_ ⟨Φ, μ, B', BF', BH, h2, hF', hH, ?_⟩
        · simp only [execOp]; rw [snd_map]; exact run_v h1
        · have hp' : (B' ++ BF' ++ (C' ++ C)).Perm BF := by
            refine List.Perm.trans ?_ hp
            rw [← List.append_assoc]
            refine List.Perm.append_right C ?_
            have e1 : (B' ++ BF' ++ C').Perm (B' ++ C' ++ BF') := by
              rw [List.append_assoc, List.append_assoc]
              exact List.Perm.append_left _ List.perm_append_comm
            exact e1.trans (List.Perm.append_right _ h3)
          exact ⟨nodup_of_perm3 hp' hN, hI.perm (sub_of_perm3 hp')⟩
      · simp at h
    · simp at h
  | buildSlice t n ps =>
    subst hcx
    simp only [aop] at h
    split at h
    · rename_i as hrd
      obtain ⟨u, hu, hR⟩ := pureR' h
      obtain rfl := Option.some.inj hR
      have ha := rds_sound (e := ⟨Φ, w.heap, μ⟩) hF ht hg hrd
      obtain ⟨x, w', h1, h2⟩ := buildSlice_sound (P := cx.P) hF hH hN hI ha hu
      refine OpOK.value (x := x) (w' := w') ?_ h2
      simp only [execOp]; rw [snd_map]; exact run_v h1
    · simp at h
  | load t ad =>
    obtain ⟨x, h1, h2⟩ := load_sound hcx ht hg hF hH hN hI h
    exact OpOK.value (by simp only [execOp]; exact run_v h1) h2
  | store t ad x =>
    obtain ⟨w', h1, h2⟩ := store_sound hcx ht hg hF hH hN hI h
    have : (execOp a.eval ⟨dst, .store t ad x, type, pos, after, guard⟩).run P w = .ok .skip w' := by simp [execOp, h1]
    rw [this]; exact h2
  | nilCheck x =>
    simp only [aop] at h
    split at h
    · rename_i b o' hrd
      have hx := rd_sound (e := ⟨Φ, w.heap, μ⟩) hF ht hg hrd
      obtain ⟨r, h1, h2, h3⟩ := hx
      exact pureCase h (x := a.eval x) (by simp [execOp, h2]) ⟨r, h1, h2, h3⟩
    · rename_i b o' hrd
      have hx := rd_sound (e := ⟨Φ, w.heap, μ⟩) hF ht hg hrd
      obtain ⟨r, h1, h2, h3⟩ := hx
      exact pureCase h (x := a.eval x) (by simp [execOp, h2]) ⟨r, h1, h2, h3⟩
    · rename_i y hrd
      have hx := rd_sound (e := ⟨Φ, w.heap, μ⟩) hF ht hg hrd
      obtain ⟨r, h1, h2, h3⟩ := hx
      exact pureCase h (x := a.eval x) (by simp [execOp, h1]) ⟨r, h1, h2, h3⟩
    · simp at h
  | binOp op t x y yt =>
    subst hcx
    simp only [aop] at h
    split at h
    · rename_i p q hp hq
      obtain ⟨u, hu, hR⟩ := pureR' h
      cases hb : binDV cx.P op t p q with
      | none => rw [hb] at hu; simp at hu
      | some z =>
        rw [hb] at hu; simp at hu; subst hu
        obtain ⟨v, h1, h2⟩ := bin_sound (P := cx.P) (w := w) (rd_sound (e := ⟨Φ, w.heap, μ⟩) hF ht hg hp).1 (rd_sound (e := ⟨Φ, w.heap, μ⟩) hF ht hg hq).1 hb x y
        exact pureCase hR (by simp only [execOp]; exact run_v h1) ⟨h2, rfl⟩
    · simp at h
  | unOp op t x =>
    simp only [aop] at h
    split at h
    · rename_i p hp
      obtain ⟨u, hu, hR⟩ := pureR' h
      cases hb : unDV op p with
      | none => rw [hb] at hu; simp at hu
      | some z =>
        rw [hb] at hu; simp at hu; subst hu
        obtain ⟨v, h1, h2⟩ := un_sound (P := P) (w := w) (rd_sound (e := ⟨Φ, w.heap, μ⟩) hF ht hg hp).1 hb
        exact pureCase hR (by simp only [execOp]; exact run_v h1) ⟨h2, rfl⟩
    · simp at h
  | convert s t x =>
    subst hcx
    simp only [aop] at h
    split at h
    · rename_i v hrd
      obtain ⟨u, hu, hR⟩ := pureR' h
      obtain rfl := Option.some.inj hR
      obtain ⟨y, w', h1, h2⟩ := conv_sound (P := cx.P) hF hH hN hI (rd_sound (e := ⟨Φ, w.heap, μ⟩) hF ht hg hrd) hu
      exact OpOK.value (by simp only [execOp]; exact run_v h1) h2
    · simp at h
  | makeSlice t l c =>
    subst hcx
    simp only [aop] at h
    split at h
    · rename_i l' c' hl hc
      obtain ⟨u, hu, hR⟩ := pureR' h
      obtain rfl := Option.some.inj hR
      obtain ⟨y, w', h1, h2⟩ := makeSlice_sound (P := cx.P) hF hH hN hI (rd_sound (e := ⟨Φ, w.heap, μ⟩) hF ht hg hl) (rd_sound (e := ⟨Φ, w.heap, μ⟩) hF ht hg hc) hu
      exact OpOK.value (by simp only [execOp]; exact run_v h1) h2
    · simp at h
  | slice t x lo hi mx =>
    subst hcx
    simp only [aop] at h
    split at h
    · rename_i v hrd
      split at h
      · rename_i l h' m hl hh hm
        obtain ⟨u, hu, hR⟩ := pureR' h
        obtain ⟨y, h1, h2⟩ := sliceA_sound (P := cx.P) (w := w) (rd_sound (e := ⟨Φ, w.heap, μ⟩) hF ht hg hrd) (opts_sound hF ht hg hl) (opts_sound hF ht hg hh) (opts_sound hF ht hg hm) hu
        exact pureCase hR (by simp only [execOp]; exact run_v h1) h2
      · simp at h
    · simp at h
  | fieldAddr t x i =>
    subst hcx
    simp only [aop] at h
    split at h
    · rename_i v hrd
      obtain ⟨u, hu, hR⟩ := pureR' h
      obtain ⟨y, h1, h2⟩ := fieldAddrA_sound (P := cx.P) (w := w) (rd_sound (e := ⟨Φ, w.heap, μ⟩) hF ht hg hrd) hu
      exact pureCase hR (by simp only [execOp]; exact run_v h1) h2
    · simp at h
  | field t x i =>
    subst hcx
    simp only [aop] at h
    split at h
    · rename_i v hrd
      obtain ⟨u, hu, hR⟩ := pureR' h
      obtain ⟨y, h1, h2⟩ := fieldA_sound (P := cx.P) (w := w) (rd_sound (e := ⟨Φ, w.heap, μ⟩) hF ht hg hrd) hu
      exact pureCase hR (by simp only [execOp]; exact run_v h1) h2
    · simp at h
  | indexAddr t x i =>
    subst hcx
    simp only [aop] at h
    split at h
    · rename_i v ix hrd hri
      obtain ⟨u, hu, hR⟩ := pureR' h
      obtain ⟨y, h1, h2⟩ := indexAddrA_sound (P := cx.P) (w := w) (rd_sound (e := ⟨Φ, w.heap, μ⟩) hF ht hg hrd) (rd_sound (e := ⟨Φ, w.heap, μ⟩) hF ht hg hri) hu
      exact pureCase hR (by simp only [execOp]; exact run_v h1) h2
    · simp at h
  | index t x i =>
    subst hcx
    simp only [aop] at h
    split at h
    · rename_i v ix hrd hri
      obtain ⟨u, hu, hR⟩ := pureR' h
      obtain ⟨y, h1, h2⟩ := indexA_sound (P := cx.P) (w := w) (rd_sound (e := ⟨Φ, w.heap, μ⟩) hF ht hg hrd) (rd_sound (e := ⟨Φ, w.heap, μ⟩) hF ht hg hri) hu
      exact pureCase hR (by simp only [execOp]; exact run_v h1) h2
    · simp at h
  | extract x i =>
    simp only [aop] at h
    split at h
    · rename_i vs hrd
      obtain ⟨u, hu, hR⟩ := pureR' h
      obtain ⟨us, hv, ha, _⟩ := rd_sound (e := ⟨Φ, w.heap, μ⟩) hF ht hg hrd
      obtain ⟨b, hb, hab⟩ := ha.get i hu
      refine pureCase hR (x := b) ?_ (AR.of_AR1 hab)
      have : us[i]? = some b := by simpa using hb
      simp [execOp, hv, Instr.extract, this]
    · simp at h
  | makeMap t r =>
    subst hcx
    simp only [aop] at h
    split at h
    · obtain rfl := Option.some.inj h
      refine OpOK.value (x := .map (some w.heap.size)) (w' := w.alloc (.map #[] 0)) ?_ (VR.newMap hF hH hN hI rfl ⟨rfl, rfl, rfl⟩)
      simp [execOp, Instr.makeMap]
    · simp at h
  | lookup t x k ck =>
    subst hcx
    simp only [aop] at h
    split at h
    · rename_i b k' hrx hrk
      obtain ⟨r', hr', hxe, _⟩ := rd_sound (e := ⟨Φ, w.heap, μ⟩) hF ht hg hrx
      have hkv := (rd_sound (e := ⟨Φ, w.heap, μ⟩) hF ht hg hrk).1
      split at h
      · rename_i kd ks vs hgt
        obtain ⟨r, B1, B2, hm, hob, hp, hup⟩ := hH.split hgt
        simp only at hr'
        rw [hm] at hr'; obtain rfl := Option.some.inj hr'
        split at h
        · rename_i v hlk
          obtain ⟨y, h1, h2⟩ := lookup_sound (P := cx.P) (w := w) (e := ⟨Φ, w.heap, μ⟩) (tm := tm) rfl hob.map hkv hlk
          exact pureCase h (x := y) (by rw [← hxe] at h1; simp only [execOp]; exact run_v h1) h2
        · simp at h
      · simp at h
    · simp at h
  | mapUpdate t x k v =>
    subst hcx
    simp only [aop] at h
    split at h
    · rename_i b k' v' hrx hrk hrv
      have hx := rd_sound (e := ⟨Φ, w.heap, μ⟩) hF ht hg hrx
      have hkv := (rd_sound (e := ⟨Φ, w.heap, μ⟩) hF ht hg hrk).1
      have hv := rd_sound (e := ⟨Φ, w.heap, μ⟩) hF ht hg hrv
      split at h
      · rename_i kd ks vs kd' et hgt hty
        split at h
        · rename_i hc
          obtain ⟨rfl, hk, hpl⟩ := hc
          obtain rfl := Option.some.inj h
          obtain ⟨w', h1, h2⟩ := mapUpdate_sound (P := cx.P) hF hH hN hI hx hkv ((AR.to_AR1 hv hpl).fixA (fx := fxOf cx.P et)) hgt hty hk
          have : (execOp a.eval ⟨dst, .mapUpdate t x k v, type, pos, after, guard⟩).run cx.P w = .ok .skip w' := by simp [execOp, h1]
          rw [this]; exact h2
        · simp at h
      · simp at h
    · simp at h
  | call c =>
    subst hcx
    obtain ⟨callee, args, argTypes⟩ := c
    simp only [aop] at h
    split at h
    · -- append
      split at h
      · rename_i s x t u hargs htys
        have ea : args = #[s, x] := by apply Array.ext'; simpa using hargs
        have et : argTypes = #[t, u] := by apply Array.ext'; simpa using htys
        split at h
        · rename_i s' fr' x' hs' hx'
          obtain ⟨BV, BF', C, hv, hF', hp⟩ := rdS_sound (e := ⟨Φ, w.heap, μ⟩) hF ht hg hs'
          have hxv := rd_sound (e := ⟨Φ, w.heap, μ⟩) hF ht hg hx'
          unfold Go.AI.pureR at h
          split at h
          · rename_i v hap
            obtain rfl := Option.some.inj h
            obtain ⟨y, w', h1, h2⟩ := append_sound (P := cx.P) hv hF' hH (nodup_of_perm3 hp hN) (hI.perm (sub_of_perm3 hp)) hxv hap type
            refine OpOK.value (x := y) (w' := w') ?_ h2
            subst ea; subst et
            simp [execOp, resolve, invoke, builtin, h1]
          · simp at h
        · simp at h
      · simp at h
    · rename_i b hnb
      split at h
      · rename_i as hrd
        obtain ⟨u, hu, hR⟩ := pureR' h
        have ha := rds_sound (e := ⟨Φ, w.heap, μ⟩) hF ht hg hrd
        have eargs : args.map a.eval = (List.map a.eval args.toList).toArray := by apply Array.ext'; simp
        have etys : argTypes = argTypes.toList.toArray := by simp
        unfold builtinA at hu
        split at hu
        · rename_i t ts x hts
          cases hl : lenA cx.P t x with
          | none => rw [hl] at hu; simp at hu
          | some z =>
            rw [hl] at hu; simp at hu; subst hu
            generalize hvs : List.map a.eval args.toList = vs at ha eargs
            cases ha with
            | cons hx hr =>
              rename_i vx vs
              obtain ⟨y, h1, h2⟩ := lenA_sound (P := cx.P) (w := w) ts vs type hx hl
              refine pureCase hR (x := y) ?_ ⟨h2, rfl⟩
              rw [hts] at etys
              rw [← eargs, ← etys] at h1
              simp [execOp, resolve, invoke, builtin, h1]
        · rename_i x r
          cases hl : foldD min2D x r with
          | none => rw [hl] at hu; simp at hu
          | some z =>
            rw [hl] at hu; simp at hu; subst hu
            generalize hvs : List.map a.eval args.toList = vs at ha eargs
            cases ha with
            | cons hx hr =>
              rename_i vx vs
              obtain ⟨y, h1, h2⟩ := foldD_sound (P := cx.P) (w := w) (e := ⟨Φ, w.heap, μ⟩) (tm := tm) rfl (fun _ _ _ _ _ => min2_sound (P := cx.P) (w := w)) hr hx.1 hl
              refine pureCase hR (x := y) ?_ ⟨h2, rfl⟩
              simp only [execOp, resolve, Sem.run_bind, Sem.run_pure, Result.andThen_ok, invoke, builtin, eargs, Builtin.min_, h1]
        · rename_i x r
          cases hl : foldD max2D x r with
          | none => rw [hl] at hu; simp at hu
          | some z =>
            rw [hl] at hu; simp at hu; subst hu
            generalize hvs : List.map a.eval args.toList = vs at ha eargs
            cases ha with
            | cons hx hr =>
              rename_i vx vs
              obtain ⟨y, h1, h2⟩ := foldD_sound (P := cx.P) (w := w) (e := ⟨Φ, w.heap, μ⟩) (tm := tm) rfl (fun _ _ _ _ _ => max2_sound (P := cx.P) (w := w)) hr hx.1 hl
              refine pureCase hR (x := y) ?_ ⟨h2, rfl⟩
              simp only [execOp, resolve, Sem.run_bind, Sem.run_pure, Result.andThen_ok, invoke, builtin, eargs, Builtin.max_, h1]
        · simp at hu
      · simp at h
    · rename_i f
      split at h
      · rename_i g as hf hrd
        split at h
        · rename_i v H' ft hca
          obtain rfl := Option.some.inj h
          have hfv := rd_sound (e := ⟨Φ, w.heap, μ⟩) hF ht hg hf
          obtain ⟨hfe, _⟩ := hfv
          have ha := rdsF_sound (e := ⟨Φ, w.heap, μ⟩) hF ht hg hrd
          have hbody : ∃ fn : Func, cx.P.funcs[g]? = some fn ∧ fn.body.isSome := by
            unfold callA at hca
            cases hiso : cx.iso g with
            | true =>
              rw [hiso, cond_true] at hca
              split at hca
              · split at hca
                · rename_i hcall; exact hB _ _ _ _ hcall
                · simp at hca
              · simp at hca
            | false =>
              rw [hiso, cond_false] at hca
              split at hca
              · split at hca
                · rename_i hcall; exact hB _ _ _ _ hcall
                · simp at hca
              · simp at hca
          obtain ⟨fn, hfn, hbd⟩ := hbody
          have hrun : (execOp a.eval ⟨dst, .call ⟨.value f, args, argTypes⟩, type, pos, after, guard⟩).run cx.P w = .ok (.enter g (args.map a.eval)) w := by
            simp [execOp, resolve, Deferred.ofValue, hfe, invoke, callFunc_run hPr hfn hbd]
          rw [hrun]
          have hc := callA_sound hP hF hH hN hI hgH ha hca
          have e : args.map a.eval = (List.map a.eval args.toList).toArray := by apply Array.ext'; simp
          show Calls cx.P g (args.map a.eval) w _
          rw [e]
          exact hc
        · simp at h
      · simp at h
    · simp at h
  | _ => simp [aop] at h
end
end Go.AI

/- One step of a region, and a region whose order is the text's. -/
namespace Go.AI
set_option linter.unusedVariables false
set_option linter.unusedSimpArgs false

/-- Each destination is a slot. -/
def dstsOK (n : Nat) (ops : List Oper) : Bool := ops.all fun o => match o.dst with | some d => decide (d < n) | none => true

section
variable {P : Program} {E : Ent} {cx : Cx} {an : RA}

theorem SR.heap_eq {s : ST} {tm : Array Value} {w w' : World} (h : SR E s tm w) (hh : w'.heap = w.heap) (hio : SameIO w w') : SR E s tm w' := by
  obtain ⟨Φ, μ, BF, BH, h1, h2, h3, h4⟩ := h
  exact ⟨Φ, μ, BF, BH, by rw [hh]; exact h1, by rw [hh]; exact h2, h3, ⟨by rw [hh]; exact h4.wok, by rw [hh]; exact h4.size, h4.sub, h4.mu, by rw [hh]; exact h4.keep, h4.own, h4.io.trans hio⟩⟩

theorem guard_sound {ops : Array Oper} {s : ST} {a : Act} {w : World} (hs : SR E s a.tmps w) {o : Oper} {b : Bool} (h : guardOf ops.toList s.fr o = some b) : Region.wanted o (yielded ops a.tmps) = b := by
  obtain ⟨Φ, μ, BF, BH, hF, _⟩ := hs
  unfold guardOf at h
  unfold Region.wanted
  cases hg : o.guard with
  | none => rw [hg] at h; simp at h; simp [h]
  | some jw =>
    obtain ⟨j, want⟩ := jw
    rw [hg] at h
    simp only at h ⊢
    unfold yielded
    cases hj : ops[j]? with
    | none =>
      have : ops.toList[j]? = none := by simpa using hj
      rw [this] at h; simp at h; simp [← h]
    | some oj =>
      have hj' : ops.toList[j]? = some oj := by simpa using hj
      rw [hj'] at h
      simp only at h
      cases hd : oj.dst with
      | none => rw [hd] at h; simp at h; simp [hd, ← h]
      | some d =>
        rw [hd] at h
        simp only at h
        simp only [Option.bind_some, hd]
        split at h
        · rename_i b' hget
          obtain rfl := Option.some.inj h
          obtain ⟨v, B1, h1, h2, _⟩ := hF.get hget
          obtain ⟨hc, _⟩ := h2
          cases hc
          rw [h1]
          simp
        · rename_i hget
          obtain rfl := Option.some.inj h
          obtain ⟨v, B1, h1, h2, _⟩ := hF.get hget
          obtain ⟨hc, _⟩ := h2
          rw [h1, hc]
          rfl
        · simp at h

theorem act_put (a : Act) (dst : Option Tmp) (v : Value) : (a.put dst v).tmps = putTm a.tmps dst v := by cases dst <;> rfl
theorem act_put_defers (a : Act) (dst : Option Tmp) (v : Value) : (a.put dst v).defers = a.defers := by cases dst <;> rfl

theorem VR.fixA {fx : List (Option Nat)} {v : AV} {fr : Fr} {H : Hp} {tm : Array Value} {x : Value} {w : World} (h : VR E v fr H tm x w) : VR E (Go.AI.fixA fx v) fr H tm x w := by
  obtain ⟨Φ, μ, BV, BF, BH, h1, h2⟩ := h
  exact ⟨Φ, μ, BV, BF, BH, h1.fixA, h2⟩

structure CxOK (P : Program) (E : Ent) (cx : Cx) : Prop where
  call : CallOK P cx.glob cx.call
  body : CallBody P cx.call
  prog : ProgOK P
  same : cx.P = P
  glob : GOKH cx.glob E.Φ E.w.heap E.X

theorem step_sound (hc : CxOK P E cx) {ops : Array Oper} {Q : Exit → Act → World → Prop} {i : Nat} {o : Oper} {s s' : ST} {a : Act} {w : World} (ho : ops[i]? = some o) (hs : SR E s a.tmps w)
    (hd : dstsOK a.tmps.size ops.toList = true) (h : stepOp cx an ops.toList i o s = some s') {K : Act → World → Prop}
    (hK : ∀ a' w', SR E s' a'.tmps w' → a'.tmps.size = a.tmps.size → a'.defers = a.defers → K a' w') : wpOp P ops Q i K a w := by
  have hdst : ∀ d, o.dst = some d → d < a.tmps.size := by
    intro d hdd
    have hm : o ∈ ops.toList := by
      have : ops.toList[i]? = some o := by simpa using ho
      exact List.mem_of_getElem? this
    have := (List.all_eq_true.1 hd) o hm
    rw [hdd] at this
    simpa using this
  have fin : ∀ {v : AV} {fr : Fr} {H : Hp} {x : Value} {w' : World}, VR E v fr H a.tmps x w' → s' = ⟨put o.dst v fr, H⟩ → K (a.put o.dst x) w' := by
    intro v fr H x w' hv he
    have := hv.put o.dst hdst
    rw [← act_put] at this
    refine hK _ _ (by rw [he]; exact this) ?_ (act_put_defers _ _ _)
    rw [act_put]; cases o.dst <;> simp [putTm]
  unfold stepOp at h
  unfold wpOp
  simp only [ho]
  split at h
  · rename_i hg
    rw [guard_sound hs hg]
    simp only [if_true]
    refine .inl ?_
    split at h
    · rename_i r hr
      cases hok : okV r.v r.ft with
      | false => rw [hok] at h; simp at h
      | true =>
      rw [hok, cond_true] at h
      have he := Option.some.inj h
      have hop := aop_sound (P := P) (a := a) hc.call hc.body hc.prog hc.same rfl hc.glob hs hr
      unfold Oper.wp
      generalize (execOp a.eval o).run P w = res at hop
      cases res with
      | halt x w' => exact hop.elim
      | ok n w' =>
        cases n <;> first | exact hop.elim | skip
        case value x => exact fin (VR.fixA hop) he.symm
        case skip => exact fin (VR.fixA hop) he.symm
        case enter f args =>
          refine Calls.mono hop ?_
          rintro e w'' ⟨x, rfl, hv⟩
          exact fin hv.fixA he.symm
    · simp at h
  · rename_i hg
    rw [guard_sound hs hg]
    simp only [Bool.false_eq_true, if_false]
    have he := Option.some.inj h
    obtain ⟨Φ, μ, BF, BH, h1, h2, h3, h4⟩ := hs
    exact fin (v := .undef) (x := Go.undef) (VR.pure h1 h2 h3 h4 ⟨rfl, rfl⟩) he.symm
  · simp at h

theorem runOps_sound (hc : CxOK P E cx) {ops : Array Oper} {Q : Exit → Act → World → Prop} {n : Nat} (hd : dstsOK n ops.toList = true) : ∀ (rest : List Oper) (i : Nat) {s s' : ST} {a : Act} {w : World}, a.tmps.size = n →
    (∀ k, rest[k]? = ops[i + k]?) → SR E s a.tmps w → runOps cx an ops.toList i rest s = some s' →
    (∀ a' w', SR E s' a'.tmps w' → a'.tmps.size = n → a'.defers = a.defers → Q .normal a' w') → wpOps P ops Q (List.range' i rest.length) a w
  | [], i, s, s', a, w, hn, _, hs, h, hQ => by
    simp only [runOps] at h
    obtain rfl := Option.some.inj h
    exact hQ a w hs hn rfl
  | o :: rest, i, s, s', a, w, hn, hk, hs, h, hQ => by
    simp only [runOps] at h
    split at h
    · rename_i s1 h1
      have ho : ops[i]? = some o := by have := hk 0; simpa using this.symm
      rw [List.length_cons, List.range'_succ, wpOps_cons]
      refine step_sound hc ho hs (by rw [hn]; exact hd) h1 fun a' w' hs' hn' hdf => ?_
      refine runOps_sound hc hd rest (i + 1) (by rw [hn', hn]) (fun k => ?_) hs' h fun a'' w'' h2 h3 h4 => hQ a'' w'' h2 h3 (h4.trans hdf)
      have := hk (k + 1)
      simpa [Nat.add_assoc, Nat.add_comm 1 k] using this
    · simp at h

theorem SR.restrict {s : ST} {tm : Array Value} {w : World} (h : SR E s tm w) {l : List Nat} (hl : l.Nodup) : SR E ⟨restrict s.fr l, s.H⟩ tm w := by
  obtain ⟨Φ, μ, BF, BH, h1, h2, h3, h4⟩ := h
  obtain ⟨B', h5, C, h6⟩ := FR.restrict l hl h1
  have hs : ∀ r ∈ B' ++ BH, r ∈ BF ++ BH := fun r hr => by
    rcases List.mem_append.1 hr with hr | hr
    · exact List.mem_append_left _ (h6.subset (List.mem_append_left _ hr))
    · exact List.mem_append_right _ hr
  refine ⟨Φ, μ, B', BH, h5, h2, ?_, h4.perm hs⟩
  have := (List.Perm.append_right BH h6).nodup_iff.2 h3
  have hp : (B' ++ C ++ BH).Perm (B' ++ BH ++ C) := by
    rw [List.append_assoc, List.append_assoc]; exact List.Perm.append_left _ List.perm_append_comm
  exact (List.nodup_append.1 (hp.nodup_iff.1 this)).1
end
end Go.AI
