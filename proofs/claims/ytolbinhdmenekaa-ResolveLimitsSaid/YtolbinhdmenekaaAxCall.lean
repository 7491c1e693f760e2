/- Calls, given what the callee does. -/
import Derived.Test.YtolbinhdmenekaaAxMem6
namespace Go.AI
set_option linter.unusedVariables false
set_option linter.unusedSimpArgs false

/-! ### Data are data in every environment -/

theorem CR.toD0 {e e' : Env} {a : AV} {v : Value} {B : List Nat} {x : DV} (hΦ : e'.Φ = e.Φ) (h : AC e a v B) (hx : Go.AI.toD0 a = some x) : AC e' (.d x) v [] :=
  ⟨by rw [hΦ]; exact CR.of_toD0 h hx, rfl⟩

theorem All2O.toDs {e e' : Env} (hΦ : e'.Φ = e.Φ) : ∀ {cs : List AV} {vs : List Value} {B : List Nat} {ds : List DV}, All2O (AC e) cs vs B → toDs cs = some ds → All2O (AC e') (ds.map .d) vs []
  | [], _, _, _, .nil, h => by simp [Go.AI.toDs] at h; subst h; exact .nil
  | a :: cs, _, _, _, .cons ha hr, h => by
    simp only [Go.AI.toDs] at h
    split at h
    · rename_i x xs h1 h2
      obtain rfl := Option.some.inj h
      simpa using All2O.cons (CR.toD0 hΦ ha h1) (All2O.toDs hΦ hr h2)
    · simp at h

theorem AR1.of1 {e e' : Env} (hΦ : e'.Φ = e.Φ) {a : AV} {v : Value} {B : List Nat} {x : DV} (h : AR1 e a v B) (hx : toDV1 a = some x) : AR1 e' (of1 x) v [] := by
  cases a
  case agg cs =>
    obtain ⟨vs, rfl, h⟩ := h
    simp only [toDV1] at hx
    cases hd : toDs cs with
    | none => rw [hd] at hx; simp at hx
    | some ds => rw [hd] at hx; simp at hx; subst hx; exact ⟨vs, rfl, h.toDs hΦ hd⟩
  case d y =>
    simp only [toDV1, toD0] at hx; obtain rfl := Option.some.inj hx
    have h' : AC e (.d y) v B := h
    have hc := h'.1
    have : Go.AI.of1 y = .d y := by cases hc <;> rfl
    rw [this]
    exact AR1.of_AC ⟨by rw [hΦ]; exact hc, rfl⟩
  case osl sz xs =>
    simp only [toDV1, toD0] at hx; obtain rfl := Option.some.inj hx
    exact AR1.of_AC (CR.toD0 (x := .sl sz xs) hΦ (show AC e (.osl sz xs) v B from h) rfl)
  all_goals (simp [toDV1, toD0] at hx; done)

theorem AR.ofDV {e e' : Env} {tm tm' : Array Value} (hΦ : e'.Φ = e.Φ) {a : AV} {v : Value} {B : List Nat} {x : DV} (h : AR e tm a v B) (hx : toDV a = some x) : AR e' tm' (ofDV x) v [] := by
  have fin : ∀ {a : AV}, AR1 e a v B → toDV1 a = some x → AR e' tm' (Go.AI.ofDV x) v [] := by
    intro a h' hx'
    have h2 := AR1.of1 (e' := e') hΦ h' hx'
    have hxt : ∀ ts, x ≠ .tup ts := by
      rintro ts rfl
      simp only [Go.AI.of1] at h2
      exact (nomatch (show CR e'.Φ (.tup ts) v from (show AC e' (.d (.tup ts)) v [] from h2).1))
    have : Go.AI.ofDV x = Go.AI.of1 x := by cases x <;> first | rfl | exact (hxt _ rfl).elim
    rw [this]
    exact AR.of_AR1 h2
  cases a
  case tup as =>
    obtain ⟨vs, rfl, h, _⟩ := h
    simp only [toDV] at hx
    cases hd : toDV1s as with
    | none => rw [hd] at hx; simp at hx
    | some ds =>
      rw [hd] at hx; simp at hx; subst hx
      refine ⟨vs, rfl, ?_, rfl⟩
      have : ∀ {as : List AV} {vs : List Value} {ds : List DV}, All2 (fun a v => AR1 e a v []) as vs → toDV1s as = some ds → All2 (fun a v => AR1 e' a v []) (ds.map of1) vs := by
        intro as vs ds h
        induction h generalizing ds with
        | nil => intro hd; simp [toDV1s] at hd; subst hd; exact .nil
        | cons ha _ ih =>
          intro hd
          simp only [toDV1s] at hd
          split at hd
          · rename_i x xs h1 h2
            obtain rfl := Option.some.inj hd
            exact .cons (AR1.of1 hΦ ha h1) (ih h2)
          · simp at hd
      exact this h hd
  case d y => exact fin (show AR1 e (.d y) v B from h) hx
  case osl sz xs => exact fin (show AR1 e (.osl sz xs) v B from h) hx
  case agg cs => exact fin (show AR1 e (.agg cs) v B from h) hx
  all_goals (simp [toDV, toDV1, toD0] at hx; done)

theorem AR.tm_any {e : Env} {tm tm' : Array Value} {a : AV} {v : Value} {B : List Nat} (h : AR e tm a v B) (hl : ∀ t o, a ≠ .lp t o) : AR e tm' a v B := by
  cases a
  case lp t o => exact (hl t o rfl).elim
  all_goals exact h

/-! ### Blocks that fall away -/

theorem AC.cut {e : Env} {n : Nat} {a : AV} {v : Value} {B : List Nat} (h : AC e a v B) (hb : below n a = true) : AC ⟨e.Φ, e.heap, e.μ.take n⟩ a v B := by
  cases a
  case hp b o =>
    obtain ⟨r, h1, h2⟩ := h
    simp [below] at hb
    exact ⟨r, by rw [List.getElem?_take, if_pos hb]; exact h1, h2⟩
  case mp b =>
    obtain ⟨r, h1, h2⟩ := h
    simp [below] at hb
    exact ⟨r, by rw [List.getElem?_take, if_pos hb]; exact h1, h2⟩
  case osl sz xs => exact h
  all_goals exact h

theorem All2O.cut {e : Env} {n : Nat} {cs : List AV} {vs : List Value} {B : List Nat} (h : All2O (AC e) cs vs B) (hb : cs.all (Go.AI.below n) = true) : All2O (AC ⟨e.Φ, e.heap, e.μ.take n⟩) cs vs B := by
  induction h with
  | nil => exact .nil
  | cons ha _ ih =>
    simp only [List.all_cons, Bool.and_eq_true] at hb
    exact .cons (ha.cut hb.1) (ih hb.2)

theorem AR1.cut {e : Env} {n : Nat} {a : AV} {v : Value} {B : List Nat} (h : AR1 e a v B) (hb : belowV1 n a = true) : AR1 ⟨e.Φ, e.heap, e.μ.take n⟩ a v B := by
  cases a
  case agg cs => obtain ⟨vs, hv, h⟩ := h; exact ⟨vs, hv, h.cut hb⟩
  all_goals exact AR1.of_AC (AC.cut (AR1.to_AC h (by simp)) hb)

theorem AR.cut {e : Env} {tm : Array Value} {n : Nat} {a : AV} {v : Value} {B : List Nat} (h : AR e tm a v B) (hb : belowV n a = true) : AR ⟨e.Φ, e.heap, e.μ.take n⟩ tm a v B := by
  cases a
  case tup as =>
    obtain ⟨vs, hv, h, hB⟩ := h
    simp only [belowV, List.all_eq_true] at hb
    refine ⟨vs, hv, ?_, hB⟩
    clear hv
    generalize vs.toList = us at h
    induction h with
    | nil => exact .nil
    | cons ha _ ih => exact .cons (AR1.cut ha (hb _ (by simp))) (ih fun x hx => hb x (List.mem_cons_of_mem _ hx))
  case agg cs => exact AR.of_AR1 (AR1.cut (a := .agg cs) h hb)
  case box => simp [belowV, belowV1, below] at hb
  case lp => simp [belowV, belowV1, below] at hb
  case undef => exact h
  case junk => exact h
  case d x => exact h
  case osl sz xs => exact h
  case hp b o => exact AC.cut (a := .hp b o) h hb
  case vp x => exact h
  case fn f => exact h
  case nilp => exact h
  case nilf => exact h
  case nilm => exact h
  case mp b => exact AC.cut (a := .mp b) h hb
  case mpb => exact h.elim
  case zsl => exact h
  case sref => exact h

theorem below_of0 {n : Nat} {a : AV} (h : below0 n a = true) : below n a = true := by
  cases a <;> simp_all [below0, below]

theorem EntR.cut {e : Env} {n : Nat} : ∀ {ks : List DV} {vs : List AV} {es : List MapEntry}, EntR e ks vs es → vs.all (fun v => v.cells.all (below0 n)) = true → EntR ⟨e.Φ, e.heap, e.μ.take n⟩ ks vs es
  | [], [], [], _, _ => trivial
  | k :: ks, v :: vs, x :: es, ⟨h1, h2, h3⟩, hb => by
    simp only [List.all_cons, Bool.and_eq_true] at hb
    refine ⟨h1, h2.cut ?_, h3.cut hb.2⟩
    have hb1 := hb.1
    cases v
    case agg cs =>
      simp only [belowV1, AV.cells, List.all_eq_true] at hb1 ⊢
      exact fun x hx => below_of0 (hb1 x hx)
    all_goals exact below_of0 (by simpa [AV.cells] using hb1)
  | [], _ :: _, _, h, _ => by cases h
  | [], [], _ :: _, h, _ => by cases h
  | _ :: _, [], _, h, _ => by cases h
  | _ :: _, _ :: _, [], h, _ => by cases h

theorem HR.cut {e : Env} {n : Nat} : ∀ {H : Hp} {m B : List Nat}, HR e H m B → H.all (fun cs => cs.all (below n)) = true → HR ⟨e.Φ, e.heap, e.μ.take n⟩ H m B
  | [], [], _, h, _ => h
  | cs :: H, r :: m, _, h, hb => by
    obtain ⟨B1, B2, ho, h4, rfl⟩ := h
    simp only [List.all_cons, Bool.and_eq_true] at hb
    rcases ho with ⟨vs, el, h1, h2, B', h3, rfl⟩ | ⟨kd, ks, vs, rfl, es, cl, h1, h2, h3, h5, rfl⟩
    · exact ⟨_, B2, .inl ⟨vs, el, h1, h2, B', h3.cut hb.1, rfl⟩, h4.cut hb.2, rfl⟩
    · refine ⟨_, B2, .inr ⟨kd, ks, vs, rfl, es, cl, h1, h2, h3.cut ?_, h5, rfl⟩, h4.cut hb.2, rfl⟩
      have := hb.1
      simpa [below] using this
  | [], _ :: _, _, h, _ => h.elim
  | _ :: _, [], _, h, _ => h.elim

theorem HR.take {e : Env} : ∀ {H : Hp} {m B : List Nat} (n : Nat), HR e H m B → ∃ B', HR e (H.take n) (m.take n) B' ∧ B'.Sublist B
  | [], [], _, n, h => ⟨[], by cases n <;> exact rfl, by rw [show _ = [] from h]; exact List.Sublist.refl _⟩
  | cs :: H, r :: m, _, 0, h => ⟨[], rfl, List.nil_sublist _⟩
  | cs :: H, r :: m, _, n + 1, ⟨B1, B2, h1, h2, rfl⟩ => by
    obtain ⟨B', h3, h4⟩ := h2.take n
    exact ⟨B1 ++ B', ⟨B1, B', h1, h3, rfl⟩, List.Sublist.append (List.Sublist.refl _) h4⟩
  | [], _ :: _, _, _, h => h.elim
  | _ :: _, [], _, _, h => h.elim

theorem HR.len {e : Env} : ∀ {H : Hp} {m B : List Nat}, HR e H m B → H.length = m.length
  | [], [], _, _ => rfl
  | cs :: H, r :: m, _, ⟨_, _, _, h, _⟩ => by simp [h.len]
  | [], _ :: _, _, h => h.elim
  | _ :: _, [], _, h => h.elim

/-! ### What a call does -/

def Post (w : World) (Φ : Mem) (μ BH : List Nat) (v : AV) (H : Hp) (x : Value) (w' : World) : Prop :=
  ∃ Φ' μ' BH', AR ⟨Φ', w'.heap, μ'⟩ #[] v x [] ∧ HR ⟨Φ', w'.heap, μ'⟩ H μ' BH' ∧ BH'.Nodup ∧ Inv ⟨w, Φ, BH, μ⟩ w' Φ' μ' BH'

def CallOK (P : Program) (glob : Nat → Option DV) (call : FuncId → List AV → Hp → Option (AV × Hp)) : Prop :=
  ∀ f as H v H', call f as H = some (v, H') → ∀ (w : World) (Φ : Mem) (μ BH : List Nat) (vals : List Value), WOK Φ w.heap → GOK glob Φ →
    All2 (fun a x => AR1 ⟨Φ, w.heap, μ⟩ a x []) as vals → HR ⟨Φ, w.heap, μ⟩ H μ BH → BH.Nodup →
    Calls P f vals.toArray w fun e w' => ∃ x, e = .returned x ∧ Post w Φ μ BH v H' x w'

section
variable {P : Program} {E : Ent} {w : World} {Φ : Mem} {μ BF BH : List Nat} {tm : Array Value} {fr : Fr} {H : Hp} {cx : Cx}

theorem AR.not_lp_of {n : Nat} {a : AV} (h : belowV n a = true) : ∀ t o, a ≠ .lp t o := by rintro t o rfl; simp [belowV, belowV1, below] at h

theorem retA_not_lp {e : Env} {v : AV} {x : Value} (h : AR e #[] v x []) : ∀ t o, v ≠ .lp t o := by
  rintro t o rfl
  obtain ⟨r, h1, _⟩ := h
  simp at h1

theorem callA_sound (hP : CallOK P cx.glob cx.call) (hF : FR ⟨Φ, w.heap, μ⟩ tm fr BF) (hH : HR ⟨Φ, w.heap, μ⟩ H μ BH) (hN : (BF ++ BH).Nodup) (hI : Inv E w Φ μ (BF ++ BH)) (hg : GOK cx.glob Φ)
    {f : FuncId} {as : List AV} {vals : List Value} {v : AV} {H' : Hp} {ft : Foot} (ha : All2 (fun a x => AR ⟨Φ, w.heap, μ⟩ tm a x []) as vals) (h : callA cx f as H = some (v, H', ft)) :
    Calls P f vals.toArray w fun e w' => ∃ x, e = .returned x ∧ VR E v fr H' tm x w' := by
  have hlt := own_both hF hH
  have hnd := List.nodup_append.1 hN
  unfold callA at h
  cases hiso : cx.iso f with
  | true =>
    rw [hiso, cond_true] at h
    split at h
    · rename_i ds hds
      split at h
      · rename_i v0 H0 hcall
        split at h
        · rename_i y hy
          obtain ⟨rfl, h2⟩ := Prod.mk.inj (Option.some.inj h)
          obtain ⟨rfl, rfl⟩ := Prod.mk.inj h2
          have hargs : All2 (fun a x => AR1 ⟨Φ, w.heap, []⟩ a x []) (ds.map of1) vals := by
            clear hcall h
            induction ha generalizing ds with
            | nil => simp [toDV1s] at hds; subst hds; exact .nil
            | @cons a _ _ _ ha1 _ ih =>
              simp only [toDV1s] at hds
              split at hds
              · rename_i x xs h1 h2
                obtain rfl := Option.some.inj hds
                refine .cons ?_ (ih xs h2)
                have hp : plain a = true := by
                  cases a
                  case agg cs =>
                    simp only [toDV1] at h1
                    have : ∀ {cs : List AV} {ds : List DV}, Go.AI.toDs cs = some ds → cs.all plainC = true := by
                      intro cs
                      induction cs with
                      | nil => simp
                      | cons c cs ih =>
                        intro ds hd
                        simp only [Go.AI.toDs] at hd
                        split at hd
                        · rename_i hc hcs
                          simp only [List.all_cons, Bool.and_eq_true]
                          refine ⟨?_, ih hcs⟩
                          cases c <;> first | rfl | (simp [toD0] at hc; done)
                        · simp at hd
                    cases hd : Go.AI.toDs cs with
                    | none => rw [hd] at h1; simp at h1
                    | some ds => exact this hd
                  all_goals first | rfl | (simp [toDV1, toD0] at h1; done)
                exact AR1.of1 (e := ⟨Φ, w.heap, μ⟩) (e' := ⟨Φ, w.heap, []⟩) rfl (AR.to_AR1 ha1 hp) h1
              · simp at hds
          refine (hP f _ _ _ _ hcall w Φ [] [] vals hI.wok hg hargs rfl List.nodup_nil).mono ?_
          rintro e w' ⟨x, rfl, Φ', μ', BH', hv, hH', hN', hI'⟩
          refine ⟨x, rfl, ?_⟩
          have hstep : ∀ B, (∀ r ∈ B, r ∈ BF ++ BH) → Step ⟨Φ, w.heap, μ⟩ ⟨Φ', w'.heap, μ⟩ B := fun B hB =>
            ⟨hI'.sub, fun _ _ h => h, fun r hr => hI'.keep r (hlt r (hB r hr)) (by simp)⟩
          refine VR.pure (hF.step (hstep _ fun r hr => List.mem_append_left _ hr)) (hH.step (hstep _ fun r hr => List.mem_append_right _ hr)) hN ?_ (AR.ofDV (e := ⟨Φ', w'.heap, μ'⟩) (e' := ⟨Φ', w'.heap, μ⟩) rfl hv hy)
          refine ⟨hI'.wok, Nat.le_trans hI.size hI'.size, hI.sub.trans hI'.sub, hI.mu, fun r hr hx => ?_, hI.own, hI.io.trans hI'.io⟩
          have h1 := hI.keep r hr hx
          have h2 := hI'.keep r (Nat.lt_of_lt_of_le hr hI.size) (by simp)
          exact ⟨by rw [h2.1]; exact h1.1, fun o => by rw [h2.2]; exact h1.2 o⟩
        · simp at h
      · simp at h
    · simp at h
  | false =>
    rw [hiso, cond_false] at h
    split at h
    · rename_i hpl
      split at h
      · rename_i v0 H0 hcall
        obtain ⟨rfl, h2⟩ := Prod.mk.inj (Option.some.inj h)
        obtain ⟨rfl, rfl⟩ := Prod.mk.inj h2
        have hargs : All2 (fun a x => AR1 ⟨Φ, w.heap, μ⟩ a x []) as vals := by
          clear hcall h
          induction ha with
          | nil => exact .nil
          | cons ha1 _ ih =>
            simp only [List.all_cons, Bool.and_eq_true] at hpl
            exact .cons (AR.to_AR1 ha1 hpl.1) (ih hpl.2)
        refine (hP f _ _ _ _ hcall w Φ μ BH vals hI.wok hg hargs hH hnd.2.1).mono ?_
        rintro e w' ⟨x, rfl, Φ', μ', BH', hv, hH', hN', hI'⟩
        refine ⟨x, rfl, ?_⟩
        have hdis : ∀ r ∈ BF, r ∉ BH := fun r hr hr' => hnd.2.2 r hr r hr' rfl
        have hBH : ∀ r ∈ BH', r ∈ BH ∨ w.heap.size ≤ r := hI'.own
        -- the frame is kept, whatever the heap's blocks are called
        have hstep : ∀ m : List Nat, (∀ (b r : Nat), μ[b]? = some r → m[b]? = some r) → Step ⟨Φ, w.heap, μ⟩ ⟨Φ', w'.heap, m⟩ BF := fun m hm =>
          ⟨hI'.sub, hm, fun r hr => hI'.keep r (hF.own_lt r hr) (hdis r hr)⟩
        have hinv : ∀ (m C : List Nat), (∀ (b r : Nat), μ[b]? = some r → m[b]? = some r) → (∀ r ∈ C, r ∈ BH') → Inv E w' Φ' m (BF ++ C) := fun m C hm hC =>
          ⟨hI'.wok, Nat.le_trans hI.size hI'.size, hI.sub.trans hI'.sub, fun b r hb => hm b r (hI.mu b r hb), fun r hr hx => by
            have h1 := hI.keep r hr hx
            have hnb : r ∉ BH := fun hb => by
              rcases hI.own r (List.mem_append_right _ hb) with h | h
              · exact hx h
              · omega
            have h2 := hI'.keep r (Nat.lt_of_lt_of_le hr hI.size) hnb
            exact ⟨by rw [h2.1]; exact h1.1, fun o => by rw [h2.2]; exact h1.2 o⟩, fun r hr => by
            rcases List.mem_append.1 hr with hr | hr
            · exact hI.own r (List.mem_append_left _ hr)
            · rcases hBH r (hC r hr) with h | h
              · exact hI.own r (List.mem_append_right _ h)
              · exact .inr (Nat.le_trans hI.size h), hI.io.trans hI'.io⟩
        have hnod : ∀ C : List Nat, C.Sublist BH' → (BF ++ C).Nodup := fun C hC => by
          refine List.nodup_append.2 ⟨hnd.1, hN'.sublist hC, fun r hr r' hr' he => ?_⟩
          subst he
          rcases hBH r (hC.subset hr') with h | h
          · exact hdis r hr h
          · have := hF.own_lt r hr; simp at this; omega
        unfold gc
        split
        · rename_i hgc
          obtain ⟨hlen, hbv, hbh⟩ := hgc
          obtain ⟨C, h3, h4⟩ := hH'.take H.length
          have h5 := h3.cut (n := H.length) hbh
          have hmu : ∀ (b r : Nat), μ[b]? = some r → (μ'.take H.length)[b]? = some r := fun b r hb => by
            have hb' := (List.getElem?_eq_some_iff.1 hb).1
            rw [List.getElem?_take, if_pos (by rw [hH.len]; exact hb')]
            exact hI'.mu b r hb
          refine VR.pure (Φ := Φ') (μ := μ'.take H.length) (hF.step (hstep _ hmu)) h5 (hnod C h4) (hinv _ C hmu fun r hr => h4.subset hr) ?_
          exact (AR.cut hv hbv).tm_any (AR.not_lp_of hbv)
        · exact VR.pure (hF.step (hstep _ hI'.mu)) hH' (hnod BH' (List.Sublist.refl _)) (hinv _ BH' hI'.mu fun r hr => hr) (hv.tm_any (retA_not_lp hv))
      · simp at h
    · simp at h

end
end Go.AI
