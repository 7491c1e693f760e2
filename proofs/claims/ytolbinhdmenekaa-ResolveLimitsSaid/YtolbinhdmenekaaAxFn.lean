/- Functions: what the tree of decisions says of a function's text, the machine does. -/
import Derived.Test.YtolbinhdmenekaaAxTSound
import Derived.Below
namespace Go.AI
set_option linter.unusedVariables false
set_option linter.unusedSimpArgs false

section
variable {P : Program} {w : World} {e : Env} {tm : Array Value} {fr : Fr} {H : Hp} {BF BH : List Nat}

theorem dup_AR1 {a : AV} {v : Value} {B : List Nat} (h : AR1 e a v B) (hp : plain a = true) : AR1 e (dup a) v [] := by
  have h1 : AR e #[] (dup a) v [] := AR.dup (AR.of_AR1 h) (by rintro cs rfl; simp [plain, plainC] at hp)
  refine AR.to_AR1 h1 ?_
  cases a
  case agg cs =>
    show (cs.map dupC).all plainC = true
    simp only [plain] at hp
    rw [List.all_map]
    refine List.all_eq_true.2 fun x hx => ?_
    have := (List.all_eq_true.1 hp) x hx
    cases x
    case osl sz xs => show plainC (dupC (.osl sz xs)) = true; rw [dupC_osl]; split <;> rfl
    all_goals first | exact this | simp [plainC] at this
  case osl sz xs => show plain (dupC (.osl sz xs)) = true; rw [dupC_osl]; split <;> rfl
  all_goals first | exact hp | simp [plain, plainC] at hp

def resultRun (tmps : Array Value) : ResultVar → Sem Value
  | .tmp t => pure (tmps.getD t undef)
  | .cell a t => do loadVar t (← asAddr (tmps.getD a undef))

theorem result_sound (hw : w.heap = e.heap) (hF : FR e tm fr BF) (hH : HR e H e.μ BH) {r : ResultVar} {a : AV} (h : resultA P fr H r = some a) (hp : plain a = true) :
    ∃ x, (resultRun tm r).run P w = .ok x w ∧ AR1 e (dup a) x [] := by
  cases r with
  | tmp t =>
    simp only [resultA] at h
    obtain ⟨v, B1, h1, h2, _⟩ := hF.get h
    exact ⟨v, by simp [resultRun, h1], dup_AR1 (AR.to_AR1 h2 hp) hp⟩
  | cell t ty =>
    simp only [resultA] at h
    have go : ∀ {cs : List AV} {r off : Nat} {B : List Nat}, tm[t]? = some (.pointer (some ⟨r, off, none⟩)) → BlkR e cs r B → (loadA P ty cs off).map (fixA (fxOf P ty)) = some a → ∃ x, (resultRun tm (.cell t ty)).run P w = .ok x w ∧ AR1 e (dup a) x [] := by
      intro cs r off B h1 h2 h3
      cases hld : loadA P ty cs off with
      | none => rw [hld] at h3; simp at h3
      | some a0 =>
      rw [hld] at h3
      have h3 := Option.some.inj h3
      obtain ⟨x, B1, B2, h4, h5, _⟩ := blk_load hw h2 hld
      have h5 := h5.fixA (fx := fxOf P ty)
      rw [h3] at h5
      refine ⟨x, ?_, dup_AR1 h5 hp⟩
      simp only [Instr.loadAt, Instr.sureAddr, Sem.run_bind, Sem.run_pure, Result.andThen_ok] at h4
      simp [resultRun, h1, asAddr, h4]
    split at h
    · rename_i cs hg
      obtain ⟨v, B1, h1, ⟨r, rfl, h2⟩, _⟩ := hF.get hg
      exact go h1 h2 h
    · rename_i b off hg
      split at h
      · rename_i cs hb
        obtain ⟨v, B1, h1, h2, _⟩ := hF.get hg
        obtain ⟨r, h3, rfl, _⟩ := h2
        obtain ⟨r', C1, C2, h4, h5, _⟩ := hH.split hb
        rw [h3] at h4
        obtain rfl := Option.some.inj h4
        cases hld : loadH P ty cs off with
        | none => rw [hld] at h; simp at h
        | some a0 =>
          have hl := loadH_some hld
          exact go h1 (h5.cells hl.1) (by rw [hl.2]; rw [hld] at h; exact h)
      · simp at h
    · simp at h

theorem results_list (hw : w.heap = e.heap) (hF : FR e tm fr BF) (hH : HR e H e.μ BH) : ∀ {rs : List ResultVar} {vs : List AV}, resultsA P fr H rs = some vs → vs.all plain = true →
    ∃ xs, (rs.mapM (resultRun tm)).run P w = .ok xs w ∧ All2 (fun a x => AR1 e a x []) (vs.map dup) xs
  | [], vs, h, _ => by simp [resultsA] at h; subst h; exact ⟨[], rfl, .nil⟩
  | r :: rs, vs, h, hp => by
    simp only [resultsA] at h
    split at h
    · rename_i a as h1 h2
      obtain rfl := Option.some.inj h
      simp only [List.all_cons, Bool.and_eq_true] at hp
      obtain ⟨x, h3, h4⟩ := result_sound hw hF hH h1 hp.1
      obtain ⟨xs, h5, h6⟩ := results_list hw hF hH h2 hp.2
      exact ⟨x :: xs, by simp [List.mapM_cons, h3, h5], .cons h4 h6⟩
    · simp at h

theorem results_sound (hw : w.heap = e.heap) (hF : FR e tm fr BF) (hH : HR e H e.μ BH) {fn : Func} {vs : List AV} (h : resultsA P fr H fn.results.toList = some vs) (hp : vs.all plain = true) :
    ∃ x, (results fn tm).run P w = .ok x w ∧ AR e #[] (retA (vs.map dup)) x [] := by
  obtain ⟨xs, h1, h2⟩ := results_list hw hF hH h hp
  have hm : (fn.results.mapM (resultRun tm)).run P w = .ok xs.toArray w := by
    rw [Array.mapM_eq_mapM_toList]
    simp [h1]
  have hr : results fn tm = (do let vs ← fn.results.mapM (resultRun tm); pure (if h : vs.size = 1 then vs[0] else .tuple vs)) := by
    unfold results
    congr 1
  rw [hr]
  simp only [Sem.run_bind, hm, Result.andThen_ok, Sem.run_pure]
  refine ⟨_, rfl, ?_⟩
  generalize vs.map dup = us at h2
  cases h2 with
  | nil => exact ⟨#[], by simp, .nil, rfl⟩
  | cons ha hr =>
    cases hr with
    | nil => simp only [retA]; exact AR.of_AR1 (by simpa using ha)
    | cons hb hr => exact ⟨_, by simp, .cons ha (.cons hb hr), rfl⟩

theorem numbered_FR : ∀ {as : List AV} {vals : List Value} {n : Nat}, All2 (fun a x => AR1 e a x []) as vals → (∀ j, vals[j]? ≠ none → tm[n + j]? = vals[j]?) → FR e tm (numbered n as) []
  | [], _, _, _, _ => rfl
  | a :: as, _, n, .cons (b := v) (bs := vals) ha hr, h => by
    refine ⟨v, [], [], ?_, AR.of_AR1 ha, numbered_FR hr fun j hj => ?_, rfl⟩
    · have := h 0 (by simp); simpa using this
    · have := h (j + 1) (by simpa using hj)
      rw [show n + 1 + j = n + (j + 1) by omega]
      simpa using this

theorem dstsOK_mono {m n : Nat} (h : m ≤ n) {ops : List Oper} (hd : dstsOK m ops = true) : dstsOK n ops = true := by
  unfold dstsOK at *
  rw [List.all_eq_true] at *
  intro o ho
  have := hd o ho
  cases hdst : o.dst with
  | none => rfl
  | some d => rw [hdst] at this; exact decide_eq_true (Nat.lt_of_lt_of_le (of_decide_eq_true this) h)

theorem codeOK_mono {m n : Nat} (h : m ≤ n) : ∀ {c : Code}, codeOK m c = true → codeOK n c = true := by
  intro c
  induction c with
  | region id ops draw => exact dstsOK_mono h
  | seq a b iha ihb => intro hc; simp only [codeOK, Bool.and_eq_true] at *; exact ⟨iha hc.1, ihb hc.2⟩
  | cond c a b iha ihb => intro hc; simp only [codeOK, Bool.and_eq_true] at *; exact ⟨iha hc.1, ihb hc.2⟩
  | block id b ih => exact ih
  | loop b ih => exact ih
  | scope b ih => exact ih
  | _ => intro _; rfl

end


/-- A function, in sum: from its text's tree. -/
theorem fnOK_of {X : TX} {an : Ann} {gl : Nat → Option DV} (hX : XOK X an gl) {f : FuncId} {fn : Func} {c : Code} {cc : CC} (hf : X.P.funcs[f]? = some fn) (hb : fn.body = some c) (hok : codeOK fn.ntmps c = true)
    (hc : comp X.P an c = erase cc) (hk : keepsOK cc = true) (hs : Sums X.P gl an cc) {g : FT} (hg : ∀ as H o, (g as H).run = some o → (fnT X cc fn.results.toList as H).run = some o) : FnOK X.P gl f g := by
  refine ⟨⟨fn, hf, by rw [hb]; rfl⟩, fun as H v H' h w Φ μ BH vals hwok hgl ha hH hN => ?_⟩
  have h := hg as H _ h
  unfold fnT at h
  obtain ⟨⟨ex, s'⟩, h1, h2⟩ := Tr.bind_some h
  obtain ⟨h3, _⟩ := execT_sound hX c cc hc hs hk ⟨numbered 0 as, H, []⟩ s' ex (fun t b hb => by simp [kget] at hb) h1
  refine calls_of_wp hf hb ?_
  have hI0 : Inv ⟨w, Φ, BH, μ⟩ w Φ μ ([] ++ BH) := ⟨hwok, Nat.le_refl _, Sub.refl _, fun _ _ h => h, fun _ _ _ => ⟨rfl, fun _ => rfl⟩, fun r hr => .inl (by simpa using hr), ⟨rfl, rfl, rfl⟩⟩
  have hsr : SR ⟨w, Φ, BH, μ⟩ ⟨numbered 0 as, H⟩ (vals.toArray ++ Array.replicate (fn.ntmps - vals.toArray.size) undef) w := by
    refine ⟨Φ, μ, [], BH, numbered_FR ha fun j hj => ?_, hH, by simpa using hN, hI0⟩
    have hlt : j < vals.length := by
      rcases Nat.lt_or_ge j vals.length with h | h
      · exact h
      · exact absurd (List.getElem?_eq_none h) hj
    rw [Nat.zero_add, Array.getElem?_append_left (by simpa using hlt)]
    simp
  refine h3 ⟨w, Φ, BH, μ⟩ { tmps := vals.toArray ++ Array.replicate (fn.ntmps - vals.toArray.size) undef, defers := [] } w _ hgl (codeOK_mono (by simp; omega) hok) hsr fun a' w' h4 h5 h6 => ?_
  obtain ⟨Φ', μ', BF', BH', h7, h8, h9, h10⟩ := h4
  have hend : (∀ i, ex ≠ .ext i) → (match resultsA X.P s'.fr s'.H fn.results.toList with
      | some vs => bif vs.all plain then Tr.leaf (retA (vs.map dup), s'.H) else .fail
      | none => (.fail : Tr (AV × Hp))).run = some (v, H') → bodyPost X.P fn (fun e w' => ∃ x, e = .returned x ∧ Post w Φ μ BH v H' x w') ex.exit a' w' := by
    intro hne hres
    split at hres
    · rename_i vs hvs
      obtain ⟨hpl, hres⟩ := Tr.cond_some hres
      obtain ⟨rfl, rfl⟩ := Prod.mk.inj (Tr.leaf_some hres)
      obtain ⟨x, h11, h12⟩ := results_sound (w := w') (e := ⟨Φ', w'.heap, μ'⟩) rfl h7 h8 hvs hpl
      have hfin : a'.defers = [] ∧ ∃ v', (results fn a'.tmps).run X.P w' = .ok v' w' ∧ ∃ x', Ending.returned v' = .returned x' ∧ Post w Φ μ BH (retA (vs.map dup)) s'.H x' w' :=
        ⟨h6, x, h11, x, rfl, Φ', μ', BH', h12, h8, (List.nodup_append.1 h9).2.1, h10.perm fun r hr => List.mem_append_right _ hr⟩
      cases ex with
      | nrm => exact hfin
      | ret => exact hfin
      | ext i => exact absurd rfl (hne i)
    · exact Tr.fail_some hres
  unfold finishT at h2
  split at h2
  · exact Tr.fail_some h2
  · rename_i hne
    exact hend (fun i hi => hne i hi) h2

/-- A sum that is sound for the loop of a body. -/
theorem SumOK.loop {P : Program} {gl : Nat → Option DV} {an : Ann} {f : ST → Tr (Ex × ST)} {b : CC} (h : ∀ c, comp P an c = erase b → ∀ s r, (f s).run = some r → LoopTri P gl c s r) : SumOK P gl an f (.loop b) := by
  intro c
  induction c with
  | loop c ih => intro hc s r hr; exact (h c (CC.loop.inj hc) s r hr).tri
  | scope c ih => intro hc s r hr; exact (ih hc s r hr).scope
  | region id ops draw => intro hc; cases draw <;> simp [comp, erase] at hc
  | _ => intro hc; simp [comp, erase] at hc

/-- One round, from the body's tree. -/
theorem round_of {X : TX} {an : Ann} {gl : Nat → Option DV} (hX : XOK X an gl) {c : Code} {b : CC} (hc : comp X.P an c = erase b) (hs : Sums X.P gl an b) (hk : keepsOK b = true) {s : ST} {ex : Ex} {s' : SK}
    (h : (execT X b ⟨s.fr, s.H, []⟩).run = some (ex, s')) : Tri X.P gl c s (ex, ⟨s'.fr, s'.H⟩) :=
  (execT_sound hX c b hc hs hk ⟨s.fr, s.H, []⟩ s' ex (fun t b hb => by simp [kget] at hb) h).1

/-- From a sum to a row: a law that is true. -/
theorem law_of {P : Program} {gl : Nat → Option DV} {f : FuncId} {g : FT} (hP : FnOK P gl f g) {xs : List AV} {H : Hp} {Φ : Mem} {W : World} (h : (g xs []).run = some (.d (.bool true), H))
    (hw : WOK Φ W.heap) (hgl : GOK gl Φ) {vals : List Value} (ha : All2 (fun a x => AR1 ⟨Φ, W.heap, []⟩ a x []) xs vals) :
    Calls P f vals.toArray W fun e W' => e = .returned (.bool true) ∧ RowKit.Below W.heap.size W W' := by
  refine (hP.2 xs [] _ _ h W Φ [] [] vals hw hgl ha rfl List.nodup_nil).mono ?_
  rintro e W' ⟨x, rfl, Φ', μ', BH', hv, _, _, hI⟩
  have hx : x = .bool true := by
    have := hv.1
    cases this; rfl
  refine ⟨by rw [hx], hI.io.os, hI.io.tape, hI.io.output, hI.size, fun r hr => ?_⟩
  exact (hI.keep r hr (by simp)).1

theorem wok_none (heap : Array Obj) : WOK (fun _ _ => none) heap := fun r o v h => by simp at h


/-! ### The tables -/

universe u
def lookA {α : Type u} (d : α) : List (Nat × α) → Nat → α
  | [], _ => d
  | (t, a) :: r, u => bif t == u then a else lookA d r u

def annOf (tab : List (Nat × List (Nat × RA))) : FuncId → Ann := fun f r => lookA ⟨[], [], []⟩ (lookA [] tab f) r

def nodupB : List Nat → Bool
  | [] => true
  | a :: r => !r.contains a && nodupB r

theorem nodupB_spec : ∀ {l : List Nat}, nodupB l = true → l.Nodup
  | [], _ => List.nodup_nil
  | a :: r, h => by
    simp only [nodupB, Bool.and_eq_true, Bool.not_eq_true'] at h
    exact List.nodup_cons.2 ⟨by simpa using h.1, nodupB_spec h.2⟩

theorem lookA_spec {α : Type u} {d : α} {p : α → Prop} (hd : p d) : ∀ {l : List (Nat × α)} (_ : ∀ x ∈ l, p x.2) (u : Nat), p (lookA d l u)
  | [], _, _ => hd
  | (t, a) :: r, h, u => by
    unfold lookA
    cases t == u with
    | true => exact h (t, a) (by simp)
    | false => exact lookA_spec hd (fun x hx => h x (List.mem_cons_of_mem _ hx)) u

def tabOK (tab : List (Nat × List (Nat × RA))) : Bool := tab.all fun x => x.2.all fun y => nodupB y.2.live

theorem annOf_live {tab : List (Nat × List (Nat × RA))} (h : tabOK tab = true) (f id : Nat) : (annOf tab f id).live.Nodup := by
  unfold annOf
  refine lookA_spec (p := fun a : RA => a.live.Nodup) List.nodup_nil ?_ id
  refine lookA_spec (p := fun l : List (Nat × RA) => ∀ x ∈ l, x.2.live.Nodup) (by simp) ?_ f
  intro x hx y hy
  exact nodupB_spec ((List.all_eq_true.1 ((List.all_eq_true.1 h) x hx)) y hy)

def nameOK (fn : Func) : Bool := fn.name != "runtime.NumGoroutine"

theorem progOK_of {P : Program} (h1 : P.funcs.toList.all nameOK = true) : ProgOK P := fun f fn hf => by
  have : fn ∈ P.funcs.toList := by
    have h := Array.getElem?_toList (xs := P.funcs) (i := f)
    rw [hf] at h
    exact List.mem_of_getElem? h
  have := (List.all_eq_true.1 h1) fn this
  simpa [nameOK] using this

structure Base (P : Program) (tab : List (Nat × List (Nat × RA))) : Prop where
  prog : ProgOK P
  mixed : P.follows .mixedOrders = true
  tab : tabOK tab = true

theorem XOK.of {P : Program} {tab : List (Nat × List (Nat × RA))} (hb : Base P tab) {l : List (Nat × FT)} {iso : FuncId → Bool} {gl : Nat → Option DV} {vw : TypeId → View} (hT : TblOK P gl l) (f : FuncId) :
    XOK ⟨P, tbl l, iso, gl, vw⟩ (annOf tab f) gl :=
  ⟨hb.prog, hb.mixed, annOf_live hb.tab f, rfl, fun f as H r h => tbl_ok hT f as H r h⟩

/-! ### One round of a loop -/

def keepX (lv rt : List Nat) (xs : List (Nat × List Nat)) : Ex → List Nat
  | .nrm => lv
  | .ret => rt
  | .ext i => lookA [] xs i

def bodyT (X : TX) (lv rt : List Nat) (xs : List (Nat × List Nat)) (cc : CC) (s : ST) : Tr (Ex × ST) :=
  (execT X cc ⟨s.fr, s.H, []⟩).bind fun r => .leaf (r.1, ⟨restrict r.2.fr (keepX lv rt xs r.1), r.2.H⟩)

theorem Tri.post {P : Program} {gl : Nat → Option DV} {c : Code} {s s1 : ST} {ex : Ex} {l : List Nat} (hl : l.Nodup) (h : Tri P gl c s (ex, s1)) : Tri P gl c s (ex, ⟨restrict s1.fr l, s1.H⟩) :=
  fun E a w Q hg hok hs hQ => h E a w Q hg hok hs fun a' w' h1 h2 h3 => hQ a' w' (h1.restrict hl) h2 h3

def keepsB (lv rt : List Nat) (xs : List (Nat × List Nat)) : Bool := nodupB lv && nodupB rt && xs.all fun x => nodupB x.2

theorem keepsB_spec {lv rt : List Nat} {xs : List (Nat × List Nat)} (h : keepsB lv rt xs = true) (ex : Ex) : (keepX lv rt xs ex).Nodup := by
  simp only [keepsB, Bool.and_eq_true] at h
  cases ex with
  | nrm => exact nodupB_spec h.1.1
  | ret => exact nodupB_spec h.1.2
  | ext i => exact lookA_spec (p := fun l : List Nat => l.Nodup) List.nodup_nil (fun x hx => nodupB_spec ((List.all_eq_true.1 h.2) x hx)) i

/-- A loop, by what holds at its head. -/
theorem SumOK.of_inv {X : TX} {an : Ann} {gl : Nat → Option DV} (hX : XOK X an gl) {b : CC} (hs : Sums X.P gl an b) (hk : keepsOK b = true) {lv rt : List Nat} {xs : List (Nat × List Nat)} (hn : keepsB lv rt xs = true) {f : ST → Tr (Ex × ST)}
    (I : Nat → ST → Ex × ST → Prop) (h0 : ∀ s r, (f s).run = some r → ∃ n, I n s r)
    (h1 : ∀ n s r, I n s r → ∃ ex s', (bodyT X lv rt xs b s).run = some (ex, s') ∧ ((ex ≠ .nrm ∧ (ex, s') = r) ∨ (ex = .nrm ∧ ∃ n', n' < n ∧ I n' s' r))) : SumOK X.P gl an f (.loop b) := by
  refine SumOK.loop fun c hc s r hr => ?_
  obtain ⟨n, hI⟩ := h0 s r hr
  have key : ∀ n s r, I n s r → LoopTri X.P gl c s r := by
    intro n
    induction n using Nat.strongRecOn with
    | _ n ih =>
      intro s r hI
      obtain ⟨ex, s', h2, h3⟩ := h1 n s r hI
      unfold bodyT at h2
      obtain ⟨⟨ex1, s1⟩, h4, h5⟩ := Tr.bind_some h2
      obtain ⟨rfl, rfl⟩ := Prod.mk.inj (Tr.leaf_some h5)
      have h6 := round_of hX hc hs hk h4
      rcases h3 with ⟨hne, rfl⟩ | ⟨rfl, n', hlt, hI'⟩
      · exact LoopTri.out hne (Tri.post (keepsB_spec hn ex1) h6)
      · exact LoopTri.go h6 (LoopTri.keep (keepsB_spec hn .nrm) (ih n' hlt _ _ hI'))
  exact key n s r hI

theorem fn_of {X : TX} {an : Ann} {gl : Nat → Option DV} (hX : XOK X an gl) {f : FuncId} {fn : Func} {cc : CC} (hf : X.P.funcs[f]? = some fn) (hc : ∃ c, fn.body = some c ∧ codeOK fn.ntmps c = true ∧ comp X.P an c = erase cc)
    (hk : keepsOK cc = true) (hs : Sums X.P gl an cc) {g : FT} (hg : ∀ as H o, (g as H).run = some o → (fnT X cc fn.results.toList as H).run = some o) : FnOK X.P gl f g :=
  let ⟨_, h1, h2, h3⟩ := hc
  fnOK_of hX hf h1 h2 h3 hk hs hg

/-- What a function leaves in the shared heap may be forgotten, where nothing leads to it. -/
theorem FnOK.drop {P : Program} {gl : Nat → Option DV} {f : FuncId} {g g' : FT} (h : FnOK P gl f g)
    (hd : ∀ as H v H', (g' as H).run = some (v, H') → H = [] ∧ H' = [] ∧ belowV 0 v = true ∧ ∃ H1, (g as H).run = some (v, H1)) : FnOK P gl f g' := by
  refine ⟨h.1, fun as H v H' hr w Φ μ BH vals hwok hgl ha hH hN => ?_⟩
  obtain ⟨rfl, rfl, hb, H1, h1⟩ := hd as H v H' hr
  refine (h.2 as [] v H1 h1 w Φ μ BH vals hwok hgl ha hH hN).mono ?_
  rintro e w' ⟨x, rfl, Φ', μ', BH', h2, h3, h4, h5⟩
  refine ⟨x, rfl, Φ', [], [], ?_, rfl, List.nodup_nil, ?_⟩
  · have := h2.cut (n := 0) hb
    simpa using this
  · have hμ : μ = [] := by
      cases μ with
      | nil => rfl
      | cons => exact hH.elim
    subst hμ
    exact ⟨h5.wok, h5.size, h5.sub, fun b r hb => by simp at hb, h5.keep, fun r hr => by simp at hr, h5.io⟩

/-! ### Trees, run -/

section
variable {α β : Type} {a : α} {b : Bool} {t e : Tr α} {o : Option β} {k : β → Tr α}
theorem Tr.run_leaf : (Tr.leaf a).run = some a := rfl
theorem Tr.run_fail : (Tr.fail : Tr α).run = none := rfl
theorem Tr.run_br : (Tr.br b t e).run = if b = true then t.run else e.run := by cases b <;> rfl
theorem Tr.run_yes (h : b = true) : (Tr.br b t e).run = t.run := by subst h; rfl
theorem Tr.run_no (h : b = false) : (Tr.br b t e).run = e.run := by subst h; rfl
theorem Tr.run_opt {y : β} (h : o = some y) : (Tr.opt o k).run = (k y).run := by subst h; rfl
theorem Tr.run_opt_ : (Tr.opt o k).run = match o with | some y => (k y).run | none => none := by cases o <;> rfl
end

theorem ite_to {α : Type} {p : Prop} [Decidable p] {a b c : α} (h1 : p → a = c) (h2 : ¬p → b = c) : (if p then a else b) = c := by
  by_cases h : p
  · rw [if_pos h]; exact h1 h
  · rw [if_neg h]; exact h2 h

section
variable {α : Type} {t e : Tr α} {c : Option α}
theorem Tr.dec_to {p : Prop} [Decidable p] (h1 : p → t.run = c) (h2 : ¬p → e.run = c) : (Tr.br (decide p) t e).run = c := by
  rw [Tr.run_br]; by_cases h : p
  · rw [if_pos (decide_eq_true h)]; exact h1 h
  · rw [if_neg (by rw [decide_eq_false h]; decide)]; exact h2 h
theorem Tr.ndec_to {p : Prop} [Decidable p] (h1 : ¬p → t.run = c) (h2 : p → e.run = c) : (Tr.br (!decide p) t e).run = c := by
  rw [Tr.run_br]; by_cases h : p
  · rw [if_neg (by rw [decide_eq_true h]; decide)]; exact h2 h
  · rw [if_pos (by rw [decide_eq_false h]; decide)]; exact h1 h
theorem Tr.br_to {b : Bool} (h1 : b = true → t.run = c) (h2 : b = false → e.run = c) : (Tr.br b t e).run = c := by
  cases b with
  | true => exact h1 rfl
  | false => exact h2 rfl
/-- The way on which a check holds. -/
theorem Tr.dec_yes {p : Prop} [Decidable p] (h : p) (h1 : t.run = c) : (Tr.br (decide p) t e).run = c := by rw [Tr.run_yes (decide_eq_true h)]; exact h1
theorem Tr.dec_no {p : Prop} [Decidable p] (h : ¬p) (h1 : e.run = c) : (Tr.br (decide p) t e).run = c := by rw [Tr.run_no (decide_eq_false h)]; exact h1
theorem Tr.opt_to {β : Type} {o : Option β} {k : β → Tr α} {y : β} (h : o = some y) (h1 : (k y).run = c) : (Tr.opt o k).run = c := by subst h; exact h1
end

/-! ### Lists of things that look alike -/

def unL {α : Type} (un : DV → Option α) : List DV → Option (List α)
  | [] => some []
  | x :: r => match un x, unL un r with
    | some y, some l => some (y :: l)
    | _, _ => none

section
variable {α : Type} {un : DV → Option α} {enc : α → DV}
theorem unL_map (h : ∀ y, un (enc y) = some y) : ∀ (l : List α), unL un (l.map enc) = some l
  | [] => rfl
  | y :: l => by simp [unL, h, unL_map h l]
theorem unL_inv (h : ∀ x y, un x = some y → x = enc y) : ∀ {xs : List DV} {l : List α}, unL un xs = some l → xs = l.map enc
  | [], l, hl => by simp [unL] at hl; subst hl; rfl
  | x :: r, l, hl => by
    unfold unL at hl
    split at hl
    · rename_i y l' h1 h2
      obtain rfl := Option.some.inj hl
      rw [h x y h1, unL_inv h h2]; rfl
    · simp at hl
theorem at_map (h : ∀ y, un (enc y) = some y) (l : List α) (i : Nat) : ((l.map enc)[i]?).bind un = l[i]? := by
  rw [List.getElem?_map]
  cases l[i]? with
  | none => rfl
  | some y => exact h y
end

end Go.AI
