/- Functions: what 'callF' says, the machine does. -/
import Derived.Test.YtkkmdjkahdglhaaAiExec
namespace Go.AI
set_option linter.unusedVariables false
set_option linter.unusedSimpArgs false

section
variable {P : Program} {w : World} {e : Env} {tm : Array Value} {fr : Fr} {H : Hp} {BF BH : List Nat}

theorem dup_AR1 {a : AV} {v : Value} {B : List Nat} (h : AR1 e a v B) (hp : plain a = true) : AR1 e (dup a) v [] := by
  have h1 : AR e #[] (dup a) v [] := AR.dup (AR.of_AR1 h) (by rintro cs rfl; simp [plain, plainC] at hp)
  refine AR.to_AR1 h1 ?_
  cases a
  case agg cs =>
    show (cs.map dupC).all plainC = true
    simp only [plain] at hp
    rw [List.all_map]
    refine List.all_eq_true.2 fun x hx => ?_
    have := (List.all_eq_true.1 hp) x hx
    cases x
    case osl sz xs => show plainC (dupC (.osl sz xs)) = true; rw [dupC_osl]; split <;> rfl
    all_goals first | exact this | simp [plainC] at this
  case osl sz xs => show plain (dupC (.osl sz xs)) = true; rw [dupC_osl]; split <;> rfl
  all_goals first | exact hp | simp [plain, plainC] at hp

def resultRun (tmps : Array Value) : ResultVar → Sem Value
  | .tmp t => pure (tmps.getD t undef)
  | .cell a t => do loadVar t (← asAddr (tmps.getD a undef))

theorem result_sound (hw : w.heap = e.heap) (hF : FR e tm fr BF) (hH : HR e H e.μ BH) {r : ResultVar} {a : AV} (h : resultA P fr H r = some a) (hp : plain a = true) :
    ∃ x, (resultRun tm r).run P w = .ok x w ∧ AR1 e (dup a) x [] := by
  cases r with
  | tmp t =>
    simp only [resultA] at h
    obtain ⟨v, B1, h1, h2, _⟩ := hF.get h
    exact ⟨v, by simp [resultRun, h1], dup_AR1 (AR.to_AR1 h2 hp) hp⟩
  | cell t ty =>
    simp only [resultA] at h
    have go : ∀ {cs : List AV} {r off : Nat} {B : List Nat}, tm[t]? = some (.pointer (some ⟨r, off, none⟩)) → BlkR e cs r B → loadA P ty cs off = some a → ∃ x, (resultRun tm (.cell t ty)).run P w = .ok x w ∧ AR1 e (dup a) x [] := by
      intro cs r off B h1 h2 h3
      obtain ⟨x, B1, B2, h4, h5, _⟩ := blk_load hw h2 h3
      refine ⟨x, ?_, dup_AR1 h5 hp⟩
      simp only [Instr.loadAt, Instr.sureAddr, Sem.run_bind, Sem.run_pure, Result.andThen_ok] at h4
      simp [resultRun, h1, asAddr, h4]
    split at h
    · rename_i cs hg
      obtain ⟨v, B1, h1, ⟨r, rfl, h2⟩, _⟩ := hF.get hg
      exact go h1 h2 h
    · rename_i b off hg
      split at h
      · rename_i cs hb
        obtain ⟨v, B1, h1, h2, _⟩ := hF.get hg
        obtain ⟨r, h3, rfl, _⟩ := h2
        obtain ⟨r', C1, C2, h4, h5, _⟩ := hH.split hb
        rw [h3] at h4
        obtain rfl := Option.some.inj h4
        exact go h1 h5 h
      · simp at h
    · simp at h

theorem results_list (hw : w.heap = e.heap) (hF : FR e tm fr BF) (hH : HR e H e.μ BH) : ∀ {rs : List ResultVar} {vs : List AV}, resultsA P fr H rs = some vs → vs.all plain = true →
    ∃ xs, (rs.mapM (resultRun tm)).run P w = .ok xs w ∧ All2 (fun a x => AR1 e a x []) (vs.map dup) xs
  | [], vs, h, _ => by simp [resultsA] at h; subst h; exact ⟨[], rfl, .nil⟩
  | r :: rs, vs, h, hp => by
    simp only [resultsA] at h
    split at h
    · rename_i a as h1 h2
      obtain rfl := Option.some.inj h
      simp only [List.all_cons, Bool.and_eq_true] at hp
      obtain ⟨x, h3, h4⟩ := result_sound hw hF hH h1 hp.1
      obtain ⟨xs, h5, h6⟩ := results_list hw hF hH h2 hp.2
      exact ⟨x :: xs, by simp [List.mapM_cons, h3, h5], .cons h4 h6⟩
    · simp at h

theorem results_sound (hw : w.heap = e.heap) (hF : FR e tm fr BF) (hH : HR e H e.μ BH) {fn : Func} {vs : List AV} (h : resultsA P fr H fn.results.toList = some vs) (hp : vs.all plain = true) :
    ∃ x, (results fn tm).run P w = .ok x w ∧ AR e #[] (retA (vs.map dup)) x [] := by
  obtain ⟨xs, h1, h2⟩ := results_list hw hF hH h hp
  have hm : (fn.results.mapM (resultRun tm)).run P w = .ok xs.toArray w := by
    rw [Array.mapM_eq_mapM_toList]
    simp [h1]
  have hr : results fn tm = (do let vs ← fn.results.mapM (resultRun tm); pure (if h : vs.size = 1 then vs[0] else .tuple vs)) := by
    unfold results
    congr 1
  rw [hr]
  simp only [Sem.run_bind, hm, Result.andThen_ok, Sem.run_pure]
  refine ⟨_, rfl, ?_⟩
  generalize vs.map dup = us at h2
  cases h2 with
  | nil => exact ⟨#[], by simp, .nil, rfl⟩
  | cons ha hr =>
    cases hr with
    | nil => simp only [retA]; exact AR.of_AR1 (by simpa using ha)
    | cons hb hr => exact ⟨_, by simp, .cons ha (.cons hb hr), rfl⟩

theorem numbered_FR : ∀ {as : List AV} {vals : List Value} {n : Nat}, All2 (fun a x => AR1 e a x []) as vals → (∀ j, vals[j]? ≠ none → tm[n + j]? = vals[j]?) → FR e tm (numbered n as) []
  | [], _, _, _, _ => rfl
  | a :: as, _, n, .cons (b := v) (bs := vals) ha hr, h => by
    refine ⟨v, [], [], ?_, AR.of_AR1 ha, numbered_FR hr fun j hj => ?_, rfl⟩
    · have := h 0 (by simp); simpa using this
    · have := h (j + 1) (by simpa using hj)
      rw [show n + 1 + j = n + (j + 1) by omega]
      simpa using this

theorem dstsOK_mono {m n : Nat} (h : m ≤ n) {ops : List Oper} (hd : dstsOK m ops = true) : dstsOK n ops = true := by
  unfold dstsOK at *
  rw [List.all_eq_true] at *
  intro o ho
  have := hd o ho
  cases hdst : o.dst with
  | none => rfl
  | some d => rw [hdst] at this; exact decide_eq_true (Nat.lt_of_lt_of_le (of_decide_eq_true this) h)

theorem codeOK_mono {m n : Nat} (h : m ≤ n) : ∀ {c : Code}, codeOK m c = true → codeOK n c = true := by
  intro c
  induction c with
  | region id ops draw => exact dstsOK_mono h
  | seq a b iha ihb => intro hc; simp only [codeOK, Bool.and_eq_true] at *; exact ⟨iha hc.1, ihb hc.2⟩
  | cond c a b iha ihb => intro hc; simp only [codeOK, Bool.and_eq_true] at *; exact ⟨iha hc.1, ihb hc.2⟩
  | block id b ih => exact ih
  | loop b ih => exact ih
  | scope b ih => exact ih
  | _ => intro _; rfl

end

/-- What is asked of a program and of what is laid beside it. -/
structure Fit (P : Program) (ann : FuncId → Ann) : Prop where
  name : ProgOK P
  mixed : P.follows .mixedOrders = true
  code : ∀ (f : FuncId) (fn : Func) (c : Code), P.funcs[f]? = some fn → fn.body = some c → codeOK fn.ntmps c = true
  live : ∀ f id, (ann f id).live.Nodup

theorem callF_body {P : Program} {iso : FuncId → Bool} {glob : Nat → Option DV} {ann : FuncId → Ann} (k : Nat) : CallBody P (callF P iso glob ann k) := by
  intro f as H r h
  cases k with
  | zero => simp [callF] at h
  | succ k =>
    simp only [callF] at h
    split at h
    · simp at h
    · rename_i fn hf
      split at h
      · simp at h
      · rename_i c hb; exact ⟨fn, hf, by simp [hb]⟩

theorem callF_sound {P : Program} {iso : FuncId → Bool} {glob : Nat → Option DV} {ann : FuncId → Ann} (hP : Fit P ann) : ∀ k, CallOK P glob (callF P iso glob ann k)
  | 0 => fun f as H v H' h => by simp [callF] at h
  | k + 1 => fun f as H v H' h w Φ μ BH vals hwok hg ha hH hN => by
    simp only [callF] at h
    split at h
    · simp at h
    · rename_i fn hf
      split at h
      · simp at h
      · rename_i c hb
        refine calls_of_wp hf hb ?_
        have hI0 : Inv ⟨w, Φ, BH, μ⟩ w Φ μ ([] ++ BH) := ⟨hwok, Nat.le_refl _, Sub.refl _, fun _ _ h => h, fun _ _ _ => ⟨rfl, fun _ => rfl⟩, fun r hr => .inl (by simpa using hr), ⟨rfl, rfl, rfl⟩⟩
        have hs : SR ⟨w, Φ, BH, μ⟩ ⟨numbered 0 as, H⟩ (vals.toArray ++ Array.replicate (fn.ntmps - vals.toArray.size) undef) w := by
          refine ⟨Φ, μ, [], BH, numbered_FR ha fun j hj => ?_, hH, by simpa using hN, hI0⟩
          have hlt : j < vals.length := by
            rcases Nat.lt_or_ge j vals.length with h | h
            · exact h
            · exact absurd (List.getElem?_eq_none h) hj
          rw [Nat.zero_add, Array.getElem?_append_left (by simpa using hlt)]
          simp
        have hc : CxOK P ⟨w, Φ, BH, μ⟩ ⟨P, callF P iso glob ann k, iso, glob⟩ := ⟨callF_sound hP k, callF_body k, hP.name, rfl, hg⟩
        have hend : ∀ {ex : Ex} {s' : ST}, exec ⟨P, callF P iso glob ann k, iso, glob⟩ (ann f) k c ⟨numbered 0 as, H⟩ = some (ex, s') → (∀ i, ex ≠ .ext i) →
            (match resultsA P s'.fr s'.H fn.results.toList with
              | some vs => if vs.all plain then some (retA (vs.map dup), s'.H) else none
              | none => none) = some (v, H') →
            c.wp P (bodyPost P fn fun e w' => ∃ x, e = .returned x ∧ Post w Φ μ BH v H' x w') { tmps := vals.toArray ++ Array.replicate (fn.ntmps - vals.toArray.size) undef, defers := [] } w := by
          intro ex s' he hne hres
          refine exec_sound (an := ann f) hc hP.mixed (hP.live f) (n := vals.toArray.size + (fn.ntmps - vals.toArray.size)) c (codeOK_mono (by omega) (hP.code f fn c hf hb)) _ _ w _ _ hs (by simp) he fun a' w' h2 h3 h4 => ?_
          obtain ⟨Φ', μ', BF', BH', h5, h6, h7, h8⟩ := h2
          split at hres
          · rename_i vs hvs
            split at hres
            · rename_i hpl
              obtain ⟨rfl, rfl⟩ := Prod.mk.inj (Option.some.inj hres)
              obtain ⟨x, h9, h10⟩ := results_sound (w := w') (e := ⟨Φ', w'.heap, μ'⟩) rfl h5 h6 hvs hpl
              have hfin : a'.defers = [] ∧ ∃ v', (results fn a'.tmps).run P w' = .ok v' w' ∧ ∃ x', Ending.returned v' = .returned x' ∧ Post w Φ μ BH (retA (vs.map dup)) s'.H x' w' :=
                ⟨h4, x, h9, x, rfl, Φ', μ', BH', h10, h6, (List.nodup_append.1 h7).2.1, h8.perm fun r hr => List.mem_append_right _ hr⟩
              cases ex with
              | nrm => exact hfin
              | ret => exact hfin
              | ext i => exact absurd rfl (hne i)
            · simp at hres
          · simp at hres
        split at h
        · simp at h
        · rename_i ex s' hne he
          exact hend he (fun i hi => by subst hi; exact hne i rfl) h
        · simp at h

end Go.AI
