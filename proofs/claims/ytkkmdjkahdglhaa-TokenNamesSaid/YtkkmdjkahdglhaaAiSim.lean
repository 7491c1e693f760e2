/- A form of the interpreter's run that is good to rewrite with: regions compiled, tables laid beside the program. -/
import Derived.Test.YtkkmdjkahdglhaaAiFunc
namespace Go.AI
set_option linter.unusedVariables false
set_option linter.unusedSimpArgs false

/-! ### The tables -/

def lookA {α : Type} (d : α) : List (Nat × α) → Nat → α
  | [], _ => d
  | (t, a) :: r, u => bif t == u then a else lookA d r u

def annOf (tab : List (Nat × List (Nat × RA))) : FuncId → Ann := fun f r => lookA ⟨[], [], []⟩ (lookA [] tab f) r

def nodupB : List Nat → Bool
  | [] => true
  | a :: r => !r.contains a && nodupB r

theorem nodupB_spec : ∀ {l : List Nat}, nodupB l = true → l.Nodup
  | [], _ => List.nodup_nil
  | a :: r, h => by
    simp only [nodupB, Bool.and_eq_true, Bool.not_eq_true'] at h
    exact List.nodup_cons.2 ⟨by simpa using h.1, nodupB_spec h.2⟩

theorem lookA_spec {α : Type} {d : α} {p : α → Prop} (hd : p d) : ∀ {l : List (Nat × α)} (_ : ∀ x ∈ l, p x.2) (u : Nat), p (lookA d l u)
  | [], _, _ => hd
  | (t, a) :: r, h, u => by
    unfold lookA
    cases t == u with
    | true => exact h (t, a) (by simp)
    | false => exact lookA_spec hd (fun x hx => h x (List.mem_cons_of_mem _ hx)) u

def tabOK (tab : List (Nat × List (Nat × RA))) : Bool := tab.all fun x => x.2.all fun y => nodupB y.2.live

theorem annOf_live {tab : List (Nat × List (Nat × RA))} (h : tabOK tab = true) (f id : Nat) : (annOf tab f id).live.Nodup := by
  unfold annOf
  refine lookA_spec (p := fun a : RA => a.live.Nodup) List.nodup_nil ?_ id
  refine lookA_spec (p := fun l : List (Nat × RA) => ∀ x ∈ l, x.2.live.Nodup) (by simp) ?_ f
  intro x hx y hy
  exact nodupB_spec ((List.all_eq_true.1 ((List.all_eq_true.1 h) x hx)) y hy)

def funcOK (fn : Func) : Bool := fn.name != "runtime.NumGoroutine" && (match fn.body with | some c => codeOK fn.ntmps c | none => true)

theorem fit_of {P : Program} {tab : List (Nat × List (Nat × RA))} (h1 : P.funcs.toList.all funcOK = true) (h2 : P.follows .mixedOrders = true) (h3 : tabOK tab = true) : Fit P (annOf tab) := by
  have hm : ∀ (f : FuncId) (fn : Func), P.funcs[f]? = some fn → funcOK fn = true := fun f fn hf => by
    have : fn ∈ P.funcs.toList := by
      have h := Array.getElem?_toList (xs := P.funcs) (i := f)
      rw [hf] at h
      exact List.mem_of_getElem? h
    exact (List.all_eq_true.1 h1) fn this
  refine ⟨fun f fn hf => ?_, h2, fun f fn c hf hb => ?_, annOf_live h3⟩
  · have := hm f fn hf
    simp only [funcOK, Bool.and_eq_true, bne_iff_ne] at this
    exact this.1
  · have := hm f fn hf
    simp only [funcOK, Bool.and_eq_true, hb] at this
    exact this.2

/-! ### Regions, compiled -/

inductive CG where
  | yes
  | no
  | on (t : Nat) (want : Bool)

structure CO where
  g : CG
  dst : Option Nat
  op : Op
  st : Bool
  hf : Bool

def cgOf (ops : List Oper) (o : Oper) : CG :=
  match o.guard with
  | none => .yes
  | some (j, want) => match ops[j]? with
    | some oj => match oj.dst with
      | some d => .on d want
      | none => .no
    | none => .no

def compile (an : RA) (ops : List Oper) : Nat → List Oper → List CO
  | _, [] => []
  | i, o :: r => ⟨cgOf ops o, o.dst, o.op, an.st.contains i, an.hf.contains i⟩ :: compile an ops (i + 1) r

def goOp (cx : Cx) (c : CO) (s : ST) : Option ST :=
  match aop cx c.st c.hf s.fr s.H c.op with
  | some r => bif okV r.v r.ft then some ⟨put c.dst r.v r.fr, r.H⟩ else none
  | none => none

def skipOp (c : CO) (s : ST) : ST := ⟨put c.dst .undef s.fr, s.H⟩

def stepC (cx : Cx) (c : CO) (s : ST) : Option ST :=
  match c.g with
  | .yes => goOp cx c s
  | .no => some (skipOp c s)
  | .on d want => match get s.fr d with
    | some (.d (.bool b)) => bif b == want then goOp cx c s else some (skipOp c s)
    | some .undef => some (skipOp c s)
    | _ => none

theorem stepC_eq {cx : Cx} {an : RA} {ops : List Oper} {i : Nat} {o : Oper} {s : ST} : stepOp cx an ops i o s = stepC cx ⟨cgOf ops o, o.dst, o.op, an.st.contains i, an.hf.contains i⟩ s := by
  unfold stepOp stepC guardOf cgOf goOp skipOp
  cases o.guard with
  | none => rfl
  | some jw =>
    obtain ⟨j, want⟩ := jw
    simp only
    cases ops[j]? with
    | none => rfl
    | some oj =>
      simp only
      cases oj.dst with
      | none => rfl
      | some d =>
        simp only
        cases get s.fr d with
        | none => rfl
        | some a =>
          cases a with
          | d x =>
            cases x with
            | bool b =>
              simp only
              cases b == want with
              | true => rfl
              | false => rfl
            | _ => rfl
          | _ => rfl

def runC (cx : Cx) : List CO → ST → Option ST
  | [], s => some s
  | c :: r, s => match stepC cx c s with
    | some s' => runC cx r s'
    | none => none

theorem runC_eq {cx : Cx} {an : RA} {ops : List Oper} : ∀ {r : List Oper} {i : Nat} {s : ST}, runOps cx an ops i r s = runC cx (compile an ops i r) s
  | [], _, _ => rfl
  | o :: r, i, s => by
    simp only [runOps, compile, runC, stepC_eq]
    cases stepC cx ⟨cgOf ops o, o.dst, o.op, an.st.contains i, an.hf.contains i⟩ s with
    | none => rfl
    | some s' => exact runC_eq

/-! ### Code, compiled -/

inductive CC where
  | skip
  | region (cs : List CO) (live : List Nat)
  | drawn (an : RA) (ops : List Oper)
  | seq (a b : CC)
  | cond (c : Operand) (a b : CC)
  | block (id : Nat) (b : CC)
  | loop (b : CC)
  | exit (id : Nat)
  | ret
  | bad

def compileCode (an : Ann) : Code → CC
  | .skip => .skip
  | .label _ => .skip
  | .region id ops false => .region (compile (an id) ops.toList 0 ops.toList) (an id).live
  | .region id ops true => .drawn (an id) ops.toList
  | .seq a b => .seq (compileCode an a) (compileCode an b)
  | .cond c a b => .cond c (compileCode an a) (compileCode an b)
  | .block id b => .block id (compileCode an b)
  | .loop b => .loop (compileCode an b)
  | .exit id => .exit id
  | .scope b => compileCode an b
  | .ret => .ret
  | _ => .bad

def execC (cx : Cx) (k : Nat) : CC → ST → Option (Ex × ST)
  | .skip, s => some (.nrm, s)
  | .region cs lv, s => match runC cx cs s with
    | some s' => some (.nrm, ⟨restrict s'.fr lv, s'.H⟩)
    | none => none
  | .drawn an ops, s => match runRegion cx an ops.toArray true s with
    | some s' => some (.nrm, s')
    | none => none
  | .seq a b, s => match execC cx k a s with
    | some (.nrm, s') => execC cx k b s'
    | r => r
  | .cond c a b, s => match rd cx s.fr c with
    | some (.d (.bool t)) => bif t then execC cx k a s else execC cx k b s
    | _ => none
  | .block id b, s => match execC cx k b s with
    | some (.ext i, s') => if i = id then some (.nrm, s') else some (.ext i, s')
    | r => r
  | .loop b, s => loopN k (execC cx k b) s
  | .exit id, s => some (.ext id, s)
  | .ret, s => some (.ret, s)
  | .bad, s => none

theorem execC_eq {cx : Cx} {an : Ann} {k : Nat} : ∀ (c : Code) (s : ST), exec cx an k c s = execC cx k (compileCode an c) s
  | .skip, s => rfl
  | .label _, s => rfl
  | .region id ops false, s => by
    simp only [exec, compileCode, execC, runRegion, runC_eq, cond_false]
    cases runC cx (compile (an id) ops.toList 0 ops.toList) s <;> rfl
  | .region id ops true, s => rfl
  | .seq a b, s => by
    simp only [exec, compileCode, execC, execC_eq a]
    cases execC cx k (compileCode an a) s with
    | none => rfl
    | some r =>
      obtain ⟨ex, s'⟩ := r
      cases ex with
      | nrm => exact execC_eq b s'
      | ext i => rfl
      | ret => rfl
  | .cond c a b, s => by
    simp only [exec, compileCode, execC, execC_eq a, execC_eq b]
    rfl
  | .block id b, s => by
    simp only [exec, compileCode, execC, execC_eq b]
    rfl
  | .loop b, s => by
    have : exec cx an k b = execC cx k (compileCode an b) := funext (execC_eq b)
    simp only [exec, compileCode, execC, this]
  | .exit id, s => rfl
  | .scope b, s => by simp only [exec, compileCode, execC_eq b]
  | .ret, s => rfl
  | .goto _, s => rfl
  | .refuse _, s => rfl
  | .rangeFunc _ _ _ _, s => rfl

/-- The end of a call. -/
def finish (P : Program) (rs : List ResultVar) : Option (Ex × ST) → Option (AV × Hp)
  | some (.ext _, _) => none
  | some (_, s) => match resultsA P s.fr s.H rs with
    | some vs => bif vs.all plain then some (retA (vs.map dup), s.H) else none
    | none => none
  | none => none

abbrev cxOf (P : Program) (iso : FuncId → Bool) (glob : Nat → Option DV) (ann : FuncId → Ann) (k : Nat) : Cx := ⟨P, callF P iso glob ann k, iso, glob⟩

theorem callF_eq {P : Program} {iso : FuncId → Bool} {glob : Nat → Option DV} {ann : FuncId → Ann} {k f : Nat} {fn : Func} {c : Code} {cc : CC} {as : List AV} {H : Hp} (hf : P.funcs[f]? = some fn) (hb : fn.body = some c)
    (hc : compileCode (ann f) c = cc) : callF P iso glob ann (k + 1) f as H = finish P fn.results.toList (execC (cxOf P iso glob ann k) k cc ⟨numbered 0 as, H⟩) := by
  have he := execC_eq (cx := cxOf P iso glob ann k) (an := ann f) (k := k) c ⟨numbered 0 as, H⟩
  rw [hc] at he
  simp only [callF, hf, hb, cxOf] at he ⊢
  rw [he]
  cases execC ⟨P, callF P iso glob ann k, iso, glob⟩ k cc ⟨numbered 0 as, H⟩ with
  | none => rfl
  | some r =>
    obtain ⟨ex, s⟩ := r
    cases ex with
    | ext i => rfl
    | nrm =>
      simp only [finish]
      cases resultsA P s.fr s.H fn.results.toList with
      | none => rfl
      | some vs => simp only; cases vs.all plain <;> rfl
    | ret =>
      simp only [finish]
      cases resultsA P s.fr s.H fn.results.toList with
      | none => rfl
      | some vs => simp only; cases vs.all plain <;> rfl

end Go.AI
