/- The machine's operations against the interpreter's: what is read, what only computes. -/
import Derived.Test.YtolbinhdmenekaaAxRel
import Derived.Laws.Sem
import Derived.Laws.World
import Derived.Orders
namespace Go.AI
set_option linter.unusedVariables false

/-- The call's beginning: its world, what nobody writes, the blocks that it may write, the shared heap's blocks. -/
structure Ent where
  w : World
  Φ : Mem
  X : List Nat
  μ : List Nat

/-- What the call has not to do with. -/
structure SameIO (w w' : World) : Prop where
  os : w'.os = w.os
  tape : w'.tape = w.tape
  output : w'.output = w.output

theorem SameIO.trans {a b c : World} (h : SameIO a b) (k : SameIO b c) : SameIO a c := ⟨k.os.trans h.os, k.tape.trans h.tape, k.output.trans h.output⟩

structure Inv (E : Ent) (w : World) (Φ : Mem) (μ : List Nat) (B : List Nat) : Prop where
  wok : WOK Φ w.heap
  size : E.w.heap.size ≤ w.heap.size
  sub : Sub E.Φ Φ
  mu : ∀ (b r : Nat), E.μ[b]? = some r → μ[b]? = some r
  keep : ∀ r, r < E.w.heap.size → r ∉ E.X → w.heap[r]? = E.w.heap[r]? ∧ ∀ o, Φ r o = E.Φ r o
  own : ∀ r ∈ B, r ∈ E.X ∨ E.w.heap.size ≤ r
  io : SameIO E.w w

theorem Inv.perm {E : Ent} {w : World} {Φ : Mem} {μ B C : List Nat} (h : Inv E w Φ μ B) (hs : ∀ r ∈ C, r ∈ B) : Inv E w Φ μ C :=
  ⟨h.wok, h.size, h.sub, h.mu, h.keep, fun r hr => h.own r (hs r hr), h.io⟩

def SR (E : Ent) (s : ST) (tm : Array Value) (w : World) : Prop :=
  ∃ Φ μ BF BH, FR ⟨Φ, w.heap, μ⟩ tm s.fr BF ∧ HR ⟨Φ, w.heap, μ⟩ s.H μ BH ∧ (BF ++ BH).Nodup ∧ Inv E w Φ μ (BF ++ BH)

def VR (E : Ent) (v : AV) (fr : Fr) (H : Hp) (tm : Array Value) (x : Value) (w : World) : Prop :=
  ∃ Φ μ BV BF BH, AR ⟨Φ, w.heap, μ⟩ tm v x BV ∧ FR ⟨Φ, w.heap, μ⟩ tm fr BF ∧ HR ⟨Φ, w.heap, μ⟩ H μ BH ∧ (BV ++ (BF ++ BH)).Nodup ∧ Inv E w Φ μ (BV ++ (BF ++ BH))

theorem nodup_sub {A B C : List Nat} (h : (A ++ B).Nodup) (hs : C.Sublist A) : (C ++ B).Nodup := h.sublist (List.Sublist.append hs (List.Sublist.refl _))

def putTm (tm : Array Value) (dst : Option Nat) (x : Value) : Array Value :=
  match dst with
  | some d => tm.setIfInBounds d x
  | none => tm

theorem VR.put {E : Ent} {v : AV} {fr : Fr} {H : Hp} {tm : Array Value} {x : Value} {w : World} (h : VR E v fr H tm x w) (dst : Option Nat)
    (hd : ∀ d, dst = some d → d < tm.size) : SR E ⟨put dst v fr, H⟩ (putTm tm dst x) w := by
  obtain ⟨Φ, μ, BV, BF, BH, hv, hf, hh, hn, hi⟩ := h
  cases dst with
  | none =>
    refine ⟨Φ, μ, BF, BH, hf, hh, (List.nodup_append.1 hn).2.1, hi.perm fun r hr => List.mem_append_right _ hr⟩
  | some d =>
    obtain ⟨B', h1, h2⟩ := hf.del (d := d) (x := x)
    have hsub : (B' ++ BH).Sublist (BF ++ BH) := List.Sublist.append h2 (List.Sublist.refl _)
    have hs2 : (BV ++ B' ++ BH).Sublist (BV ++ (BF ++ BH)) := by
      rw [List.append_assoc]; exact List.Sublist.append (List.Sublist.refl _) hsub
    refine ⟨Φ, μ, BV ++ B', BH, ⟨x, BV, B', ?_, hv.kill, h1, rfl⟩, hh, hn.sublist hs2, hi.perm fun r hr => hs2.subset hr⟩
    simp [putTm, hd d rfl]

/-- What the globals hold, nobody writes. -/
def GOK (glob : Nat → Option DV) (Φ : Mem) : Prop := ∀ g x, glob g = some x → PtR Φ x ⟨g, 0, none⟩

theorem AC.ofConst0 {e : Env} {v : Value} {a : AV} (h : ofConst0 v = some a) : AC e a v [] := by
  unfold Go.AI.ofConst0 at h
  split at h <;> first | (injection h with h; subst h) | (simp at h; done)
  · exact ⟨.bool _, rfl⟩
  · exact ⟨.int _ _, rfl⟩
  · exact ⟨.str _ _ rfl, rfl⟩
  · exact .inl ⟨rfl, rfl, rfl⟩
  · exact ⟨rfl, rfl⟩
  · exact ⟨rfl, rfl⟩
  · exact ⟨.nilI, rfl⟩
  · exact ⟨rfl, rfl⟩

theorem All2O.ofConsts {e : Env} : ∀ {vs : List Value} {as : List AV}, ofConsts vs = some as → All2O (AC e) as vs []
  | [], _, h => by simp [Go.AI.ofConsts] at h; subst h; exact .nil
  | v :: r, _, h => by
    simp only [Go.AI.ofConsts] at h
    split at h
    · rename_i a as h1 h2
      injection h with h; subst h
      simpa using All2O.cons (AC.ofConst0 h1) (All2O.ofConsts h2)
    · simp at h

theorem AR.of_AC {e : Env} {tm : Array Value} {a : AV} {v : Value} {B : List Nat} (h : AC e a v B) : AR e tm a v B := by
  cases a <;> first | exact h | exact h.elim

theorem AR1.of_AC {e : Env} {a : AV} {v : Value} {B : List Nat} (h : AC e a v B) : AR1 e a v B := by
  cases a <;> first | exact h | exact h.elim

theorem AR.of_AR1 {e : Env} {tm : Array Value} {a : AV} {v : Value} {B : List Nat} (h : AR1 e a v B) : AR e tm a v B := by
  cases a <;> first | exact h | exact h.elim

theorem ofConst0_plain {v : Value} {a : AV} (h : ofConst0 v = some a) : plainC a = true := by
  unfold Go.AI.ofConst0 at h
  split at h <;> first | (injection h with h; subst h; rfl) | (simp at h; done)

theorem AR.ofConst {e : Env} {tm : Array Value} {v : Value} {a : AV} (h : ofConst v = some a) : AR e tm a v [] := by
  unfold Go.AI.ofConst at h
  split at h
  · rename_i cs
    cases h1 : ofConsts cs.toList with
    | none => rw [h1] at h; simp at h
    | some as => rw [h1] at h; simp at h; subst h; exact ⟨cs, rfl, All2O.ofConsts h1⟩
  · exact AR.of_AC (AC.ofConst0 h)

section reads
variable {cx : Cx} {E : Ent} {e : Env} {tm : Array Value} {fr : Fr} {B : List Nat} {a : Act}

theorem rd_sound (hf : FR e tm fr B) (ht : a.tmps = tm) (hg : GOK cx.glob e.Φ) {o : Operand} {v : AV} (h : rd cx fr o = some v) : AR e tm v (a.eval o) [] := by
  cases o with
  | tmp t =>
    simp only [rd] at h
    split at h
    · rename_i cs hget
      injection h with h; subst h
      obtain ⟨x, B1, h1, h2, _⟩ := hf.get hget
      obtain ⟨r, hx, _⟩ := h2
      exact ⟨r, by rw [h1, hx], by simp [Act.eval, ht, h1, hx], rfl⟩
    · simp at h
    · rename_i c hnb hnj hget
      injection h with h; subst h
      obtain ⟨x, B1, h1, h2, _⟩ := hf.get hget
      have : a.eval (.tmp t) = x := by simp [Act.eval, ht, h1]
      rw [this]
      exact h2.dup fun cs hc => hnb cs hc
    · simp at h
  | const v' => exact AR.ofConst h
  | global g =>
    simp only [rd] at h
    cases hgl : cx.glob g with
    | none => rw [hgl] at h; simp at h
    | some x => rw [hgl] at h; simp at h; subst h; exact ⟨_, rfl, hg g x hgl, rfl⟩
  | func f => simp only [rd] at h; injection h with h; subst h; exact ⟨rfl, rfl⟩

theorem rds_sound (hf : FR e tm fr B) (ht : a.tmps = tm) (hg : GOK cx.glob e.Φ) : ∀ {os : List Operand} {vs : List AV}, rds cx fr os = some vs →
    All2 (fun v x => AR e tm v x []) vs (os.map a.eval)
  | [], _, h => by simp [rds] at h; subst h; exact .nil
  | o :: r, _, h => by
    simp only [rds] at h
    split at h
    · rename_i v vs h1 h2
      injection h with h; subst h
      exact .cons (rd_sound hf ht hg h1) (rds_sound hf ht hg h2)
    · simp at h

/-- Read with what it may be appended to. -/
theorem rdS_sound (hf : FR e tm fr B) (ht : a.tmps = tm) (hg : GOK cx.glob e.Φ) {st : Bool} {o : Operand} {v : AV} {fr' : Fr} (h : rdS cx st fr o = some (v, fr')) :
    ∃ BV BF C, AR e tm v (a.eval o) BV ∧ FR e tm fr' BF ∧ (BV ++ BF ++ C).Perm B := by
  have plain : ∀ v, rd cx fr o = some v → ∃ BV BF C, AR e tm v (a.eval o) BV ∧ FR e tm fr BF ∧ (BV ++ BF ++ C).Perm B := fun v h =>
    ⟨[], B, [], rd_sound hf ht hg h, hf, by simp⟩
  have viaMap : ((rd cx fr o).map fun a => (a, fr)) = some (v, fr') → ∃ BV BF C, AR e tm v (a.eval o) BV ∧ FR e tm fr' BF ∧ (BV ++ BF ++ C).Perm B := fun h => by
    cases h1 : rd cx fr o with
    | none => rw [h1] at h; simp at h
    | some u => rw [h1] at h; simp at h; obtain ⟨rfl, rfl⟩ := h; exact plain _ h1
  cases st with
  | false => simp only [rdS, cond_false] at h; exact viaMap h
  | true =>
    simp only [rdS, cond_true] at h
    cases o with
    | tmp t =>
      simp only at h
      split at h
      · rename_i cs hget
        injection h with h
        obtain ⟨rfl, rfl⟩ := Prod.mk.inj h
        exact plain _ (by simp [rd, hget])
      · simp at h
      · rename_i c hnb hnj hget
        injection h with h
        obtain ⟨rfl, rfl⟩ := Prod.mk.inj h
        obtain ⟨x, B1, B2, h1, h2, h3, h4⟩ := hf.split hget
        obtain ⟨B'', h5, h6⟩ := h4 e (dup c) [] (h2.dup fun cs hc => hnb cs hc) (Step.refl _ _)
        have : a.eval (.tmp t) = x := by simp [Act.eval, ht, h1]
        rw [this, disown_upd hget]
        refine ⟨B1, B'', [], h2, h5, ?_⟩
        rw [List.append_nil]
        exact (List.Perm.append_left _ h6).trans (by simpa using h3)
      · simp at h
    | const v' => exact viaMap h
    | global g => exact viaMap h
    | func f => exact viaMap h

theorem rdsS_sound (ht : a.tmps = tm) (hg : GOK cx.glob e.Φ) {st : Bool} : ∀ {os : List Operand} {fr : Fr} {B : List Nat} {vs : List AV} {fr' : Fr}, FR e tm fr B → rdsS cx st fr os = some (vs, fr') →
    ∃ BV BF C, All2O (AR e tm) vs (os.map a.eval) BV ∧ FR e tm fr' BF ∧ (BV ++ BF ++ C).Perm B
  | [], fr, B, _, _, hf, h => by simp [rdsS] at h; obtain ⟨rfl, rfl⟩ := h; exact ⟨[], B, [], .nil, hf, by simp⟩
  | o :: r, fr, B, _, _, hf, h => by
    simp only [rdsS] at h
    split at h
    · rename_i v fr1 h1
      split at h
      · rename_i vs fr2 h2
        injection h with h
        obtain ⟨rfl, rfl⟩ := Prod.mk.inj h
        obtain ⟨BV, BF, C, h3, h4, h5⟩ := rdS_sound hf ht hg h1
        obtain ⟨BV', BF', C', h6, h7, h8⟩ := rdsS_sound ht hg h4 h2
        refine ⟨BV ++ BV', BF', C' ++ C, .cons h3 h6, h7, ?_⟩
        refine List.Perm.trans ?_ h5
        simp only [← List.append_assoc]
        refine List.Perm.append_right _ ?_
        simp only [List.append_assoc]
        refine List.Perm.append_left _ ?_
        simpa [List.append_assoc] using h8
      · simp at h
    · simp at h
end reads

/-! ### Nil slices fixed -/

theorem AC.fixC {e : Env} {f : Option Nat} {a : AV} {v : Value} {B : List Nat} (h : AC e a v B) : AC e (Go.AI.fixC f a) v B := by
  unfold Go.AI.fixC
  split
  · rename_i n
    rcases h with ⟨h1, _, h3⟩ | ⟨_, _, _, h0, _⟩
    · exact .inl ⟨h1, rfl, h3⟩
    · omega
  · rename_i n
    obtain ⟨h1, h2⟩ := h
    refine ⟨?_, h2⟩
    rcases h1.sl_inv with ⟨rfl, _⟩ | ⟨a, cap, rfl, hc, hs, _⟩
    · exact .nil n
    · exact .of_SlR ⟨hs, fun i x hx => by simp at hx⟩ hc
  · exact h

theorem All2O.fixCs {e : Env} : ∀ {fx : List (Option Nat)} {cs : List AV} {vs : List Value} {B : List Nat}, All2O (AC e) cs vs B → All2O (AC e) (Go.AI.fixCs fx cs) vs B
  | [], _, _, _, h => h
  | f :: fx, _, _, _, .nil => .nil
  | f :: fx, _, _, _, .cons ha hr => .cons ha.fixC (All2O.fixCs hr)

theorem fixC_lp {f : Option Nat} {u o : Nat} : fixC f (.lp u o) = .lp u o := by unfold fixC; split <;> first | rfl | contradiction

theorem AR1.fixA {e : Env} {fx : List (Option Nat)} {a : AV} {v : Value} {B : List Nat} (h : AR1 e a v B) : AR1 e (Go.AI.fixA fx a) v B := by
  cases a
  case agg cs => obtain ⟨vs, hv, h⟩ := h; exact ⟨vs, hv, h.fixCs⟩
  all_goals
    cases fx with
    | nil => exact h
    | cons f fx => exact AR1.of_AC (AC.fixC (show AC e _ v B from h))

theorem fixC_other {f : Option Nat} {a : AV} (h1 : ∀ s xs, a ≠ .osl s xs) (h2 : ∀ x, a ≠ .d x) : fixC f a = a := by
  unfold fixC; split
  · exact (h1 _ _ rfl).elim
  · exact (h2 _ rfl).elim
  · rfl

theorem AR.fixA {e : Env} {tm : Array Value} {fx : List (Option Nat)} {a : AV} {v : Value} {B : List Nat} (h : AR e tm a v B) : AR e tm (Go.AI.fixA fx a) v B := by
  cases a
  case d x => exact AR.of_AR1 (AR1.fixA (a := .d x) h)
  case osl s xs => exact AR.of_AR1 (AR1.fixA (a := .osl s xs) h)
  case agg cs => exact AR.of_AR1 (AR1.fixA (a := .agg cs) h)
  all_goals
    cases fx with
    | nil => exact h
    | cons f fx => (show AR e tm (Go.AI.fixC f _) v B); rw [fixC_other (by simp) (by simp)]; exact h

theorem fixA_lp {fx : List (Option Nat)} {u o : Nat} : fixA fx (.lp u o) = .lp u o := by
  cases fx with
  | nil => rfl
  | cons f fx => exact fixC_lp

theorem fixC_lp_inv {f : Option Nat} {a : AV} {u o : Nat} (h : fixC f a = .lp u o) : a = .lp u o := by
  unfold fixC at h; split at h <;> first | exact h | cases h

theorem fixA_lp_inv {fx : List (Option Nat)} {a : AV} {u o : Nat} (h : fixA fx a = .lp u o) : a = .lp u o := by
  cases a
  case agg => cases h
  all_goals
    cases fx with
    | nil => exact h
    | cons f fx => exact fixC_lp_inv h

theorem fixA_junk_inv {fx : List (Option Nat)} {a : AV} (h : fixA fx a = .junk) : a = .junk := by
  cases a
  case agg => cases h
  all_goals
    cases fx with
    | nil => exact h
    | cons f fx => (have h' : Go.AI.fixC f _ = _ := h); unfold fixC at h'; split at h' <;> first | exact h' | cases h'

theorem okV_fix {fx : List (Option Nat)} {a : AV} {f : Foot} : okV (fixA fx a) f = okV a f := by
  cases a
  case lp => rw [fixA_lp]
  case agg => rfl
  all_goals
    cases fx with
    | nil => rfl
    | cons g fx => (show okV (fixC g _) f = _); unfold fixC; split <;> rfl

theorem rdF_sound {e : Env} {B : List Nat} {tm : Array Value} {a : Act} {cx : Cx} {fr : Fr} (hf : FR e tm fr B) (ht : a.tmps = tm) (hg : GOK cx.glob e.Φ) {fx : List (Option Nat)} {st : Bool} {o : Operand} {v : AV} {fr' : Fr} (h : rdF cx fx st fr o = some (v, fr')) :
    ∃ BV BF C, AR e tm v (a.eval o) BV ∧ FR e tm fr' BF ∧ (BV ++ BF ++ C).Perm B := by
  unfold rdF at h
  split at h
  · rename_i u fr1 h1
    obtain ⟨rfl, rfl⟩ := Prod.mk.inj (Option.some.inj h)
    obtain ⟨BV, BF, C, h2, h3, h4⟩ := rdS_sound hf ht hg h1
    exact ⟨BV, BF, C, h2.fixA, h3, h4⟩
  · simp at h

theorem All2.fixArgs {e : Env} {tm : Array Value} {P : Program} : ∀ {ts : List TypeId} {as : List AV} {vs : List Value}, All2 (fun a x => AR e tm a x []) as vs → All2 (fun a x => AR e tm a x []) (Go.AI.fixArgs P ts as) vs
  | [], _, _, h => h
  | t :: ts, _, _, .nil => .nil
  | t :: ts, _, _, .cons ha hr => .cons ha.fixA (All2.fixArgs hr)

theorem rdsF_sound {e : Env} {B : List Nat} {tm : Array Value} {a : Act} {cx : Cx} {fr : Fr} (hf : FR e tm fr B) (ht : a.tmps = tm) (hg : GOK cx.glob e.Φ) {ts : List TypeId} {os : List Operand} {vs : List AV} (h : rdsF cx fr ts os = some vs) :
    All2 (fun a x => AR e tm a x []) vs (os.map a.eval) := by
  unfold rdsF at h
  split at h
  · rename_i us h1
    obtain rfl := Option.some.inj h
    exact (rds_sound hf ht hg h1).fixArgs
  · simp at h

end Go.AI
