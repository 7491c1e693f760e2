/- A piece of code of its own: l = append(l, make([]int, n)...); l[len(l)-n] = v. -/
import Derived.Test.YtkkmdjkahdglhaaDoorAxTree
import Derived.Deep.Slices
import Derived.ChangeSame
import Derived.Carry
namespace Go.AI
set_option linter.unusedVariables false
set_option linter.unusedSimpArgs false

section
variable {P : Program} {ops : Array Oper} {Q : Exit → Act → World → Prop} {a : Act} {w w' : World}

theorem wpOp_val {i : Nat} {d : Nat} {op : Op} {x : Value} {K : Act → World → Prop} (ho : ∃ o, ops[i]? = some o ∧ o.dst = some d ∧ o.op = op ∧ o.guard = none)
    (hr : ∀ o : Oper, o.op = op → (execOp a.eval o).run P w = .ok (.value x) w') (hK : K (a.put (some d) x) w') : wpOp P ops Q i K a w := by
  obtain ⟨o, h1, h2, h3, h4⟩ := ho
  unfold wpOp
  simp only [h1]
  have : Region.wanted o (yielded ops a.tmps) = true := by simp [Region.wanted, h4]
  rw [this]
  simp only [if_true]
  refine .inl ?_
  unfold Oper.wp
  rw [hr o h3, Oper.upon_value, h2]
  exact hK

theorem wpOp_skip {i : Nat} {op : Op} {K : Act → World → Prop} (ho : ∃ o, ops[i]? = some o ∧ o.dst = none ∧ o.op = op ∧ o.guard = none)
    (hr : ∀ o : Oper, o.op = op → (execOp a.eval o).run P w = .ok .skip w') (hK : K a w') : wpOp P ops Q i K a w := by
  obtain ⟨o, h1, h2, h3, h4⟩ := ho
  unfold wpOp
  simp only [h1]
  have : Region.wanted o (yielded ops a.tmps) = true := by simp [Region.wanted, h4]
  rw [this]
  simp only [if_true]
  refine .inl ?_
  unfold Oper.wp
  rw [hr o h3, Oper.upon_skip, h2]
  exact hK

theorem eval_tmp {t : Nat} {v : Value} (h : a.tmps[t]? = some v) : a.eval (.tmp t) = v := by
  simp [Act.eval, h]

theorem put_tmps (d : Nat) (x : Value) : (a.put (some d) x).tmps = a.tmps.setIfInBounds d x := rfl

theorem get_set_ne {T : Array Value} {d t : Nat} {x : Value} (h : d ≠ t) : (T.setIfInBounds d x)[t]? = T[t]? := Array.getElem?_setIfInBounds_ne h
theorem get_set_eq {T : Array Value} {d : Nat} {x : Value} (h : d < T.size) : (T.setIfInBounds d x)[d]? = some x := by simp [h]

end

/-- The second region's operations. -/
def pokeOps (T S I V : TypeId) (c n x : Nat) (d : Nat → Nat) : List (Option Nat × Op) :=
  [(some (d 0), .fieldAddr T (.tmp c) 0), (some (d 1), .load S (.tmp (d 0))), (some (d 2), .fieldAddr T (.tmp c) 0), (some (d 3), .load S (.tmp (d 2))),
   (some (d 4), .call ⟨.builtin .len, #[.tmp (d 3)], #[S]⟩), (some (d 5), .move (.tmp n)), (some (d 6), .binOp .sub I (.tmp (d 4)) (.tmp (d 5)) I),
   (some (d 7), .fieldAddr V (.tmp x) 2), (some (d 8), .load I (.tmp (d 7))), (some (d 9), .indexAddr S (.tmp (d 1)) (.tmp (d 6))), (none, .store I (.tmp (d 9)) (.tmp (d 8)))]

def setAll (T : Array Value) : List (Nat × Value) → Array Value
  | [] => T
  | (d, x) :: r => setAll (T.setIfInBounds d x) r

/-- The types are what they should be. -/
structure PokeTy (P : Program) (T S I V : TypeId) : Prop where
  fT : fieldOf P T 0 = some (0, S)
  fV : fieldOf P V 2 = some (2, I)
  oS : tyOK P S = true
  oI : tyOK P I = true
  aS : isAggB P S = false
  aI : isAggB P I = false
  cS : P.cellsOf S = 1
  cI : P.cellsOf I = 1
  uS : P.underlying S = some (.slice I)
  uI : P.underlying I = some (.int .i64)

theorem field_run {P : Program} {w : World} {t ft : TypeId} {i off r : Nat} (hf : fieldOf P t i = some (off, ft)) (hok : tyOK P ft = true) (hc : P.cellsOf ft = 1) :
    (Instr.fieldAt t (.pointer (some ⟨r, 0, none⟩)) i).run P w = .ok (.pointer (some ⟨r, off, none⟩)) w := by
  obtain ⟨fs, f, hu, hfi, rfl, rfl⟩ := fieldOf_spec hf
  have hne : ¬ (P.cellsOf f.type = 0) := by omega
  simp [Instr.fieldAt, run_underlying hu, hfi, Instr.sureAddr, fieldPlace, sizeOf_run hok, hne, add_eq]

theorem load_run {P : Program} {w : World} {t : TypeId} {r off : Nat} {vs : Array Value} {el : TypeId} {fz : Nat × Nat} {v : Value} (hok : tyOK P t = true) (hag : isAggB P t = false)
    (h : w.heap[r]? = some (.cells vs el fz)) (hv : vs[off]? = some v) : (Instr.loadAt t (.pointer (some ⟨r, off, none⟩))).run P w = .ok v w := by
  simp only [Instr.loadAt, Instr.sureAddr, Sem.run_bind, Sem.run_pure, Result.andThen_ok]
  exact load_one hok (by simp [World.cell?, h, hv]) hag

def zs (d : Nat → Nat) : Nat → List Value → List (Nat × Value)
  | _, [] => []
  | i, x :: r => (d i, x) :: zs d (i + 1) r

theorem setAll_snoc {d : Nat → Nat} {x : Value} : ∀ (l : List Value) (i : Nat) (T : Array Value), setAll T (zs d i (l ++ [x])) = (setAll T (zs d i l)).setIfInBounds (d (i + l.length)) x
  | [], i, T => rfl
  | y :: l, i, T => by
    simp only [List.cons_append, zs, setAll, List.length_cons]
    rw [setAll_snoc l (i + 1), show i + 1 + l.length = i + (l.length + 1) by omega]

theorem setAll_size {d : Nat → Nat} : ∀ (l : List Value) (i : Nat) (T : Array Value), (setAll T (zs d i l)).size = T.size
  | [], i, T => rfl
  | y :: l, i, T => by simp only [zs, setAll]; rw [setAll_size l]; simp

theorem setAll_other {d : Nat → Nat} {t : Nat} (h : ∀ i < 10, d i ≠ t) : ∀ (l : List Value) (i : Nat) (T : Array Value), i + l.length ≤ 10 → (setAll T (zs d i l))[t]? = T[t]?
  | [], i, T, _ => rfl
  | y :: l, i, T, hl => by
    simp only [zs, setAll]
    simp only [List.length_cons] at hl
    rw [setAll_other h l _ _ (by omega), get_set_ne (h i (by omega))]

theorem setAll_get {d : Nat → Nat} (hinj : ∀ i j, i < 10 → j < 10 → d i = d j → i = j) : ∀ (l : List Value) (i j : Nat) (T : Array Value) (x : Value), i + l.length ≤ 10 → (∀ i < 10, d i < T.size) → l[j]? = some x → (setAll T (zs d i l))[d (i + j)]? = some x
  | [], i, j, T, x, _, _, h => by simp at h
  | y :: l, i, 0, T, x, hl, hs, h => by
    simp only [List.length_cons] at hl
    simp only [List.getElem?_cons_zero, Option.some.injEq] at h
    subst h
    simp only [zs, setAll, Nat.add_zero]
    have : ∀ (m : List Value) (k : Nat) (U : Array Value), i < k → k + m.length ≤ 10 → (setAll U (zs d k m))[d i]? = U[d i]? := by
      intro m
      induction m with
      | nil => intros; rfl
      | cons z m ih =>
        intro k U hk hm
        simp only [List.length_cons] at hm
        simp only [zs, setAll]
        rw [ih (k + 1) _ (by omega) (by omega), get_set_ne (fun he => by have := hinj k i (by omega) (by omega) he; omega)]
    rw [this l (i + 1) _ (by omega) (by omega), get_set_eq (hs i (by omega))]
  | y :: l, i, j + 1, T, x, hl, hs, h => by
    simp only [List.length_cons] at hl
    simp only [zs, setAll]
    rw [show i + (j + 1) = i + 1 + j by omega]
    exact setAll_get hinj l (i + 1) j _ x (by omega) (fun k hk => by simpa using hs k hk) (by simpa using h)

def PSt (d : Nat → Nat) (a : Act) (l : List Value) (a' : Act) : Prop := a'.tmps = setAll a.tmps (zs d 0 l) ∧ a'.defers = a.defers

theorem PSt.put {d : Nat → Nat} {a a' : Act} {l : List Value} {x : Value} {k : Nat} (h : PSt d a l a') (hk : l.length = k) : PSt d a (l ++ [x]) (a'.put (some (d k)) x) := by
  refine ⟨?_, h.2⟩
  rw [put_tmps, h.1, setAll_snoc, Nat.zero_add, hk]

theorem poke_run {P : Program} {ops : Array Oper} {Q : Exit → Act → World → Prop} {a : Act} {w : World} {T S I V : TypeId} (ht : PokeTy P T S I V) {c n x : Nat} {d : Nat → Nat}
    (hops : ∀ (i : Nat) p, (pokeOps T S I V c n x d)[i]? = some p → ∃ o, ops[i]? = some o ∧ o.dst = p.1 ∧ o.op = p.2 ∧ o.guard = none)
    (hinj : ∀ i j, i < 10 → j < 10 → d i = d j → i = j) (hdc : ∀ i < 10, d i ≠ c) (hdn : ∀ i < 10, d i ≠ n) (hdx : ∀ i < 10, d i ≠ x) (hsz : ∀ i < 10, d i < a.tmps.size)
    {r q g L cap : Nat} {N v : Int} {vs vq cs : Array Value} {er eq el : TypeId} {fr fq : Nat × Nat}
    (hc : a.tmps[c]? = some (.pointer (some ⟨r, 0, none⟩))) (hn : a.tmps[n]? = some (.int .i64 N)) (hx : a.tmps[x]? = some (.pointer (some ⟨q, 0, none⟩)))
    (hr : w.heap[r]? = some (.cells vs er fr)) (hr0 : vs[0]? = some (.slice (some ⟨g, 0, none⟩) L cap))
    (hq : w.heap[q]? = some (.cells vq eq fq)) (hq2 : vq[2]? = some (.int .i64 v))
    (hg : w.heap[g]? = some (.cells cs el (0, 0))) (hL : L ≤ cs.size) (hN : 0 < N) (hNL : N.toNat ≤ L) (hbig : L ≤ 4611686018427387904)
    (hQ : ∀ a' (l : List Value), l.length = 10 → PSt d a l a' → Q .normal a' (w.setRow g (cs.setIfInBounds (L - N.toNat) (.int .i64 v)))) :
    wpOps P ops Q (List.range 11) a w := by
  have hwrLN : IntKind.i64.wrap ((L : Int) - N) = ((L - N.toNat : Nat) : Int) := by simp [IntKind.wrap, IntKind.bits, IntKind.signed]; omega
  have hlt : L - N.toNat < L := by omega
  have gt : ∀ {l : List Value} {a' : Act} {t : Nat} {y : Value}, PSt d a l a' → l.length ≤ 10 → (∀ i < 10, d i ≠ t) → a.tmps[t]? = some y → a'.eval (.tmp t) = y := fun h hl hd hy =>
    eval_tmp (by rw [h.1, setAll_other hd _ _ _ (by omega)]; exact hy)
  have gd : ∀ {l : List Value} {a' : Act} {y : Value} (j : Nat), PSt d a l a' → l.length ≤ 10 → l[j]? = some y → a'.eval (.tmp (d j)) = y := fun j h hl hy =>
    eval_tmp (by rw [h.1]; have := setAll_get hinj _ 0 j a.tmps _ (by omega) hsz hy; simpa using this)
  rw [show List.range 11 = [0,1,2,3,4,5,6,7,8,9,10] from rfl]
  have p0 : PSt d a [] a := ⟨rfl, rfl⟩
  rw [wpOps_cons]
  refine wpOp_val (hops 0 _ rfl) (x := .pointer (some ⟨r, 0, none⟩)) (w' := w) (fun o ho => ?_) ?_
  · have := field_run (w := w) (r := r) ht.fT ht.oS ht.cS
    simp [execOp, ho, gt p0 (by simp) hdc hc, this]
  have p1 := p0.put (k := 0) (x := .pointer (some ⟨r, 0, none⟩)) (by simp)
  simp only [List.nil_append, List.cons_append] at p1
  generalize (a.put (some (d 0)) (.pointer (some ⟨r, 0, none⟩))) = a1 at p1 ⊢
  rw [wpOps_cons]
  refine wpOp_val (hops 1 _ rfl) (x := .slice (some ⟨g, 0, none⟩) L cap) (w' := w) (fun o ho => ?_) ?_
  · have := load_run (P := P) ht.oS ht.aS hr hr0
    simp [execOp, ho, gd 0 p1 (by simp) rfl, this]
  have p2 := p1.put (k := 1) (x := .slice (some ⟨g, 0, none⟩) L cap) (by simp)
  simp only [List.nil_append, List.cons_append] at p2
  generalize (a1.put (some (d 1)) (.slice (some ⟨g, 0, none⟩) L cap)) = a2 at p2 ⊢
  rw [wpOps_cons]
  refine wpOp_val (hops 2 _ rfl) (x := .pointer (some ⟨r, 0, none⟩)) (w' := w) (fun o ho => ?_) ?_
  · have := field_run (w := w) (r := r) ht.fT ht.oS ht.cS
    simp [execOp, ho, gt p2 (by simp) hdc hc, this]
  have p3 := p2.put (k := 2) (x := .pointer (some ⟨r, 0, none⟩)) (by simp)
  simp only [List.nil_append, List.cons_append] at p3
  generalize (a2.put (some (d 2)) (.pointer (some ⟨r, 0, none⟩))) = a3 at p3 ⊢
  rw [wpOps_cons]
  refine wpOp_val (hops 3 _ rfl) (x := .slice (some ⟨g, 0, none⟩) L cap) (w' := w) (fun o ho => ?_) ?_
  · have := load_run (P := P) ht.oS ht.aS hr hr0
    simp [execOp, ho, gd 2 p3 (by simp) rfl, this]
  have p4 := p3.put (k := 3) (x := .slice (some ⟨g, 0, none⟩) L cap) (by simp)
  simp only [List.nil_append, List.cons_append] at p4
  generalize (a3.put (some (d 3)) (.slice (some ⟨g, 0, none⟩) L cap)) = a4 at p4 ⊢
  rw [wpOps_cons]
  refine wpOp_val (hops 4 _ rfl) (x := .int .i64 L) (w' := w) (fun o ho => ?_) ?_
  · simp [execOp, ho, resolve, invoke, builtin, gd 3 p4 (by simp) rfl, Builtin.len_, run_underlying ht.uS, goInt]
  have p5 := p4.put (k := 4) (x := .int .i64 L) (by simp)
  simp only [List.nil_append, List.cons_append] at p5
  generalize (a4.put (some (d 4)) (.int .i64 L)) = a5 at p5 ⊢
  rw [wpOps_cons]
  refine wpOp_val (hops 5 _ rfl) (x := .int .i64 N) (w' := w) (fun o ho => ?_) ?_
  · simp [execOp, ho, gt p5 (by simp) hdn hn]
  have p6 := p5.put (k := 5) (x := .int .i64 N) (by simp)
  simp only [List.nil_append, List.cons_append] at p6
  generalize (a5.put (some (d 5)) (.int .i64 N)) = a6 at p6 ⊢
  rw [wpOps_cons]
  refine wpOp_val (hops 6 _ rfl) (x := .int .i64 ((L - N.toNat : Nat) : Int)) (w' := w) (fun o ho => ?_) ?_
  · obtain ⟨y, h1, h2⟩ := bin_sound (P := P) (w := w) (Φ := fun _ _ => none) (op := .sub) (t := I) (CR.int .i64 (L : Int)) (CR.int .i64 N) (z := .int .i64 ((L - N.toNat : Nat) : Int)) (by simp [binDV, intBin, hwrLN]) (.tmp (d 4)) (.tmp (d 5))
    cases h2
    simp only [execOp, ho, gd 4 p6 (by simp) rfl, gd 5 p6 (by simp) rfl]
    exact run_v h1
  have p7 := p6.put (k := 6) (x := .int .i64 ((L - N.toNat : Nat) : Int)) (by simp)
  simp only [List.nil_append, List.cons_append] at p7
  generalize (a6.put (some (d 6)) (.int .i64 ((L - N.toNat : Nat) : Int))) = a7 at p7 ⊢
  rw [wpOps_cons]
  refine wpOp_val (hops 7 _ rfl) (x := .pointer (some ⟨q, 2, none⟩)) (w' := w) (fun o ho => ?_) ?_
  · have := field_run (w := w) (r := q) ht.fV ht.oI ht.cI
    simp [execOp, ho, gt p7 (by simp) hdx hx, this]
  have p8 := p7.put (k := 7) (x := .pointer (some ⟨q, 2, none⟩)) (by simp)
  simp only [List.nil_append, List.cons_append] at p8
  generalize (a7.put (some (d 7)) (.pointer (some ⟨q, 2, none⟩))) = a8 at p8 ⊢
  rw [wpOps_cons]
  refine wpOp_val (hops 8 _ rfl) (x := .int .i64 v) (w' := w) (fun o ho => ?_) ?_
  · have := load_run (P := P) ht.oI ht.aI hq hq2
    simp [execOp, ho, gd 7 p8 (by simp) rfl, this]
  have p9 := p8.put (k := 8) (x := .int .i64 v) (by simp)
  simp only [List.nil_append, List.cons_append] at p9
  generalize (a8.put (some (d 8)) (.int .i64 v)) = a9 at p9 ⊢
  rw [wpOps_cons]
  refine wpOp_val (hops 9 _ rfl) (x := .pointer (some ⟨g, L - N.toNat, none⟩)) (w' := w) (fun o ho => ?_) ?_
  · have h1 : (Instr.indexAt S (.slice (some ⟨g, 0, none⟩) L cap) (.int .i64 ((L - N.toNat : Nat) : Int))).run P w = .ok (.pointer (some ⟨g, L - N.toNat, none⟩)) w := by
      have h2 : ((L - N.toNat : Nat) : Int) < (L : Int) := by omega
      simp [Instr.indexAt, asIntOf, run_underlying ht.uS, h2, hlt, sizeOf_run ht.oI, ht.cI, add_eq (a := (⟨g, 0, none⟩ : Addr)) rfl]
    simp [execOp, ho, gd 1 p9 (by simp) rfl, gd 6 p9 (by simp) rfl, h1]
  have p10 := p9.put (k := 9) (x := .pointer (some ⟨g, L - N.toNat, none⟩)) (by simp)
  simp only [List.nil_append, List.cons_append] at p10
  generalize (a9.put (some (d 9)) (.pointer (some ⟨g, L - N.toNat, none⟩))) = a10 at p10 ⊢
  rw [wpOps_cons]
  refine wpOp_skip (hops 10 _ rfl) (w' := w.setRow g (cs.setIfInBounds (L - N.toNat) (.int .i64 v))) (fun o ho => ?_) ?_
  · have hst := run_storeCells_at P g (L - N.toNat) el [.int .i64 v] 0 cs w hg (by simp; omega) (by simp [Value.oneCell'])
    have h1 : (Instr.storeAt I (.pointer (some ⟨g, L - N.toNat, none⟩)) (.int .i64 v)).run P w = .ok () (w.setRow g (cs.setIfInBounds (L - N.toNat) (.int .i64 v))) := by
      simp only [Instr.storeAt, Instr.sureAddr, Sem.run_bind, Sem.run_pure, Result.andThen_ok, storeVar, sizeOf_run ht.oI]
      have : (Value.int .i64 v).cells = #[.int .i64 v] := rfl
      rw [if_neg (by rw [ht.cI, this]; simp), this]
      have hset : (cs.toList.take (L - N.toNat + 0) ++ [Value.int .i64 v] ++ cs.toList.drop (L - N.toNat + 0 + [Value.int .i64 v].length)).toArray = cs.setIfInBounds (L - N.toNat) (.int .i64 v) := by
        apply Array.ext'
        have hlt2 : L - N.toNat < cs.toList.length := by simp; omega
        simp [List.set_eq_take_append_cons_drop, hlt2, show L - N.toNat < cs.size by omega]
      rw [hset] at hst
      exact hst
    simp [execOp, ho, gd 9 p10 (by simp) rfl, gd 8 p10 (by simp) rfl, h1]
  exact hQ _ _ rfl p10

def delAll : List Nat → Fr → Fr
  | [], fr => fr
  | d :: r, fr => delAll r (del d fr)

theorem FR.delAll {e : Env} {d : Nat → Nat} : ∀ (l : List Value) (i : Nat) {tm : Array Value} {fr : Fr} {B : List Nat}, FR e tm fr B →
    ∃ B', FR e (setAll tm (zs d i l)) (Go.AI.delAll ((zs d i l).map (·.1)) fr) B' ∧ B'.Sublist B
  | [], i, tm, fr, B, h => ⟨B, h, List.Sublist.refl _⟩
  | x :: l, i, tm, fr, B, h => by
    obtain ⟨B1, h1, h2⟩ := h.del (d := d i) (x := x)
    obtain ⟨B2, h3, h4⟩ := FR.delAll l (i + 1) h1
    exact ⟨B2, h3, h4.trans h2⟩

theorem zs_fst {d : Nat → Nat} : ∀ (l : List Value) (i : Nat), (zs d i l).map (·.1) = (List.range' i l.length).map d
  | [], i => rfl
  | x :: l, i => by simp only [zs, List.map_cons, List.length_cons, List.range'_succ, zs_fst l]

/-- What it does, in sum. -/
def pokeF (c n x : Nat) (ds lv : List Nat) : ST → Tr (Ex × ST) := fun s =>
  match get s.fr c, get s.fr n, get s.fr x with
  | some (.box (.zsl .i64 xs k :: rest)), some (.d (.int .i64 N)), some (.box cx) =>
    match cx[2]? with
    | some (AV.d (DV.int IntKind.i64 v)) => .br (decide (0 < N ∧ N.toNat = k ∧ xs.length + k ≤ 4611686018427387904))
        (.leaf (.nrm, ⟨restrict (delAll ds (upd c (.box (.osl 1 (xs ++ .int .i64 v :: List.replicate (k - 1) (.int .i64 0)) :: rest)) s.fr)) lv, s.H⟩)) .fail
    | _ => .fail
  | _, _, _ => .fail

/-- The zeros, one of them written, may be read from now on. -/
theorem publish {E : Ent} {w : World} {Φ : Mem} {μ BF BH : List Nat} {tm : Array Value} {fr : Fr} {H : Hp} {c : Nat} {xs : List DV} {k : Nat} {v : Int} {rest : List AV} (hk : 0 < k)
    (hF : FR ⟨Φ, w.heap, μ⟩ tm fr BF) (hH : HR ⟨Φ, w.heap, μ⟩ H μ BH) (hN : (BF ++ BH).Nodup) (hI : Inv E w Φ μ (BF ++ BH)) (hg : get fr c = some (.box (.zsl .i64 xs k :: rest))) :
    ∃ (r g cap : Nat) (vs cs : Array Value) (er el : TypeId), tm[c]? = some (.pointer (some ⟨r, 0, none⟩)) ∧ w.heap[r]? = some (.cells vs er (0, 0)) ∧ vs[0]? = some (.slice (some ⟨g, 0, none⟩) (xs.length + k) cap) ∧
      w.heap[g]? = some (.cells cs el (0, 0)) ∧ xs.length + k ≤ cs.size ∧
      SR E ⟨upd c (.box (.osl 1 (xs ++ .int .i64 v :: List.replicate (k - 1) (.int .i64 0)) :: rest)) fr, H⟩ tm (w.setRow g (cs.setIfInBounds xs.length (.int .i64 v))) := by
  obtain ⟨v0, B1, B2, h1, ⟨r, rfl, vs, er, h2, h3, B', h4, rfl⟩, h5, h6⟩ := hF.split hg
  simp only at h2 h3
  cases hvs : vs.toList with
  | nil => rw [hvs] at h4; cases h4
  | cons sv vr =>
    rw [hvs] at h4
    cases h4 with
    | cons hz hrest =>
      rename_i B0 B00
      obtain ⟨g, cap, rfl, hsl, hle, rfl, cs, el, g1, g2, g3, g4⟩ := hz
      simp only at g1 g3 g4 hsl
      refine ⟨r, g, cap, vs, cs, er, el, h1, h2, ?_, g1, by omega, ?_⟩
      · have : vs.toList[0]? = some (.slice (some ⟨g, 0, none⟩) (xs.length + k) cap) := by rw [hvs]; rfl
        simpa using this
      have hall : (r :: ([g] ++ B00) ++ B2 ++ BH).Nodup := ((List.Perm.append_right BH h5).nodup_iff).2 hN
      have hgB : g ∈ BF ++ BH := List.mem_append_left _ (h5.subset (by simp))
      have hnd := hall
      simp only [List.cons_append, List.nil_append, List.nodup_cons, List.mem_cons, List.mem_append, not_or] at hnd
      obtain ⟨⟨hrg, hr1, hr2⟩, hg1, hnd3⟩ := hnd
      let cs' := cs.setIfInBounds xs.length (.int .i64 v)
      let w' := w.setRow g cs'
      let Φ' : Mem := fun r o => if r = g ∧ xs.length ≤ o ∧ o < xs.length + k then cs'[o]? else Φ r o
      have hrow : w'.heap[g]? = some (.cells cs' el (0, 0)) := setRow_heap w g cs cs' el (0, 0) g1
      have hother : ∀ q, q ≠ g → w'.heap[q]? = w.heap[q]? := fun q hq => setRow_other w g q cs' hq
      have hsub : Sub Φ Φ' := fun r o v hv => by
        have : ¬ (r = g ∧ xs.length ≤ o ∧ o < xs.length + k) := fun ⟨hr, hlo, _⟩ => by subst hr; rw [g3 o hlo] at hv; simp at hv
        simp only [Φ', if_neg this]; exact hv
      have hstep : ∀ C, g ∉ C → Step ⟨Φ, w.heap, μ⟩ ⟨Φ', w'.heap, μ⟩ C := fun C hC =>
        ⟨hsub, fun _ _ h => h, fun q hq => by
          have hne : q ≠ g := fun he => hC (he ▸ hq)
          exact ⟨hother q hne, fun o => by simp [Φ', hne]⟩⟩
      have hcs' : ∀ o, xs.length ≤ o → o < xs.length + k → cs'[o]? = some (if o = xs.length then .int .i64 v else .int .i64 0) := by
        intro o ho1 ho2
        by_cases he : o = xs.length
        · subst he; simp only [if_true]; simp only [cs']; rw [get_set_eq (by omega)]
        · rw [if_neg he]; simp only [cs']; rw [get_set_ne (by omega)]; exact g4 o ho1 ho2
      have hlen : (xs ++ DV.int .i64 v :: List.replicate (k - 1) (.int .i64 0)).length = xs.length + k := by simp; omega
      have hosl : AC ⟨Φ', w'.heap, μ⟩ (.osl 1 (xs ++ .int .i64 v :: List.replicate (k - 1) (.int .i64 0))) (.slice (some ⟨g, 0, none⟩) (xs.length + k) cap) [g] := by
        refine .inr ⟨⟨g, 0, none⟩, cap, by rw [hlen], by omega, ⟨rfl, fun i x hx => ?_⟩, by rw [hlen]; exact hle, ⟨rfl, rfl, cs', el, hrow, ?_, fun o ho => ?_⟩⟩
        · by_cases hi : i < xs.length
          · rw [List.getElem?_append_left hi] at hx
            refine ⟨(hsl.2 i x hx).1, fun j y hj => ?_⟩
            obtain ⟨u, hu1, hu2⟩ := (hsl.2 i x hx).2 j y hj
            exact ⟨u, hsub _ _ _ hu1, hu2.mono hsub⟩
          · rw [List.getElem?_append_right (by omega)] at hx
            have hi2 : i < xs.length + k := by
              have := (List.getElem?_eq_some_iff.1 hx).1
              simp at this; omega
            have hxv : x = if i = xs.length then .int .i64 v else .int .i64 0 := by
              by_cases he : i = xs.length
              · subst he; simp at hx; simp [hx]
              · rw [if_neg he]
                obtain ⟨m, hm⟩ : ∃ m, i - xs.length = m + 1 := ⟨i - xs.length - 1, by omega⟩
                rw [hm, List.getElem?_cons_succ, List.getElem?_replicate] at hx
                split at hx
                · exact (Option.some.inj hx).symm
                · simp at hx
            have hcell : x.cells = [x] := by rw [hxv]; split <;> rfl
            refine ⟨by rw [hcell]; rfl, fun j y hj => ?_⟩
            rw [hcell] at hj
            cases j with
            | zero =>
              simp at hj; subst hj
              refine ⟨if i = xs.length then .int .i64 v else .int .i64 0, ?_, ?_⟩
              · have : (g = g ∧ xs.length ≤ 0 + i * 1 + 0 ∧ 0 + i * 1 + 0 < xs.length + k) := ⟨rfl, by omega, by omega⟩
                simp only [Φ', if_pos this]
                rw [hcs' _ (by omega) (by omega)]
                simp
              · rw [hxv]; split <;> exact .int _ _
            | succ j => simp at hj
        · simp only [cs', Array.size_setIfInBounds]; omega
        · rw [hlen] at ho
          have : ¬ (g = g ∧ xs.length ≤ o ∧ o < xs.length + k) := fun h => by omega
          simp only [Φ', if_neg this]
          exact g3 o (by omega)
      have hbox : AR ⟨Φ', w'.heap, μ⟩ tm (.box (.osl 1 (xs ++ .int .i64 v :: List.replicate (k - 1) (.int .i64 0)) :: rest)) (.pointer (some ⟨r, 0, none⟩)) (r :: ([g] ++ B00)) := by
        refine ⟨r, rfl, vs, er, ?_, fun o => ?_, [g] ++ B00, ?_, rfl⟩
        · show w'.heap[r]? = _
          rw [hother r (fun h => hrg h)]; exact h2
        · have : ¬ (r = g ∧ xs.length ≤ o ∧ o < xs.length + k) := fun h => hrg h.1
          simp only [Φ', if_neg this]; exact h3 o
        · rw [hvs]
          refine .cons hosl (hrest.mono fun a v C hC h => h.step (hstep C fun hm => ?_))
          exact hg1.1.1 (hC g hm)
      obtain ⟨B'', h7, h8⟩ := h6 _ _ _ hbox (hstep B2 fun hm => hg1.1.2 hm)
      have hp : (B'' ++ BH).Perm (BF ++ BH) := List.Perm.append_right _ (h8.trans h5)
      refine ⟨Φ', μ, B'', BH, h7, hH.step (hstep BH fun hm => hg1.2 hm), hp.nodup_iff.2 hN, ?_⟩
      refine Inv.perm (B := BF ++ BH) ?_ fun q hq => hp.subset hq
      refine ⟨?_, by show E.w.heap.size ≤ (w.setRow g cs').heap.size; rw [setRow_heap_eq]; exact hI.size, hI.sub.trans hsub, hI.mu, fun q hq hx => ?_, hI.own, hI.io.trans ⟨rfl, rfl, rfl⟩⟩
      · intro q o u hu
        by_cases hqg : q = g
        · subst hqg
          refine ⟨cs', el, (0, 0), hrow, ?_⟩
          by_cases h9 : (q = q ∧ xs.length ≤ o ∧ o < xs.length + k)
          · simp only [Φ', if_pos h9] at hu; exact hu
          · simp only [Φ', if_neg h9] at hu
            obtain ⟨c', el', fz', h10, h11⟩ := hI.wok q o u hu
            rw [g1] at h10; cases Option.some.inj h10
            have hlo : o < xs.length := by
              rcases Nat.lt_or_ge o xs.length with h | h
              · exact h
              · rw [g3 o h] at hu; simp at hu
            simp only [cs']; rw [get_set_ne (by omega)]; exact h11
        · have h9 : ¬ (q = g ∧ xs.length ≤ o ∧ o < xs.length + k) := fun h => hqg h.1
          simp only [Φ', if_neg h9] at hu
          obtain ⟨c', el', fz', h10, h11⟩ := hI.wok q o u hu
          exact ⟨c', el', fz', by rw [hother q hqg]; exact h10, h11⟩
      · have hqg : q ≠ g := fun he => by
          subst he
          rcases hI.own q hgB with h | h
          · exact hx h
          · omega
        have hkq := hI.keep q hq hx
        refine ⟨by rw [hother q hqg]; exact hkq.1, fun o => ?_⟩
        have h9 : ¬ (q = g ∧ xs.length ≤ o ∧ o < xs.length + k) := fun h => hqg h.1
        simp only [Φ', if_neg h9]; exact hkq.2 o

theorem compile_get {P : Program} {an : RA} {ops : List Oper} : ∀ (l : List Oper) (i j : Nat) {co : CO}, (compile P an ops i l)[j]? = some co → ∃ o, l[j]? = some o ∧ o.dst = co.dst ∧ o.op = co.op ∧ cgOf ops o = co.g
  | [], i, j, co, h => by simp [compile] at h
  | o :: r, i, 0, co, h => by simp [compile] at h; subst h; exact ⟨o, rfl, rfl, rfl, rfl⟩
  | o :: r, i, j + 1, co, h => by
    simp only [compile, List.getElem?_cons_succ] at h
    obtain ⟨o', h1, h2⟩ := compile_get r (i + 1) j h
    exact ⟨o', by simpa using h1, h2⟩

theorem compile_length {P : Program} {an : RA} {ops : List Oper} : ∀ (l : List Oper) (i : Nat), (compile P an ops i l).length = l.length
  | [], i => rfl
  | o :: r, i => by simp [compile, compile_length r]

theorem cgOf_yes {ops : List Oper} {o : Oper} (h : cgOf ops o = .yes) : o.guard = none := by
  unfold cgOf at h
  split at h
  · assumption
  · split at h
    · split at h <;> simp at h
    · simp at h

theorem poke_sum {P : Program} {gl : Nat → Option DV} {an : Ann} {T S I V : TypeId} (ht : PokeTy P T S I V) {c n x d0 : Nat} {ds lv : List Nat} {cs : List CO} (hc : c < d0) (hn : n < d0) (hx : x < d0) (hcx : c ≠ x)
    (hds : ds = (List.range' 0 10).map fun i => d0 + i) (hlv : lv.Nodup)
    (hcs : cs.map (fun c => (c.g, c.dst, c.op)) = (pokeOps T S I V c n x fun i => d0 + i).map fun p => (CG.yes, p.1, p.2)) : SumOK P gl an (pokeF c n x ds lv) (.region cs lv) := by
  intro code
  induction code with
  | scope b ih => intro h s r hr; exact (ih h s r hr).scope
  | region id ops draw =>
    intro h s r hr
    cases draw with
    | true => simp [comp, erase] at h
    | false =>
    simp only [comp, erase, CC.region.injEq] at h
    obtain ⟨hcomp, hlive⟩ := h
    intro E a w Q hg hok hs hQ
    obtain ⟨Φ, μ, BF, BH, hF, hH, hN, hI⟩ := hs
    have hlen : ops.size = 11 := by
      have h1 : cs.length = 11 := by have := congrArg List.length hcs; simpa [pokeOps] using this
      rw [← hcomp, compile_length] at h1
      simpa using h1
    have hops : ∀ (i : Nat) p, (pokeOps T S I V c n x fun i => d0 + i)[i]? = some p → ∃ o, ops[i]? = some o ∧ o.dst = p.1 ∧ o.op = p.2 ∧ o.guard = none := by
      intro i p hp
      have h1 : (cs.map (fun c => (c.g, c.dst, c.op)))[i]? = some (CG.yes, p.1, p.2) := by rw [hcs, List.getElem?_map, hp]; rfl
      rw [List.getElem?_map] at h1
      cases hci : cs[i]? with
      | none => rw [hci] at h1; simp at h1
      | some co =>
        rw [hci] at h1
        simp only [Option.map_some, Option.some.injEq, Prod.mk.injEq] at h1
        obtain ⟨h2, h3, h4⟩ := h1
        rw [← hcomp] at hci
        obtain ⟨o, h5, h6, h7, h8⟩ := compile_get _ _ _ hci
        exact ⟨o, by simpa using h5, by rw [h6, h3], by rw [h7, h4], cgOf_yes (by rw [h8, h2])⟩
    have hsz : ∀ i < 10, d0 + i < a.tmps.size := by
      intro i hi
      have : ∃ p, (pokeOps T S I V c n x fun i => d0 + i)[i]? = some p ∧ p.1 = some (d0 + i) := by
        match i, hi with
        | 0, _ | 1, _ | 2, _ | 3, _ | 4, _ | 5, _ | 6, _ | 7, _ | 8, _ | 9, _ => exact ⟨_, rfl, rfl⟩
      obtain ⟨p, h1, h2⟩ := this
      obtain ⟨o, h3, h4, _⟩ := hops i p h1
      have hm : o ∈ ops.toList := by
        have : ops.toList[i]? = some o := by simpa using h3
        exact List.mem_of_getElem? this
      have := (List.all_eq_true.1 hok) o hm
      rw [h4, h2] at this
      simpa using this
    unfold pokeF at hr
    split at hr
    · rename_i xs k rest N cx gc gn gx
      split at hr
      · rename_i v hv
        rcases Tr.br_some hr with ⟨hb, hr⟩ | ⟨_, hr⟩
        · simp only [decide_eq_true_eq] at hb
          obtain ⟨hN0, hNk, hbig⟩ := hb
          obtain rfl := Tr.leaf_some hr
          obtain ⟨r, g, cap, vs, gs, er, el, h1, h2, h3, h4, h5, hsr⟩ := publish (E := E) (v := v) (by omega) hF hH hN hI gc
          obtain ⟨vn, _, hn1, hn2, _⟩ := hF.get gn
          obtain ⟨hn2, _⟩ := hn2
          cases hn2
          obtain ⟨vx, _, hx1, ⟨q, rfl, vq, eq, hq1, _, Bq, hq2, _⟩, _⟩ := hF.get gx
          have hvq : vq[2]? = some (.int .i64 v) := by
            have : ∀ {as : List AV} {us : List Value} {B : List Nat} {i : Nat}, All2O (AC ⟨Φ, w.heap, μ⟩) as us B → as[i]? = some (.d (.int .i64 v)) → us[i]? = some (.int .i64 v) := by
              intro as us B i h
              induction h generalizing i with
              | nil => intro h; simp at h
              | cons ha _ ih =>
                intro hi
                cases i with
                | zero =>
                  simp only [List.getElem?_cons_zero, Option.some.injEq] at hi
                  subst hi
                  obtain ⟨hc, _⟩ := ha
                  cases hc; rfl
                | succ i => simpa using ih (by simpa using hi)
            have := this hq2 hv
            simpa using this
          refine wp_region ?_
          rw [hlen]
          refine poke_run ht hops (fun i j _ _ h => by omega) (fun i _ => by omega) (fun i _ => by omega) (fun i _ => by omega) hsz h1 hn1 hx1 h2 h3 hq1 hvq h4 h5 hN0 (by omega) hbig fun a' l hl hp => ?_
          obtain ⟨hp1, hp2⟩ := hp
          rw [show xs.length + k - N.toNat = xs.length by omega]
          refine hQ a' _ ?_ (by rw [hp1, setAll_size]) hp2
          obtain ⟨Φ', μ', BF', BH', k1, k2, k3, k4⟩ := hsr
          simp only at k1 k2
          obtain ⟨B2, k5, k6⟩ := FR.delAll (d := fun i => d0 + i) l 0 k1
          rw [zs_fst, hl, ← hds, ← hp1] at k5
          have : SR E ⟨delAll ds (upd c (.box (.osl 1 (xs ++ .int .i64 v :: List.replicate (k - 1) (.int .i64 0)) :: rest)) s.fr), s.H⟩ a'.tmps (w.setRow g (gs.setIfInBounds xs.length (.int .i64 v))) :=
            ⟨Φ', μ', B2, BH', k5, k2, k3.sublist (List.Sublist.append k6 (List.Sublist.refl _)), k4.perm fun q hq => (List.Sublist.append k6 (List.Sublist.refl _)).subset hq⟩
          exact this.restrict hlv
        · exact Tr.fail_some hr
      · exact Tr.fail_some hr
    · exact Tr.fail_some hr
  | _ => intro h; simp [comp, erase] at h

end Go.AI

/- A law's arguments, read: slices of plain structs. -/
namespace Go.AI
open Go Go.Deep
set_option linter.unusedVariables false
set_option linter.unusedSimpArgs false

/-- All that lies in memory. -/
def full (w : World) : Mem := fun r o => match w.heap[r]? with
  | some (.cells c _ _) => c[o]?
  | _ => none

theorem wok_full (w : World) : WOK (full w) w.heap := fun r o v h => by
  unfold full at h
  split at h
  · rename_i c el fz hc; exact ⟨c, el, fz, hc, h⟩
  · simp at h

theorem full_cell {w : World} {a : Addr} {v : Value} (h : w.cell? a = some v) : full w a.block a.off = some v := by
  unfold World.cell? at h
  unfold full
  split at h
  · rename_i c el fz hc
    rw [hc]
    split at h
    · simp at h
    · exact h
  · simp at h

section
variable {H : Type} {enc : TypeId × Value → H} {P : Program} {w : World} {base : Nat} {spare : Nat → Bool} {held : Bool}

/-- A slice argument whose elements read as they should. -/
theorem open_row {α : Type} [Inhabited α] {t e : TypeId} {sz : Nat} {en : α → DV} (hsz : ∀ y, (en y).cells.length = sz) (ht : P.underlying t = some (.slice e)) (hc : P.cellsOf e = sz) {v : Value} {d : DataW H} {ps : List MemPlace} {rch : Go.Reach} {b0 : Nat}
    (hok : Value.okWide P w rch b0 t v)
    (he : ∀ (n : Nat) (cs : List Value) (x : DataW H × List MemPlace), DataW.trod enc P w base spare held n e cs = some x → ∃ y : α, All2 (CR (full w)) (en y).cells cs)
    (h : DataW.Trod enc P w base spare held t v d ps) : ∃ l : List α, CR (full w) (.sl sz (l.map en)) v := by
  have hv : Cell.ok P w rch b0 t v := by
    have := hok
    unfold Value.okWide at this
    rw [ht] at this
    simp only at this
    unfold Cell.okWide at this
    rw [ht] at this
    exact this
  obtain ⟨fuel, h⟩ := h
  rcases open_slice ht h with ⟨h0, _⟩ | ⟨a, len, cap, m, n, D, Pl, h0, hb, hl, hm, hmm, _, hx⟩
  · refine ⟨[], ?_⟩
    cases v <;> first | (simp [Value.cells] at h0; done) | skip
    case agg cs => unfold Cell.ok at hv; rw [ht] at hv; exact hv.elim
    case slice o len cap =>
      simp [Value.cells] at h0
      obtain ⟨rfl, rfl, rfl⟩ := h0
      exact .nil sz
  · cases v <;> first | (simp [Value.cells] at h0; done) | skip
    case agg cs => unfold Cell.ok at hv; rw [ht] at hv; exact hv.elim
    case slice o len' cap' =>
      simp [Value.cells] at h0
      obtain ⟨rfl, rfl, rfl⟩ := h0
      unfold Cell.ok at hv
      rw [ht] at hv
      have hsp : a.spot = none := hv.2.2.2.1
      have hlm : len' ≤ m := by rw [hmm]; split <;> omega
      have hy : ∀ i, i < len' → ∃ y : α, ∀ (j : Nat) (c : DV), (en y).cells[j]? = some c → ∃ u, full w a.block (a.off + i * sz + j) = some u ∧ CR (full w) c u := by
        intro i hi
        obtain ⟨cs', h1, h2⟩ := hx i (by omega)
        obtain ⟨y, hy⟩ := he _ _ _ h2
        refine ⟨y, fun j c hj => ?_⟩
        obtain ⟨u, hu, hcu⟩ := hy.get j hj
        refine ⟨u, ?_, hcu⟩
        obtain ⟨_, hlen, hcell⟩ := World.cells?_some h1
        rw [hc] at hlen hcell
        have hj2 : j < sz := by
          have := (List.getElem?_eq_some_iff.1 hu).1
          omega
        have h3 := hcell j hj2
        rw [hu, add_add, add_eq hsp] at h3
        have := full_cell h3
        simpa [Nat.add_assoc] using this
      obtain ⟨f, hf⟩ := choose_lt hy
      refine ⟨(List.range len').map f, ?_⟩
      have hlen : ((List.range len').map f |>.map en).length = len' := by simp
      have := CR.of_SlR (Φ := full w) (sz := sz) (xs := ((List.range len').map f).map en) (a := a) (cap := cap') ⟨hsp, fun i x hx => ?_⟩ (by rw [hlen]; exact hl)
      · rw [hlen] at this; exact this
      · have hi : i < len' := by have := (List.getElem?_eq_some_iff.1 hx).1; simpa using this
        simp [hi] at hx
        subst hx
        exact ⟨hsz _, hf i hi⟩
end
end Go.AI

/- Loops over a list, and small things for sums. -/
namespace Go.AI
set_option linter.unusedVariables false

theorem FnOK.imp {P : Program} {gl : Nat → Option DV} {f : FuncId} {g g' : FT} (h : FnOK P gl f g) (hi : ∀ xs H o, (g' xs H).run = some o → (g xs H).run = some o) : FnOK P gl f g' :=
  ⟨h.1, fun xs H v H' hr => h.2 xs H v H' (hi xs H _ hr)⟩

theorem dropCons {α : Type} {l : List α} {n : Nat} {v : α} (h : l[n]? = some v) : l.drop n = v :: l.drop (n + 1) := by
  have hl := (List.getElem?_eq_some_iff.1 h).1
  rw [List.drop_eq_getElem_cons hl]; congr 1; exact (List.getElem?_eq_some_iff.1 h).2

/-- A loop that goes along a list: 'head' is the state at its head, 'res' what it gives for the rest of the list. -/
theorem SumOK.range {X : TX} {an : Ann} {gl : Nat → Option DV} (hX : XOK X an gl) {b : CC} (hs : Sums X.P gl an b) (hk : keepsOK b = true) {lv rt : List Nat} {xs : List (Nat × List Nat)} (hn : keepsB lv rt xs = true) {f : ST → Tr (Ex × ST)}
    {σ α : Type} {un : DV → Option α} {enc : α → DV} (hu : ∀ y, un (enc y) = some y)
    (head : σ → List α → Nat → ST) (G : σ → List α → Nat → Prop) (res : σ → List α → Nat → List α → Ex × ST)
    (h0 : ∀ s r, (f s).run = some r → ∃ st l n, s = head st l n ∧ n ≤ l.length ∧ G st l n ∧ r = res st l n (l.drop n))
    (h1 : ∀ st l n, G st l n → n = l.length → l[n]? = none → ∃ ex s', (bodyT X lv rt xs b (head st l n)).run = some (ex, s') ∧ ex ≠ .nrm ∧ (ex, s') = res st l n [])
    (h2 : ∀ st l n v, G st l n → n < l.length → l[n]? = some v → ((l.map enc)[n]?).bind un = some v →
      (∃ ex s', (bodyT X lv rt xs b (head st l n)).run = some (ex, s') ∧ ex ≠ .nrm ∧ (ex, s') = res st l n (v :: l.drop (n + 1))) ∨
      (∃ st', (bodyT X lv rt xs b (head st l n)).run = some (.nrm, head st' l (n + 1)) ∧ G st' l (n + 1) ∧ res st l n (v :: l.drop (n + 1)) = res st' l (n + 1) (l.drop (n + 1)))) :
    SumOK X.P gl an f (.loop b) := by
  refine SumOK.of_inv hX hs hk hn (fun k st r => ∃ (z : σ) (l : List α) (n : Nat), n ≤ l.length ∧ G z l n ∧ st = head z l n ∧ r = res z l n (l.drop n) ∧ k = l.length - n) ?_ ?_
  · intro s r h
    obtain ⟨st, l, n, rfl, h3, h4, rfl⟩ := h0 s r h
    exact ⟨_, st, l, n, h3, h4, rfl, rfl, rfl⟩
  · rintro k s r ⟨st, l, n, h3, h4, rfl, rfl, rfl⟩
    cases hb : l[n]? with
    | none =>
      have hl : l.length ≤ n := by simpa using hb
      obtain ⟨ex, s', h5, h6, h7⟩ := h1 st l n h4 (by omega) hb
      exact ⟨ex, s', h5, .inl ⟨h6, by rw [h7, List.drop_eq_nil_of_le hl]⟩⟩
    | some v =>
      have hl := (List.getElem?_eq_some_iff.1 hb).1
      rcases h2 st l n v h4 hl hb (by rw [List.getElem?_map, hb]; exact hu v) with ⟨ex, s', h5, h6, h7⟩ | ⟨st', h5, h6, h7⟩
      · exact ⟨ex, s', h5, .inl ⟨h6, by rw [h7, dropCons hb]⟩⟩
      · exact ⟨.nrm, _, h5, .inr ⟨rfl, l.length - (n + 1), by omega, st', l, n + 1, hl, h6, rfl, by rw [dropCons hb, h7], rfl⟩⟩

end Go.AI
