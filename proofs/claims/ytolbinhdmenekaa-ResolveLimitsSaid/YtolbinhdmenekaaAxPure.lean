/- Operations that only compute. -/
import Derived.Test.YtolbinhdmenekaaAxOps
import Derived.WalkKit
namespace Go.AI
set_option linter.unusedVariables false
set_option linter.unusedSimpArgs false

theorem toList_of {b : ByteArray} {s : List UInt8} (h : b.data.toList = s) : b = ⟨s.toArray⟩ := by
  subst h; cases b; simp

theorem beq_toList (a b : ByteArray) : (a.toList == b.toList) = decide (a.data.toList = b.data.toList) := by
  rw [ByteArray.toList_eq, ByteArray.toList_eq, Bool.eq_iff_iff]; simp

theorem size_data (b : ByteArray) : b.size = b.data.toList.length := by cases b; simp [ByteArray.size]

section
variable {P : Program} {Φ : Mem} {w : World}

theorem str_sound {op : BinOp} {a b : ByteArray} {z : DV} (h : strBin op a.data.toList b.data.toList = some z) : ∃ v, (Op.stringOp op a b).run P w = .ok v w ∧ CR Φ z v := by
  cases op
  case add =>
    simp only [strBin] at h
    split at h
    · rename_i hle
      obtain rfl := Option.some.inj h
      refine ⟨.string (a ++ b), ?_, .str _ _ (by simp)⟩
      rw [← size_data, ← size_data] at hle
      have : ¬ (((a.size + b.size : Nat) : Int) > IntKind.i64.max) := by
        have : IntKind.i64.max = 9223372036854775807 := by decide
        omega
      simp only [Op.stringOp, if_neg this, Sem.run_pure]
    · simp at h
  case eql => obtain rfl := Option.some.inj h; exact ⟨.bool _, by simp only [Op.stringOp, Sem.run_pure, beq_toList], .bool _⟩
  case neq => obtain rfl := Option.some.inj h; exact ⟨.bool _, by simp only [Op.stringOp, Sem.run_pure, beq_toList], .bool _⟩
  case lss => obtain rfl := Option.some.inj h; exact ⟨.bool _, by simp only [Op.stringOp, Sem.run_pure, ByteArray.toList_eq], .bool _⟩
  case leq => obtain rfl := Option.some.inj h; exact ⟨.bool _, by simp only [Op.stringOp, Sem.run_pure, beq_toList]; simp only [ByteArray.toList_eq], .bool _⟩
  case gtr => obtain rfl := Option.some.inj h; exact ⟨.bool _, by simp only [Op.stringOp, Sem.run_pure, beq_toList]; simp only [ByteArray.toList_eq], .bool _⟩
  case geq => obtain rfl := Option.some.inj h; exact ⟨.bool _, by simp only [Op.stringOp, Sem.run_pure, ByteArray.toList_eq], .bool _⟩
  all_goals exact absurd h (by simp [strBin])

theorem intCmp_sound {op : BinOp} {k : IntKind} {a b : Int} {z : DV} (h : intBin op k a b = some z) (hs : op ≠ .shl ∧ op ≠ .shr) (t : TypeId) :
    ∃ v, (Go.binOp op t (.int k a) (.int k b)).run P w = .ok v w ∧ CR Φ z v := by
  cases op
  case shl => exact (hs.1 rfl).elim
  case shr => exact (hs.2 rfl).elim
  case quo =>
    simp only [intBin] at h
    split at h
    · simp at h
    · rename_i hb; injection h with h; subst h; exact ⟨_, by simp [Go.binOp, Op.intDiv, hb], .int _ _⟩
  case rem =>
    simp only [intBin] at h
    split at h
    · simp at h
    · rename_i hb; injection h with h; subst h; exact ⟨_, by simp [Go.binOp, Op.intDiv, hb], .int _ _⟩
  all_goals
    simp only [intBin] at h
    injection h with h; subst h
    first
      | exact ⟨_, by simp only [Go.binOp, ne_eq, not_true_eq_false, if_false, Op.intArith, Op.intBits, Op.intCmp, Sem.run_pure], .int _ _⟩
      | exact ⟨.bool _, by simp only [Go.binOp, ne_eq, not_true_eq_false, if_false, Op.intCmp, Sem.run_pure]; first | done | rfl, .bool _⟩

theorem eqGuard_scalar (op : BinOp) (t : TypeId) (x y : Operand) {a b : Value} (h : ∀ cs, a ≠ .agg cs) (hn : a ≠ .nilIface) : (eqGuard op t x y a b).run P w = .ok () w := by
  cases a <;> first
    | exact (hn rfl).elim
    | exact (h _ rfl).elim
    | (unfold eqGuard; split <;> rfl)

theorem bin_sound {op : BinOp} {t : TypeId} {x y z : DV} {vx vy : Value} (hx : CR Φ x vx) (hy : CR Φ y vy) (h : binDV P op t x y = some z) (o1 o2 : Operand) :
    ∃ v, (do eqGuard op t o1 o2 vx vy; Go.binOp op t vx vy).run P w = .ok v w ∧ CR Φ z v := by
  have key : ∀ v, (eqGuard op t o1 o2 vx vy).run P w = .ok () w → (Go.binOp op t vx vy).run P w = .ok v w → CR Φ z v →
      ∃ v, (do eqGuard op t o1 o2 vx vy; Go.binOp op t vx vy).run P w = .ok v w ∧ CR Φ z v := fun v h1 h2 h3 =>
    ⟨v, by rw [Sem.run_bind, h1]; exact h2, h3⟩
  cases hx <;> cases hy <;> simp only [binDV] at h <;> try (simp at h; done)
  · rename_i a b
    split at h
    · rename_i hu
      obtain rfl := Option.some.inj h
      exact key (.bool (a == b)) (eqGuard_scalar _ _ _ _ (by simp) (by simp)) (run_eql_bool w t a b hu) (.bool _)
    · rename_i hu
      obtain rfl := Option.some.inj h
      exact key (.bool (!(a == b))) (eqGuard_scalar _ _ _ _ (by simp) (by simp)) (run_neq_bool w t a b hu) (.bool _)
    · simp at h
  · rename_i k a k' b
    by_cases hs : op = .shl ∨ op = .shr
    · have hsh : ∀ v, (Op.shift op k a k' b).run P w = .ok v w → (Go.binOp op t (.int k a) (.int k' b)).run P w = .ok v w := by
        intro v hv; rcases hs with rfl | rfl <;> exact hv
      rcases hs with rfl | rfl
      · simp only [intBin] at h
        split at h
        · simp at h
        · rename_i hb
          obtain rfl := Option.some.inj h
          exact key _ (eqGuard_scalar _ _ _ _ (by simp) (by simp)) (hsh _ (by simp only [Op.shift, if_neg hb, Sem.run_pure])) (.int _ _)
      · simp only [intBin] at h
        split at h
        · simp at h
        · rename_i hb
          obtain rfl := Option.some.inj h
          exact key _ (eqGuard_scalar _ _ _ _ (by simp) (by simp)) (hsh _ (by simp only [Op.shift, if_neg hb, Sem.run_pure])) (.int _ _)
    · have hs' : op ≠ .shl ∧ op ≠ .shr := ⟨fun h => hs (.inl h), fun h => hs (.inr h)⟩
      have h' : (if k = k' then intBin op k a b else none) = some z := by
        cases op <;> first | exact h | exact (hs'.1 rfl).elim | exact (hs'.2 rfl).elim
      split at h'
      · rename_i hk
        subst hk
        obtain ⟨v, h1, h2⟩ := intCmp_sound (P := P) (Φ := Φ) (w := w) h' hs' t
        exact key v (eqGuard_scalar _ _ _ _ (by simp) (by simp)) h1 h2
      · simp at h'
  · rename_i s1 b1 h1 s2 b2 h2
    subst h1; subst h2
    obtain ⟨v, h3, h4⟩ := str_sound (P := P) (Φ := Φ) (w := w) h
    refine key v (eqGuard_scalar _ _ _ _ (by simp) (by simp)) ?_ h4
    cases op <;> exact h3

theorem un_sound {op : UnOp} {x z : DV} {vx : Value} (hx : CR Φ x vx) (h : unDV op x = some z) : ∃ v, (Op.unary op vx).run P w = .ok v w ∧ CR Φ z v := by
  cases hx <;> cases op <;> simp only [unDV] at h <;> try (simp at h; done)
  all_goals obtain rfl := Option.some.inj h
  · exact ⟨_, by simp only [Op.unary, Sem.run_pure], .bool _⟩
  · exact ⟨_, by simp only [Op.unary, Op.intArith, Sem.run_pure], .int _ _⟩
  · exact ⟨_, by simp only [Op.unary, Op.intBits, Sem.run_pure], .int _ _⟩

theorem min2_sound {x y z : DV} {vx vy : Value} (hx : CR Φ x vx) (hy : CR Φ y vy) (h : min2D x y = some z) : ∃ v, (Builtin.min2 vx vy).run P w = .ok v w ∧ CR Φ z v := by
  cases hx <;> cases hy <;> simp only [min2D] at h <;> try (simp at h; done)
  obtain rfl := Option.some.inj h
  exact ⟨_, rfl, .int _ _⟩

theorem max2_sound {x y z : DV} {vx vy : Value} (hx : CR Φ x vx) (hy : CR Φ y vy) (h : max2D x y = some z) : ∃ v, (Builtin.max2 vx vy).run P w = .ok v w ∧ CR Φ z v := by
  cases hx <;> cases hy <;> simp only [max2D] at h <;> try (simp at h; done)
  obtain rfl := Option.some.inj h
  exact ⟨_, rfl, .int _ _⟩

theorem foldD_sound {tm : Array Value} {e : Env} (he : e.Φ = Φ) {f : DV → DV → Option DV} {g : Value → Value → Sem Value}
    (hfg : ∀ x y z vx vy, CR Φ x vx → CR Φ y vy → f x y = some z → ∃ v, (g vx vy).run P w = .ok v w ∧ CR Φ z v) :
    ∀ {as : List AV} {vs : List Value} {x z : DV} {vx : Value}, All2 (fun v x => AR e tm v x []) as vs → CR Φ x vx → foldD f x as = some z →
    ∃ v, (vs.foldlM g vx).run P w = .ok v w ∧ CR Φ z v
  | [], _, x, z, vx, .nil, hx, h => by simp only [foldD] at h; obtain rfl := Option.some.inj h; exact ⟨vx, rfl, hx⟩
  | a :: as, _, x, z, vx, .cons (b := vb) (bs := vs) ha hr, hx, h => by
    cases a <;> simp only [foldD] at h <;> try (simp at h; done)
    split at h
    · rename_i y hy
      obtain ⟨hy1, _⟩ := ha
      rw [he] at hy1
      obtain ⟨v, h1, h2⟩ := hfg _ _ _ _ _ hx hy1 hy
      obtain ⟨v', h3, h4⟩ := foldD_sound he hfg hr h2 h
      exact ⟨v', by simp only [List.foldlM_cons, Sem.run_bind, h1, Result.andThen_ok, h3], h4⟩
    · simp at h
end

/-! ### Parts of structs and arrays -/

theorem All2O.drop {R : AV → Value → List Nat → Prop} {cs : List AV} {vs : List Value} {B : List Nat} (h : All2O R cs vs B) (n : Nat) (hn : n ≤ cs.length) :
    ∃ B1 B2, All2O R (cs.take n) (vs.take n) B1 ∧ All2O R (cs.drop n) (vs.drop n) B2 ∧ B = B1 ++ B2 := by
  obtain ⟨B1, B2, h1, h2, h3⟩ := All2O.split (cs := cs.take n) (as := cs.drop n) (by simpa using h)
  have hl : (cs.take n).length = n := by simp; omega
  rw [hl] at h1 h2
  exact ⟨B1, B2, h1, h2, h3⟩

theorem All2O.get {R : AV → Value → List Nat → Prop} {cs : List AV} {vs : List Value} {B : List Nat} (h : All2O R cs vs B) (i : Nat) {a : AV} (ha : cs[i]? = some a) :
    ∃ v B1, vs[i]? = some v ∧ R a v B1 ∧ ∀ r ∈ B1, r ∈ B := by
  induction h generalizing i with
  | nil => simp at ha
  | cons h _ ih =>
    cases i with
    | zero => simp at ha; subst ha; exact ⟨_, _, rfl, h, fun r hr => List.mem_append_left _ hr⟩
    | succ i => obtain ⟨v, B1, h1, h2, h3⟩ := ih i (by simpa using ha); exact ⟨v, B1, by simpa using h1, h2, fun r hr => List.mem_append_right _ (h3 r hr)⟩

theorem tyOK_info {P : Program} {t : TypeId} (h : tyOK P t = true) : ∃ i d, P.info? t = some i ∧ P.underlying t = some d := by
  unfold tyOK at h
  cases hu : P.underlying t with
  | none => rw [hu] at h; simp at h
  | some d =>
    cases hi : P.info? t with
    | none => simp [Program.underlying, hi] at hu
    | some i => exact ⟨i, d, rfl, rfl⟩

theorem isAgg_run {P : Program} {w : World} {t : TypeId} (h : tyOK P t = true) : (isAgg t).run P w = .ok (isAggB P t) w := by
  obtain ⟨i, d, hi, hd⟩ := tyOK_info h
  unfold isAgg isAggB underlying
  simp only [Sem.run_bind, run_program, Result.andThen_ok, hd, Sem.run_pure]
  cases d <;> rfl

theorem sizeOf_run {P : Program} {w : World} {t : TypeId} (h : tyOK P t = true) : (Go.sizeOf t).run P w = .ok (P.cellsOf t) w := by
  obtain ⟨i, d, hi, hd⟩ := tyOK_info h
  simp [Go.sizeOf, typeInfo, hi, Program.cellsOf]

theorem All2O.extract {e : Env} {cs : List AV} {vs : Array Value} {B : List Nat} (h : All2O (AC e) cs vs.toList B) (off n : Nat) (hl : off + n ≤ cs.length) :
    ∃ B1, All2O (AC e) ((cs.drop off).take n) (vs.extract off (off + n)).toList B1 ∧ ∀ r ∈ B1, r ∈ B := by
  obtain ⟨B1, B2, h1, h2, rfl⟩ := h.drop off (by omega)
  obtain ⟨C1, C2, h3, h4, rfl⟩ := h2.drop n (by simp; omega)
  refine ⟨C1, ?_, fun r hr => by simp [hr]⟩
  simpa [List.extract_eq_take_drop] using h3

theorem part_sound {P : Program} {w : World} {e : Env} {t : TypeId} {cs : List AV} {vs : Array Value} {B : List Nat} {off : Nat} {a : AV}
    (h : All2O (AC e) cs vs.toList B) (hl : loadA P t cs off = some a) :
    ∃ v B1, (part t vs off).run P w = .ok v w ∧ AR1 e a v B1 ∧ ∀ r ∈ B1, r ∈ B := by
  unfold loadA at hl
  cases ht : tyOK P t with
  | false => rw [ht] at hl; simp at hl
  | true =>
    rw [ht, cond_true] at hl
    unfold partA at hl
    unfold part
    simp only [Sem.run_bind, isAgg_run ht, Result.andThen_ok, sizeOf_run ht]
    cases hag : isAggB P t with
    | true =>
      rw [hag, cond_true] at hl
      split at hl
      · rename_i hle
        obtain rfl := Option.some.inj hl
        obtain ⟨B1, h1, h2⟩ := h.extract off (P.cellsOf t) hle
        refine ⟨.agg (vs.extract off (off + P.cellsOf t)), B1, ?_, ⟨_, rfl, h1⟩, h2⟩
        simp [sizeOf_run ht]
      · simp at hl
    | false =>
      rw [hag, cond_false] at hl
      replace hl : cs[off]? = some a := by split at hl <;> simp_all
      obtain ⟨v, B1, h1, h2, h3⟩ := h.get off hl
      refine ⟨v, B1, ?_, AR1.of_AC h2, h3⟩
      have : vs[off]? = some v := by simpa using h1
      simp [this]

end Go.AI
