/- Operations that make memory or write it: what they leave of what is known. -/
import Derived.Test.YtolbinhdmenekaaAxPure2
namespace Go.AI
set_option linter.unusedVariables false
set_option linter.unusedSimpArgs false

theorem lt_of_get {heap : Array Obj} {r : Nat} {o : Obj} (h : heap[r]? = some o) : r < heap.size := (Array.getElem?_eq_some_iff.1 h).1

theorem AC.own_lt {e : Env} {a : AV} {v : Value} {B : List Nat} (h : AC e a v B) : ∀ r ∈ B, r < e.heap.size := by
  cases a
  case osl sz xs =>
    rcases h with ⟨_, _, rfl⟩ | ⟨a, cap, _, _, _, _, h⟩
    · simp
    · rcases h with ⟨_, rfl⟩ | ⟨rfl, _, c, el, h1, _⟩
      · simp
      · intro r hr; simp at hr; subst hr; exact lt_of_get h1
  case d x => obtain ⟨_, rfl⟩ := h; simp
  case hp b o => obtain ⟨_, _, _, rfl⟩ := h; simp
  case vp x => obtain ⟨_, _, _, rfl⟩ := h; simp
  case fn f => obtain ⟨_, rfl⟩ := h; simp
  case nilp => obtain ⟨_, rfl⟩ := h; simp
  case nilf => obtain ⟨_, rfl⟩ := h; simp
  case nilm => obtain ⟨_, rfl⟩ := h; simp
  case mp b => obtain ⟨_, _, _, rfl⟩ := h; simp
  case zsl ik xs k =>
    obtain ⟨g, cap, _, _, _, rfl, c, el, h1, _⟩ := h
    intro r hr; simp at hr; subst hr; exact lt_of_get h1
  case sref => obtain ⟨_, rfl⟩ := h; simp
  all_goals exact h.elim

theorem All2O.own_lt {e : Env} {as : List AV} {vs : List Value} {B : List Nat} (h : All2O (AC e) as vs B) : ∀ r ∈ B, r < e.heap.size := by
  induction h with
  | nil => simp
  | cons h _ ih =>
    intro r hr
    rcases List.mem_append.1 hr with hr | hr
    · exact h.own_lt r hr
    · exact ih r hr

theorem AR1.to_AC {e : Env} {a : AV} {v : Value} {B : List Nat} (h : AR1 e a v B) (hn : ∀ cs, a ≠ .agg cs) : AC e a v B := by
  cases a
  case agg cs => exact (hn cs rfl).elim
  all_goals exact h

theorem AR.to_AR1 {e : Env} {tm : Array Value} {a : AV} {v : Value} {B : List Nat} (h : AR e tm a v B) (hp : plain a = true) : AR1 e a v B := by
  cases a <;> first | exact h | (simp [plain, plainC] at hp; done)

theorem AR1.own_lt {e : Env} {a : AV} {v : Value} {B : List Nat} (h : AR1 e a v B) : ∀ r ∈ B, r < e.heap.size := by
  cases a
  case agg cs => obtain ⟨vs, _, h⟩ := h; exact h.own_lt
  all_goals exact (AR1.to_AC h (by simp)).own_lt

theorem BlkR.own_lt {e : Env} {cs : List AV} {r : Nat} {B : List Nat} (h : BlkR e cs r B) : ∀ r ∈ B, r < e.heap.size := by
  obtain ⟨vs, el, h1, _, B', h2, rfl⟩ := h
  intro r' hr
  rcases List.mem_cons.1 hr with rfl | hr
  · exact lt_of_get h1
  · exact h2.own_lt r' hr

theorem AR.own_lt {e : Env} {tm : Array Value} {a : AV} {v : Value} {B : List Nat} (h : AR e tm a v B) : ∀ r ∈ B, r < e.heap.size := by
  cases a
  case tup xs => obtain ⟨_, _, _, rfl⟩ := h; simp
  case undef => obtain ⟨_, rfl⟩ := h; simp
  case junk => rw [show B = [] from h]; simp
  case lp t o => obtain ⟨_, _, _, rfl⟩ := h; simp
  case box cs => obtain ⟨r, _, h⟩ := h; exact h.own_lt
  case agg cs => exact (show AR1 e (.agg cs) v B from h).own_lt
  case d x => exact (show AC e (.d x) v B from h).own_lt
  case osl sz xs => exact (show AC e (.osl sz xs) v B from h).own_lt
  case hp b o => exact (show AC e (.hp b o) v B from h).own_lt
  case vp x => exact (show AC e (.vp x) v B from h).own_lt
  case fn f => exact (show AC e (.fn f) v B from h).own_lt
  case nilp => exact (show AC e .nilp v B from h).own_lt
  case nilf => exact (show AC e .nilf v B from h).own_lt
  case nilm => exact (show AC e .nilm v B from h).own_lt
  case mp b => exact (show AC e (.mp b) v B from h).own_lt
  case mpb => exact h.elim
  case zsl ik xs k => exact (show AC e (.zsl ik xs k) v B from h).own_lt
  case sref => exact (show AC e .sref v B from h).own_lt

theorem FR.own_lt {e : Env} {tm : Array Value} : ∀ {fr : Fr} {B : List Nat}, FR e tm fr B → ∀ r ∈ B, r < e.heap.size
  | [], _, h => by rw [show _ = [] from h]; simp
  | (t, a) :: r, _, ⟨v, B1, B2, _, ha, hr, rfl⟩ => fun x hx => by
    rcases List.mem_append.1 hx with hx | hx
    · exact ha.own_lt x hx
    · exact hr.own_lt x hx

theorem ObjR.own_lt {e : Env} {cs : List AV} {r : Nat} {B : List Nat} (h : ObjR e cs r B) : ∀ r ∈ B, r < e.heap.size := by
  rcases h with h | ⟨kd, ks, vs, _, es, cl, h1, _, _, _, rfl⟩
  · exact h.own_lt
  · intro x hx
    simp at hx; subst hx
    exact (Array.getElem?_eq_some_iff.1 h1).1

theorem HR.own_lt {e : Env} : ∀ {H : Hp} {m B : List Nat}, HR e H m B → ∀ r ∈ B, r < e.heap.size
  | [], [], _, h => by rw [show _ = [] from h]; simp
  | cs :: H, r :: m, _, ⟨B1, B2, h1, h2, rfl⟩ => fun x hx => by
    rcases List.mem_append.1 hx with hx | hx
    · exact h1.own_lt x hx
    · exact h2.own_lt x hx
  | [], _ :: _, _, h => h.elim
  | _ :: _, [], _, h => h.elim

/-! ### A new block -/

/-- The memory that nobody writes, with block 'r' besides. -/
def ext (Φ : Mem) (r : Nat) (f : Nat → Option Value) : Mem := fun r' o => if r' = r then f o else Φ r' o

theorem WOK.none {Φ : Mem} {heap : Array Obj} (h : WOK Φ heap) {r : Nat} (hr : heap.size ≤ r) (o : Nat) : Φ r o = none := by
  cases hv : Φ r o with
  | none => rfl
  | some v => obtain ⟨c, el, fz, h1, _⟩ := h r o v hv; have := lt_of_get h1; omega

theorem get_push {heap : Array Obj} {r : Nat} {o : Obj} (h : r < heap.size) : (heap.push o)[r]? = heap[r]? := by
  rw [Array.getElem?_push, if_neg (Nat.ne_of_lt h)]

theorem sub_ext {Φ : Mem} {heap : Array Obj} (hw : WOK Φ heap) (f : Nat → Option Value) : Sub Φ (ext Φ heap.size f) := fun r o v h => by
  have : r ≠ heap.size := fun he => by subst he; rw [hw.none (Nat.le_refl _)] at h; simp at h
  simp [ext, this, h]

theorem Step.push {Φ : Mem} {heap : Array Obj} {μ μ' B : List Nat} (hw : WOK Φ heap) (f : Nat → Option Value) (o : Obj) (hB : ∀ r ∈ B, r < heap.size)
    (hμ : ∀ (b r : Nat), μ[b]? = some r → μ'[b]? = some r) : Step ⟨Φ, heap, μ⟩ ⟨ext Φ heap.size f, heap.push o, μ'⟩ B where
  sub := fun r o v (h : Φ r o = some v) => by
    have : r ≠ heap.size := fun he => by subst he; rw [hw.none (Nat.le_refl _)] at h; simp at h
    simp [ext, this, h]
  mu := hμ
  keep := fun r hr => ⟨get_push (hB r hr), fun o => by simp [ext, Nat.ne_of_lt (hB r hr)]⟩

/-- The world with a new block, and maybe one draw before it. -/
theorem Inv.pushO {E : Ent} {w w' : World} {Φ : Mem} {μ μ' B : List Nat} (h : Inv E w Φ μ B) {ob : Obj} (hw' : w'.heap = w.heap.push ob) (f : Nat → Option Value)
    (hf : ∀ o v, f o = some v → ∃ vs el fz, ob = .cells vs el fz ∧ vs[o]? = some v) (hμ : ∀ (b r : Nat), μ[b]? = some r → μ'[b]? = some r) (hio : SameIO w w') : Inv E w' (ext Φ w.heap.size f) μ' (w.heap.size :: B) where
  wok := fun r o v hv => by
    rw [hw']
    unfold ext at hv
    split at hv
    · rename_i hr; subst hr
      obtain ⟨vs, el, fz, rfl, h2⟩ := hf o v hv
      exact ⟨vs, el, fz, by simp, h2⟩
    · rename_i hr
      obtain ⟨c, el', fz', h1, h2⟩ := h.wok r o v hv
      exact ⟨c, el', fz', by rw [get_push (lt_of_get h1)]; exact h1, h2⟩
  size := by rw [hw']; simp; have := h.size; omega
  sub := h.sub.trans fun r o v hv => by
    have : r ≠ w.heap.size := fun he => by subst he; rw [h.wok.none (Nat.le_refl _)] at hv; simp at hv
    simp [ext, this, hv]
  mu := fun b r hb => hμ b r (h.mu b r hb)
  keep := fun r hr hx => by
    have hs := h.size
    have hk := h.keep r hr hx
    refine ⟨by rw [hw', get_push (by omega)]; exact hk.1, fun o => ?_⟩
    have : r ≠ w.heap.size := by omega
    simp only [ext, if_neg this]; exact hk.2 o
  own := fun r hr => by
    rcases List.mem_cons.1 hr with rfl | hr
    · exact .inr h.size
    · exact h.own r hr
  io := h.io.trans hio

theorem Inv.push {E : Ent} {w w' : World} {Φ : Mem} {μ μ' B : List Nat} (h : Inv E w Φ μ B) {vs : Array Value} {el : TypeId} {fz : Nat × Nat} (hw' : w'.heap = w.heap.push (.cells vs el fz)) (f : Nat → Option Value)
    (hf : ∀ o v, f o = some v → vs[o]? = some v) (hμ : ∀ (b r : Nat), μ[b]? = some r → μ'[b]? = some r) (hio : SameIO w w') : Inv E w' (ext Φ w.heap.size f) μ' (w.heap.size :: B) :=
  h.pushO hw' f (fun o v hv => ⟨vs, el, fz, rfl, hf o v hv⟩) hμ hio

/-! ### Elements side by side -/

def flat (xs : List DV) : List DV := xs.flatMap DV.cells

theorem flat_cons (x : DV) (xs : List DV) : flat (x :: xs) = x.cells ++ flat xs := rfl
theorem flat_append (xs ys : List DV) : flat (xs ++ ys) = flat xs ++ flat ys := by simp [flat]

theorem flat_length {sz : Nat} : ∀ {xs : List DV}, (∀ x ∈ xs, x.cells.length = sz) → (flat xs).length = xs.length * sz
  | [], _ => by simp [flat]
  | x :: xs, h => by
    rw [flat_cons, List.length_append, h x (by simp), flat_length fun y hy => h y (List.mem_cons_of_mem _ hy), List.length_cons, Nat.add_mul]; omega

theorem flat_get {sz : Nat} : ∀ {xs : List DV} {i j : Nat} {x c : DV}, (∀ x ∈ xs, x.cells.length = sz) → xs[i]? = some x → x.cells[j]? = some c → (flat xs)[i * sz + j]? = some c
  | [], _, _, _, _, _, hx, _ => by simp at hx
  | y :: xs, 0, j, x, c, h, hx, hc => by
    simp at hx; subst hx
    rw [flat_cons, Nat.zero_mul, Nat.zero_add, List.getElem?_append_left (List.getElem?_eq_some_iff.1 hc).1]
    exact hc
  | y :: xs, i + 1, j, x, c, h, hx, hc => by
    rw [flat_cons, List.getElem?_append_right (by rw [h y (by simp), Nat.add_mul]; omega), h y (by simp)]
    rw [show (i + 1) * sz + j - sz = i * sz + j by rw [Nat.add_mul]; omega]
    exact flat_get (fun y hy => h y (List.mem_cons_of_mem _ hy)) (by simpa using hx) hc

/-- A new block whose cells are the elements side by side. -/
theorem SlR.of_flat {Φ : Mem} {sz : Nat} {xs : List DV} {vs : List Value} {r : Nat} (hz : ∀ x ∈ xs, x.cells.length = sz) (h : All2 (CR Φ) (flat xs) (vs.take (flat xs).length))
    (hm : ∀ o v, o < (flat xs).length → vs[o]? = some v → Φ r o = some v) : SlR Φ sz xs ⟨r, 0, none⟩ := by
  refine ⟨rfl, fun i x hx => ⟨hz x (List.mem_of_getElem? hx), fun j c hj => ?_⟩⟩
  have hg := flat_get hz hx hj
  obtain ⟨v, h1, h2⟩ := h.get _ hg
  have hlt := (List.getElem?_eq_some_iff.1 hg).1
  rw [List.getElem?_take, if_pos hlt] at h1
  exact ⟨v, hm _ _ (by simpa using hlt) (by simpa using h1), h2⟩

end Go.AI
