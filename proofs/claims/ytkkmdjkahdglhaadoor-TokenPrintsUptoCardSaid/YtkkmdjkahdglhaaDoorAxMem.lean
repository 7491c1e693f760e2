/- Operations that make memory or write it: what they leave of what is known. -/
import Derived.Test.YtkkmdjkahdglhaaDoorAxRel
import Derived.Lib.ConvBytes
import Derived.Lib.AppendStr
import Derived.Laws.BytesString
namespace Go.AI
set_option linter.unusedVariables false
set_option linter.unusedSimpArgs false

theorem lt_of_get {heap : Array Obj} {r : Nat} {o : Obj} (h : heap[r]? = some o) : r < heap.size := (Array.getElem?_eq_some_iff.1 h).1

theorem AC.own_lt {e : Env} {a : AV} {v : Value} {B : List Nat} (h : AC e a v B) : ∀ r ∈ B, r < e.heap.size := by
  cases a
  case osl sz xs =>
    rcases h with ⟨_, _, rfl⟩ | ⟨a, cap, _, _, _, _, h⟩
    · simp
    · obtain ⟨rfl, _, c, el, h1, _⟩ := h
      intro r hr; simp at hr; subst hr; exact lt_of_get h1
  case d x => obtain ⟨_, rfl⟩ := h; simp
  case hp b o => obtain ⟨_, _, _, rfl⟩ := h; simp
  case vp x => obtain ⟨_, _, _, rfl⟩ := h; simp
  case fn f => obtain ⟨_, rfl⟩ := h; simp
  case nilp => obtain ⟨_, rfl⟩ := h; simp
  case nilf => obtain ⟨_, rfl⟩ := h; simp
  case nilm => obtain ⟨_, rfl⟩ := h; simp
  case mp b => obtain ⟨_, _, _, rfl⟩ := h; simp
  case zsl ik xs k =>
    obtain ⟨g, cap, _, _, _, rfl, c, el, h1, _⟩ := h
    intro r hr; simp at hr; subst hr; exact lt_of_get h1
  case sref => obtain ⟨_, rfl⟩ := h; simp
  case bself => obtain ⟨_, rfl⟩ := h; simp
  all_goals exact h.elim

theorem All2O.own_lt {e : Env} {as : List AV} {vs : List Value} {B : List Nat} (h : All2O (AC e) as vs B) : ∀ r ∈ B, r < e.heap.size := by
  induction h with
  | nil => simp
  | cons h _ ih =>
    intro r hr
    rcases List.mem_append.1 hr with hr | hr
    · exact h.own_lt r hr
    · exact ih r hr

theorem AR1.to_AC {e : Env} {a : AV} {v : Value} {B : List Nat} (h : AR1 e a v B) (hn : ∀ cs, a ≠ .agg cs) : AC e a v B := by
  cases a
  case agg cs => exact (hn cs rfl).elim
  all_goals exact h

theorem AR.to_AR1 {e : Env} {tm : Array Value} {a : AV} {v : Value} {B : List Nat} (h : AR e tm a v B) (hp : plain a = true) : AR1 e a v B := by
  cases a <;> first | exact h | (simp [plain, plainC] at hp; done)

theorem AR1.own_lt {e : Env} {a : AV} {v : Value} {B : List Nat} (h : AR1 e a v B) : ∀ r ∈ B, r < e.heap.size := by
  cases a
  case agg cs => obtain ⟨vs, _, h⟩ := h; exact h.own_lt
  all_goals exact (AR1.to_AC h (by simp)).own_lt

theorem BlkR.own_lt {e : Env} {cs : List AV} {r : Nat} {B : List Nat} (h : BlkR e cs r B) : ∀ r ∈ B, r < e.heap.size := by
  obtain ⟨vs, el, h1, _, B', h2, rfl⟩ := h
  intro r' hr
  rcases List.mem_cons.1 hr with rfl | hr
  · exact lt_of_get h1
  · exact h2.own_lt r' hr

theorem AR.own_lt {e : Env} {tm : Array Value} {a : AV} {v : Value} {B : List Nat} (h : AR e tm a v B) : ∀ r ∈ B, r < e.heap.size := by
  cases a
  case tup xs => obtain ⟨_, _, _, rfl⟩ := h; simp
  case undef => obtain ⟨_, rfl⟩ := h; simp
  case junk => rw [show B = [] from h]; simp
  case lp t o => obtain ⟨_, _, _, rfl⟩ := h; simp
  case box cs => obtain ⟨r, _, h⟩ := h; exact h.own_lt
  case agg cs => exact (show AR1 e (.agg cs) v B from h).own_lt
  case d x => exact (show AC e (.d x) v B from h).own_lt
  case osl sz xs => exact (show AC e (.osl sz xs) v B from h).own_lt
  case hp b o => exact (show AC e (.hp b o) v B from h).own_lt
  case vp x => exact (show AC e (.vp x) v B from h).own_lt
  case fn f => exact (show AC e (.fn f) v B from h).own_lt
  case nilp => exact (show AC e .nilp v B from h).own_lt
  case nilf => exact (show AC e .nilf v B from h).own_lt
  case nilm => exact (show AC e .nilm v B from h).own_lt
  case mp b => exact (show AC e (.mp b) v B from h).own_lt
  case mpb => exact h.elim
  case zsl ik xs k => exact (show AC e (.zsl ik xs k) v B from h).own_lt
  case sref => exact (show AC e .sref v B from h).own_lt
  case bself t => exact (show AC e (.bself t) v B from h).own_lt

theorem FR.own_lt {e : Env} {tm : Array Value} : ∀ {fr : Fr} {B : List Nat}, FR e tm fr B → ∀ r ∈ B, r < e.heap.size
  | [], _, h => by rw [show _ = [] from h]; simp
  | (t, a) :: r, _, ⟨v, B1, B2, _, ha, hr, rfl⟩ => fun x hx => by
    rcases List.mem_append.1 hx with hx | hx
    · exact ha.own_lt x hx
    · exact hr.own_lt x hx

theorem ObjR.own_lt {e : Env} {cs : List AV} {r : Nat} {B : List Nat} (h : ObjR e cs r B) : ∀ r ∈ B, r < e.heap.size := by
  rcases h with ⟨h, _⟩ | ⟨kd, ks, vs, _, es, cl, h1, _, _, _, rfl⟩
  · exact h.own_lt
  · intro x hx
    simp at hx; subst hx
    exact (Array.getElem?_eq_some_iff.1 h1).1

theorem HR.own_lt {e : Env} : ∀ {H : Hp} {m B : List Nat}, HR e H m B → ∀ r ∈ B, r < e.heap.size
  | [], [], _, h => by rw [show _ = [] from h]; simp
  | cs :: H, r :: m, _, ⟨B1, B2, h1, h2, rfl⟩ => fun x hx => by
    rcases List.mem_append.1 hx with hx | hx
    · exact h1.own_lt x hx
    · exact h2.own_lt x hx
  | [], _ :: _, _, h => h.elim
  | _ :: _, [], _, h => h.elim

/-! ### A new block -/

/-- The memory that nobody writes, with block 'r' besides. -/
def ext (Φ : Mem) (r : Nat) (f : Nat → Option Value) : Mem := fun r' o => if r' = r then f o else Φ r' o

theorem WOK.none {Φ : Mem} {heap : Array Obj} (h : WOK Φ heap) {r : Nat} (hr : heap.size ≤ r) (o : Nat) : Φ r o = none := by
  cases hv : Φ r o with
  | none => rfl
  | some v => obtain ⟨c, el, fz, h1, _⟩ := h r o v hv; have := lt_of_get h1; omega

theorem get_push {heap : Array Obj} {r : Nat} {o : Obj} (h : r < heap.size) : (heap.push o)[r]? = heap[r]? := by
  rw [Array.getElem?_push, if_neg (Nat.ne_of_lt h)]

theorem sub_ext {Φ : Mem} {heap : Array Obj} (hw : WOK Φ heap) (f : Nat → Option Value) : Sub Φ (ext Φ heap.size f) := fun r o v h => by
  have : r ≠ heap.size := fun he => by subst he; rw [hw.none (Nat.le_refl _)] at h; simp at h
  simp [ext, this, h]

theorem Step.push {Φ : Mem} {heap : Array Obj} {μ μ' B : List Nat} (hw : WOK Φ heap) (f : Nat → Option Value) (o : Obj) (hB : ∀ r ∈ B, r < heap.size)
    (hμ : ∀ (b r : Nat), μ[b]? = some r → μ'[b]? = some r) : Step ⟨Φ, heap, μ⟩ ⟨ext Φ heap.size f, heap.push o, μ'⟩ B where
  sub := fun r o v (h : Φ r o = some v) => by
    have : r ≠ heap.size := fun he => by subst he; rw [hw.none (Nat.le_refl _)] at h; simp at h
    simp [ext, this, h]
  mu := hμ
  keep := fun r hr => ⟨get_push (hB r hr), fun o => by simp [ext, Nat.ne_of_lt (hB r hr)]⟩

/-- The world with a new block, and maybe one draw before it. -/
theorem Inv.pushO {E : Ent} {w w' : World} {Φ : Mem} {μ μ' B : List Nat} (h : Inv E w Φ μ B) {ob : Obj} (hw' : w'.heap = w.heap.push ob) (f : Nat → Option Value)
    (hf : ∀ o v, f o = some v → ∃ vs el fz, ob = .cells vs el fz ∧ vs[o]? = some v) (hμ : ∀ (b r : Nat), μ[b]? = some r → μ'[b]? = some r) (hio : SameIO w w') : Inv E w' (ext Φ w.heap.size f) μ' (w.heap.size :: B) where
  wok := fun r o v hv => by
    rw [hw']
    unfold ext at hv
    split at hv
    · rename_i hr; subst hr
      obtain ⟨vs, el, fz, rfl, h2⟩ := hf o v hv
      exact ⟨vs, el, fz, by simp, h2⟩
    · rename_i hr
      obtain ⟨c, el', fz', h1, h2⟩ := h.wok r o v hv
      exact ⟨c, el', fz', by rw [get_push (lt_of_get h1)]; exact h1, h2⟩
  size := by rw [hw']; simp; have := h.size; omega
  sub := h.sub.trans fun r o v hv => by
    have : r ≠ w.heap.size := fun he => by subst he; rw [h.wok.none (Nat.le_refl _)] at hv; simp at hv
    simp [ext, this, hv]
  mu := fun b r hb => hμ b r (h.mu b r hb)
  keep := fun r hr hx => by
    have hs := h.size
    have hk := h.keep r hr hx
    refine ⟨by rw [hw', get_push (by omega)]; exact hk.1, fun o => ?_⟩
    have : r ≠ w.heap.size := by omega
    simp only [ext, if_neg this]; exact hk.2 o
  own := fun r hr => by
    rcases List.mem_cons.1 hr with rfl | hr
    · exact .inr h.size
    · exact h.own r hr
  io := h.io.trans hio

theorem Inv.push {E : Ent} {w w' : World} {Φ : Mem} {μ μ' B : List Nat} (h : Inv E w Φ μ B) {vs : Array Value} {el : TypeId} {fz : Nat × Nat} (hw' : w'.heap = w.heap.push (.cells vs el fz)) (f : Nat → Option Value)
    (hf : ∀ o v, f o = some v → vs[o]? = some v) (hμ : ∀ (b r : Nat), μ[b]? = some r → μ'[b]? = some r) (hio : SameIO w w') : Inv E w' (ext Φ w.heap.size f) μ' (w.heap.size :: B) :=
  h.pushO hw' f (fun o v hv => ⟨vs, el, fz, rfl, hf o v hv⟩) hμ hio

/-! ### Elements side by side -/

def flat (xs : List DV) : List DV := xs.flatMap DV.cells

theorem flat_cons (x : DV) (xs : List DV) : flat (x :: xs) = x.cells ++ flat xs := rfl
theorem flat_append (xs ys : List DV) : flat (xs ++ ys) = flat xs ++ flat ys := by simp [flat]

theorem flat_length {sz : Nat} : ∀ {xs : List DV}, (∀ x ∈ xs, x.cells.length = sz) → (flat xs).length = xs.length * sz
  | [], _ => by simp [flat]
  | x :: xs, h => by
    rw [flat_cons, List.length_append, h x (by simp), flat_length fun y hy => h y (List.mem_cons_of_mem _ hy), List.length_cons, Nat.add_mul]; omega

theorem flat_get {sz : Nat} : ∀ {xs : List DV} {i j : Nat} {x c : DV}, (∀ x ∈ xs, x.cells.length = sz) → xs[i]? = some x → x.cells[j]? = some c → (flat xs)[i * sz + j]? = some c
  | [], _, _, _, _, _, hx, _ => by simp at hx
  | y :: xs, 0, j, x, c, h, hx, hc => by
    simp at hx; subst hx
    rw [flat_cons, Nat.zero_mul, Nat.zero_add, List.getElem?_append_left (List.getElem?_eq_some_iff.1 hc).1]
    exact hc
  | y :: xs, i + 1, j, x, c, h, hx, hc => by
    rw [flat_cons, List.getElem?_append_right (by rw [h y (by simp), Nat.add_mul]; omega), h y (by simp)]
    rw [show (i + 1) * sz + j - sz = i * sz + j by rw [Nat.add_mul]; omega]
    exact flat_get (fun y hy => h y (List.mem_cons_of_mem _ hy)) (by simpa using hx) hc

/-- A new block whose cells are the elements side by side. -/
theorem SlR.of_flat {Φ : Mem} {sz : Nat} {xs : List DV} {vs : List Value} {r : Nat} (hz : ∀ x ∈ xs, x.cells.length = sz) (h : All2 (CR Φ) (flat xs) (vs.take (flat xs).length))
    (hm : ∀ o v, o < (flat xs).length → vs[o]? = some v → Φ r o = some v) : SlR Φ sz xs ⟨r, 0, none⟩ := by
  refine ⟨rfl, fun i x hx => ⟨hz x (List.mem_of_getElem? hx), fun j c hj => ?_⟩⟩
  have hg := flat_get hz hx hj
  obtain ⟨v, h1, h2⟩ := h.get _ hg
  have hlt := (List.getElem?_eq_some_iff.1 hg).1
  rw [List.getElem?_take, if_pos hlt] at h1
  exact ⟨v, hm _ _ (by simpa using hlt) (by simpa using h1), h2⟩

end Go.AI

/- Making: new blocks, structs, slices. -/
namespace Go.AI
set_option linter.unusedVariables false
set_option linter.unusedSimpArgs false

theorem Nodup.cons_of_lt {B : List Nat} {n : Nat} (h : B.Nodup) (hl : ∀ r ∈ B, r < n) : (n :: B).Nodup :=
  List.nodup_cons.2 ⟨fun hm => Nat.lt_irrefl _ (hl n hm), h⟩

section
variable {E : Ent} {w w' : World} {Φ : Mem} {μ BF BH : List Nat} {tm : Array Value} {fr : Fr} {H : Hp} {v : AV} {x : Value}

theorem own_both (hF : FR ⟨Φ, w.heap, μ⟩ tm fr BF) (hH : HR ⟨Φ, w.heap, μ⟩ H μ BH) : ∀ r ∈ BF ++ BH, r < w.heap.size := fun r hr => by
  rcases List.mem_append.1 hr with hr | hr
  · exact hF.own_lt r hr
  · exact hH.own_lt r hr

/-- Nothing but a value. -/
theorem VR.pure (hF : FR ⟨Φ, w.heap, μ⟩ tm fr BF) (hH : HR ⟨Φ, w.heap, μ⟩ H μ BH) (hN : (BF ++ BH).Nodup) (hI : Inv E w Φ μ (BF ++ BH)) (hv : AR ⟨Φ, w.heap, μ⟩ tm v x []) : VR E v fr H tm x w :=
  ⟨Φ, μ, [], BF, BH, hv, hF, hH, by simpa using hN, by simpa using hI⟩

/-- A new block that nobody else knows. -/
theorem VR.push {vs : Array Value} {el : TypeId} {fz : Nat × Nat} (hF : FR ⟨Φ, w.heap, μ⟩ tm fr BF) (hH : HR ⟨Φ, w.heap, μ⟩ H μ BH) (hN : (BF ++ BH).Nodup) (hI : Inv E w Φ μ (BF ++ BH))
    (hw' : w'.heap = w.heap.push (.cells vs el fz)) (f : Nat → Option Value) (hf : ∀ o v, f o = some v → vs[o]? = some v) (BV : List Nat) (hBV : BV = [] ∨ BV = [w.heap.size])
    (hv : AR ⟨ext Φ w.heap.size f, w'.heap, μ⟩ tm v x BV) (hio : SameIO w w' := by exact ⟨rfl, rfl, rfl⟩) : VR E v fr H tm x w' := by
  have hlt := own_both hF hH
  have hs : ∀ B, (∀ r ∈ B, r ∈ BF ++ BH) → Step ⟨Φ, w.heap, μ⟩ ⟨ext Φ w.heap.size f, w'.heap, μ⟩ B := fun B hB => by
    rw [hw']; exact Step.push hI.wok f _ (fun r hr => hlt r (hB r hr)) (fun _ _ h => h)
  refine ⟨ext Φ w.heap.size f, μ, BV, BF, BH, hv, hF.step (hs _ fun r hr => List.mem_append_left _ hr), hH.step (hs _ fun r hr => List.mem_append_right _ hr), ?_, (hI.push hw' f hf (fun _ _ h => h) hio).perm ?_⟩
  · rcases hBV with rfl | rfl
    · simpa using hN
    · exact Nodup.cons_of_lt hN hlt
  · intro r hr
    rcases List.mem_append.1 hr with hr | hr
    · rcases hBV with rfl | rfl
      · simp at hr
      · simp at hr; subst hr; simp
    · exact List.mem_cons_of_mem _ hr

/-- A new variable, with what its value may be appended to. -/
theorem VR.box {vs : Array Value} {el : TypeId} {cs : List AV} {BC : List Nat} (hF : FR ⟨Φ, w.heap, μ⟩ tm fr BF) (hH : HR ⟨Φ, w.heap, μ⟩ H μ BH) (hc : All2O (AC ⟨Φ, w.heap, μ⟩) cs vs.toList BC)
    (hN : (BC ++ (BF ++ BH)).Nodup) (hI : Inv E w Φ μ (BC ++ (BF ++ BH))) (hw' : w'.heap = w.heap.push (.cells vs el (0, 0))) (hio : SameIO w w' := by exact ⟨rfl, rfl, rfl⟩) :
    VR E (.box cs) fr H tm (.pointer (some ⟨w.heap.size, 0, none⟩)) w' := by
  have hlt : ∀ r ∈ BC ++ (BF ++ BH), r < w.heap.size := fun r hr => by
    rcases List.mem_append.1 hr with hr | hr
    · exact hc.own_lt r hr
    · exact own_both hF hH r hr
  have hs : ∀ B, (∀ r ∈ B, r ∈ BC ++ (BF ++ BH)) → Step ⟨Φ, w.heap, μ⟩ ⟨ext Φ w.heap.size fun _ => none, w'.heap, μ⟩ B := fun B hB => by
    rw [hw']; exact Step.push hI.wok _ _ (fun r hr => hlt r (hB r hr)) (fun _ _ h => h)
  refine ⟨ext Φ w.heap.size fun _ => none, μ, w.heap.size :: BC, BF, BH, ⟨_, rfl, vs, el, ?_, ?_, BC, ?_, rfl⟩, hF.step (hs _ fun r hr => by simp [hr]), hH.step (hs _ fun r hr => by simp [hr]), ?_, hI.push hw' _ (by simp) (fun _ _ h => h) hio⟩
  · show w'.heap[w.heap.size]? = _; rw [hw']; simp
  · intro o; simp [ext]
  · exact hc.mono fun a v C hC h => h.step (hs _ fun r hr => List.mem_append_left _ (hC r hr))
  · exact Nodup.cons_of_lt hN hlt

/-- A new block of the shared heap. -/
theorem VR.heap {vs : Array Value} {el : TypeId} {cs : List AV} {BC : List Nat} (hF : FR ⟨Φ, w.heap, μ⟩ tm fr BF) (hH : HR ⟨Φ, w.heap, μ⟩ H μ BH) (hc : All2O (AC ⟨Φ, w.heap, μ⟩) cs vs.toList BC)
    (hN : (BC ++ (BF ++ BH)).Nodup) (hI : Inv E w Φ μ (BC ++ (BF ++ BH))) (hw' : w'.heap = w.heap.push (.cells vs el (0, 0))) (hio : SameIO w w' := by exact ⟨rfl, rfl, rfl⟩)
    (htag : ∀ T, cs[0]? = some (.bself T) → el = T ∧ vs[0]? = some (.pointer none) := by intro T hT; simp at hT) :
    VR E (.hp H.length 0) fr (H ++ [cs]) tm (.pointer (some ⟨w.heap.size, 0, none⟩)) w' := by
  have hlt : ∀ r ∈ BC ++ (BF ++ BH), r < w.heap.size := fun r hr => by
    rcases List.mem_append.1 hr with hr | hr
    · exact hc.own_lt r hr
    · exact own_both hF hH r hr
  have hμ : ∀ (b r : Nat), μ[b]? = some r → (μ ++ [w.heap.size])[b]? = some r := fun b r h => by
    rw [List.getElem?_append_left (List.getElem?_eq_some_iff.1 h).1]; exact h
  have hs : ∀ B, (∀ r ∈ B, r ∈ BC ++ (BF ++ BH)) → Step ⟨Φ, w.heap, μ⟩ ⟨ext Φ w.heap.size fun _ => none, w'.heap, μ ++ [w.heap.size]⟩ B := fun B hB => by
    rw [hw']; exact Step.push hI.wok _ _ (fun r hr => hlt r (hB r hr)) hμ
  have happ : ∀ (e : Env) (H : Hp) (m : List Nat) (B : List Nat) (cs : List AV) (r : Nat) (C : List Nat), HR e H m B → ObjR e cs r C → HR e (H ++ [cs]) (m ++ [r]) (B ++ C) := by
    intro e H
    induction H with
    | nil =>
      intro m B cs r C h hb
      cases m with
      | nil => rw [show B = [] from h]; exact ⟨C, [], hb, rfl, by simp⟩
      | cons _ _ => exact h.elim
    | cons c H ih =>
      intro m B cs r C h hb
      cases m with
      | nil => exact h.elim
      | cons r' m => obtain ⟨B1, B2, h1, h2, rfl⟩ := h; exact ⟨B1, B2 ++ C, h1, ih m B2 cs r C h2 hb, by simp⟩
  have hlen : ∀ (H : Hp) (m B : List Nat), HR ⟨Φ, w.heap, μ⟩ H m B → H.length = m.length := by
    intro H
    induction H with
    | nil => intro m B h; cases m with | nil => rfl | cons _ _ => exact h.elim
    | cons c H ih => intro m B h; cases m with | nil => exact h.elim | cons r m => obtain ⟨_, B2, _, h2, _⟩ := h; simp [ih m B2 h2]
  have hblk : BlkR ⟨ext Φ w.heap.size fun _ => none, w'.heap, μ ++ [w.heap.size]⟩ cs w.heap.size (w.heap.size :: BC) := by
    refine ⟨vs, el, ?_, ?_, BC, ?_, rfl⟩
    · show w'.heap[w.heap.size]? = _; rw [hw']; simp
    · intro o; simp [ext]
    · exact hc.mono fun a v C hC h => h.step (hs _ fun r hr => List.mem_append_left _ (hC r hr))
  refine ⟨ext Φ w.heap.size fun _ => none, μ ++ [w.heap.size], [], BF, BH ++ w.heap.size :: BC, ⟨w.heap.size, ?_, rfl, rfl⟩, hF.step (hs _ fun r hr => by simp [hr]),
    happ _ _ _ _ _ _ _ (hH.step (hs _ fun r hr => by simp [hr])) (.inl ⟨hblk, fun T hT => ⟨vs, by show w'.heap[w.heap.size]? = _; rw [hw', ← (htag T hT).1]; simp, .inl (htag T hT).2⟩⟩), ?_, (hI.push hw' _ (by simp) hμ hio).perm ?_⟩
  · rw [hlen _ _ _ hH]; simp
  · have hn := Nodup.cons_of_lt hN hlt
    have hp : (w.heap.size :: (BC ++ (BF ++ BH))).Perm ([] ++ (BF ++ (BH ++ w.heap.size :: BC))) := by
      rw [List.nil_append, ← List.append_assoc BF]
      exact (List.perm_append_comm (l₁ := w.heap.size :: BC) (l₂ := BF ++ BH))
    exact hp.nodup_iff.1 hn
  · intro r hr
    simp at hr ⊢
    rcases hr with h | h | h | h <;> simp [h]
theorem HR.snoc {e : Env} : ∀ {H : Hp} {m B : List Nat} {cs : List AV} {r : Nat} {C : List Nat}, HR e H m B → ObjR e cs r C → HR e (H ++ [cs]) (m ++ [r]) (B ++ C)
  | [], [], _, cs, r, C, h, hb => by rw [show _ = [] from h]; exact ⟨C, [], hb, rfl, by simp⟩
  | c :: H, r' :: m, _, cs, r, C, ⟨B1, B2, h1, h2, rfl⟩, hb => ⟨B1, B2 ++ C, h1, h2.snoc hb, by simp⟩
  | [], _ :: _, _, _, _, _, h, _ => h.elim
  | _ :: _, [], _, _, _, _, h, _ => h.elim

theorem HR.len0 {e : Env} : ∀ {H : Hp} {m B : List Nat}, HR e H m B → H.length = m.length
  | [], [], _, _ => rfl
  | cs :: H, r :: m, _, ⟨_, _, _, h, _⟩ => by simp [h.len0]
  | [], _ :: _, _, h => h.elim
  | _ :: _, [], _, h => h.elim

/-- A new map. -/
theorem VR.newMap {kd : KK} (hF : FR ⟨Φ, w.heap, μ⟩ tm fr BF) (hH : HR ⟨Φ, w.heap, μ⟩ H μ BH)
    (hN : (BF ++ BH).Nodup) (hI : Inv E w Φ μ (BF ++ BH)) (hw' : w'.heap = w.heap.push (.map #[] 0)) (hio : SameIO w w') :
    VR E (.mp H.length) fr (H ++ [[.mpb kd [] []]]) tm (.map (some w.heap.size)) w' := by
  have hlt : ∀ r ∈ BF ++ BH, r < w.heap.size := own_both hF hH
  have hμ : ∀ (b r : Nat), μ[b]? = some r → (μ ++ [w.heap.size])[b]? = some r := fun b r h => by
    rw [List.getElem?_append_left (List.getElem?_eq_some_iff.1 h).1]; exact h
  have hs : ∀ B, (∀ r ∈ B, r ∈ BF ++ BH) → Step ⟨Φ, w.heap, μ⟩ ⟨ext Φ w.heap.size fun _ => none, w'.heap, μ ++ [w.heap.size]⟩ B := fun B hB => by
    rw [hw']; exact Step.push hI.wok _ _ (fun r hr => hlt r (hB r hr)) hμ
  have hblk : ObjR ⟨ext Φ w.heap.size fun _ => none, w'.heap, μ ++ [w.heap.size]⟩ [.mpb kd [] []] w.heap.size [w.heap.size] := by
    refine .inr ⟨kd, [], [], rfl, #[], 0, ?_, ?_, trivial, rfl, rfl⟩
    · show w'.heap[w.heap.size]? = _; rw [hw']; simp
    · intro o; simp [ext]
  refine ⟨ext Φ w.heap.size fun _ => none, μ ++ [w.heap.size], [], BF, BH ++ [w.heap.size], ⟨w.heap.size, ?_, rfl, rfl⟩, hF.step (hs _ fun r hr => by simp [hr]),
    (hH.step (hs _ fun r hr => by simp [hr])).snoc hblk, ?_, (hI.pushO hw' (fun _ => none) (by simp) hμ hio).perm ?_⟩
  · rw [hH.len0]; simp
  · have hn : (w.heap.size :: (BF ++ BH)).Nodup := List.nodup_cons.2 ⟨fun hm => Nat.lt_irrefl _ (hlt _ hm), hN⟩
    have hp : (w.heap.size :: (BF ++ BH)).Perm ([] ++ (BF ++ (BH ++ [w.heap.size]))) := by
      rw [List.nil_append, ← List.append_assoc]
      exact (List.perm_append_comm (l₁ := [w.heap.size]) (l₂ := BF ++ BH))
    exact hp.nodup_iff.1 hn
  · intro r hr
    simp at hr ⊢
    rcases hr with h | h | h <;> simp [h]

end

end Go.AI

/- Structs put together, slices made and appended to. -/
namespace Go.AI
set_option linter.unusedVariables false
set_option linter.unusedSimpArgs false

theorem zeroCells_spec {P : Program} {t : TypeId} {cs : List AV} (h : zeroCells P t = some cs) :
    ∃ i z, P.info? t = some i ∧ i.zero = some z ∧ z.cells.size = i.size ∧ P.cellsOf t = i.size ∧ ∀ e, All2O (AC e) cs z.cells.toList [] := by
  unfold zeroCells at h
  split at h
  · rename_i i hi
    split at h
    · rename_i z hz
      split at h
      · rename_i hs
        refine ⟨i, z, hi, hz, hs, by simp [Program.cellsOf, hi], fun e => ?_⟩
        cases hoc : ofConsts z.cells.toList with
        | none => rw [hoc] at h; simp at h
        | some c0 => rw [hoc] at h; simp at h; subst h; exact (All2O.ofConsts (e := e) hoc).fixCs
      · simp at h
    · simp at h
  · simp at h

theorem zeroValue_run {P : Program} {w : World} {t : TypeId} {i : TypeInfo} {z : Value} (hi : P.info? t = some i) (hz : i.zero = some z) : (zeroValue t).run P w = .ok z w := by
  simp [zeroValue, typeInfo, hi, hz]

/-! ### Cells written side by side -/

theorem foldl_set (off : Nat) : ∀ (vs : List Value) (k : Nat) (cs : Array Value), off + k + vs.length ≤ cs.size →
    ((vs.zipIdx k).foldl (fun (cs : Array Value) (p : Value × Nat) => cs.setIfInBounds (off + p.2) p.1) cs).toList = cs.toList.take (off + k) ++ (vs ++ cs.toList.drop (off + k + vs.length))
  | [], k, cs, h => by simp
  | v :: vs, k, cs, h => by
    simp only [List.zipIdx_cons, List.foldl_cons]
    rw [foldl_set off vs (k + 1) _ (by simp at h ⊢; omega)]
    simp only [Array.toList_setIfInBounds, List.length_cons]
    have hk : off + k < cs.toList.length := by simp at h ⊢; omega
    rw [show off + (k + 1) = off + k + 1 by omega, show off + k + 1 + vs.length = off + k + (vs.length + 1) by omega]
    rw [List.drop_set_of_lt (by omega)]
    rw [List.take_add_one, List.take_set_of_le (by omega)]
    simp [List.getElem?_set, hk, show off + k < cs.size by simpa using hk]

def setRangeV (cs : List Value) (off : Nat) (vs : List Value) : List Value := cs.take off ++ (vs ++ cs.drop (off + vs.length))

theorem fold_cells (off : Nat) (v : Value) (cs : Array Value) (h : off + v.cells.size ≤ cs.size) :
    (v.cells.zipIdx.foldl (fun cs (c, j) => cs.setIfInBounds (off + j) c) cs).toList = setRangeV cs.toList off v.cells.toList := by
  have := foldl_set off v.cells.toList 0 cs (by simpa using h)
  rw [← Array.foldl_toList, Array.toList_zipIdx]
  simpa [setRangeV] using this

theorem All2O.setRange {R : AV → Value → List Nat → Prop} {cs : List AV} {vs : List Value} {B : List Nat} {as : List AV} {us : List Value} {D : List Nat} {off : Nat} (h : All2O R cs vs B) (h' : All2O R as us D)
    (hl : off + as.length ≤ cs.length) : ∃ B' C, All2O R (Go.AI.setRange cs off as) (setRangeV vs off us) B' ∧ (B' ++ C).Perm (B ++ D) := by
  obtain ⟨B1, B2, h1, h2, rfl⟩ := h.drop off (by omega)
  obtain ⟨C1, C2, h3, h4, rfl⟩ := h2.drop as.length (by simp; omega)
  have hul : us.length = as.length := h'.length.symm
  refine ⟨B1 ++ (D ++ C2), C1, ?_, ?_⟩
  · unfold Go.AI.setRange setRangeV
    refine h1.append (h'.append ?_)
    rw [hul]
    simpa [List.drop_drop, Nat.add_comm] using h4
  · simp only [List.append_assoc]
    refine List.Perm.append_left B1 ?_
    have : (D ++ (C2 ++ C1)).Perm ((C2 ++ C1) ++ D) := List.perm_append_comm
    refine this.trans ?_
    rw [← List.append_assoc]
    exact List.Perm.append_right _ List.perm_append_comm

theorem AR1.cells {e : Env} {a : AV} {v : Value} {B : List Nat} (h : AR1 e a v B) (hp : plain a = true) : All2O (AC e) a.cells v.cells.toList B := by
  cases a
  case agg cs => obtain ⟨vs, rfl, h⟩ := h; exact h
  case osl sz xs =>
    have hv : v.cells = #[v] := by
      rcases (show AC e (.osl sz xs) v B from h) with ⟨h1, _⟩ | ⟨_, _, h1, _⟩ <;> rw [h1] <;> rfl
    rw [hv]
    simpa [AV.cells] using All2O.cons (show AC e (.osl sz xs) v B from h) All2O.nil
  all_goals
    first
      | (simp [plain, plainC] at hp; done)
      | (have h1 := AR1.to_AC h (by simp)
         have hv : v.cells = #[v] := by
           simp only [AC] at h1
           first
             | (obtain ⟨hc, _⟩ := h1; cases hc <;> rfl)
             | (obtain ⟨⟨_, _, _, rfl⟩, _⟩ := h1; rfl)
             | (rcases h1 with ⟨rfl, _⟩ | ⟨_, _, rfl, _⟩ <;> rfl)
             | (obtain ⟨_, _, rfl, _⟩ := h1; rfl)
             | (obtain ⟨_, rfl, _⟩ := h1; rfl)
             | (obtain ⟨rfl, _⟩ := h1; rfl)
         rw [hv]
         simpa [AV.cells] using All2O.cons h1 All2O.nil)

theorem fill_sound {e : Env} {tm : Array Value} {place : Nat → Option (Nat × Nat)} : ∀ {is : List Nat} {as : List AV} {us : List Value} {cells : List AV} {vs : Array Value} {B D : List Nat} {out : List AV},
    All2O (AC e) cells vs.toList B → All2O (AR e tm) as us D → fillA place cells (is.zip as) = some out →
    ∃ vs' B' C, Instr.fill place vs (is.zip us) = some vs' ∧ All2O (AC e) out vs'.toList B' ∧ (B' ++ C).Perm (B ++ D)
  | [], as, us, cells, vs, B, D, out, hc, ha, h => by
    simp [fillA] at h; subst h
    exact ⟨vs, B, D, by simp [Instr.fill], hc, .rfl⟩
  | i :: is, _, _, cells, vs, B, _, out, hc, .nil, h => by
    simp [fillA] at h; subst h
    exact ⟨vs, B, [], by simp [Instr.fill], hc, .rfl⟩
  | i :: is, _, _, cells, vs, B, _, out, hc, .cons (a := a) (v := v) (B1 := B1) (B2 := B2) ha hr, h => by
    simp only [List.zip_cons_cons, fillA] at h
    split at h
    · simp at h
    · rename_i off size hp
      split at h
      · rename_i hcond
        obtain ⟨h1, h2, h3⟩ := hcond
        have hcs := (AR.to_AR1 ha h3).cells h3
        have hvl : v.cells.size = size := by rw [← h1, hcs.length]; simp
        have hlen : cells.length = vs.size := by rw [hc.length]; simp
        obtain ⟨B', C, h5, h6⟩ := hc.setRange hcs (off := off) (by omega)
        rw [← fold_cells off v vs (by omega)] at h5
        obtain ⟨vs', B'', C', h7, h8, h9⟩ := fill_sound h5 hr h
        refine ⟨vs', B'', C' ++ C, ?_, h8, ?_⟩
        · simp only [List.zip_cons_cons, Instr.fill, hp]
          rw [if_neg (by simp; omega)]
          exact h7
        · rw [← List.append_assoc]
          refine (List.Perm.append_right C h9).trans ?_
          rw [List.append_assoc]
          refine (List.Perm.append_left B' List.perm_append_comm).trans ?_
          rw [← List.append_assoc, ← List.append_assoc]
          exact List.Perm.append_right B2 h6
      · simp at h

theorem places_run {P : Program} {w : World} : ∀ (fs : List Field), fs.all (fun f => tyOK P f.type) = true →
    (fs.mapM fun f => (do pure (f.offset, ← Go.sizeOf f.type) : Sem (Nat × Nat))).run P w = .ok (fs.map fun f => (f.offset, P.cellsOf f.type)) w
  | [], _ => rfl
  | f :: fs, h => by
    simp only [List.all_cons, Bool.and_eq_true] at h
    have ih := places_run (P := P) (w := w) fs h.2
    simp only [List.mapM_cons, Sem.run_bind, sizeOf_run h.1, Result.andThen_ok, Sem.run_pure, ih, List.map_cons]

theorem build_sound {P : Program} {w : World} {e : Env} {tm : Array Value} {t : TypeId} {is : List Nat} {as : List AV} {us : List Value} {D : List Nat} {v : AV} (ha : All2O (AR e tm) as us D)
    (h : buildA P t (is.zip as) = some v) : ∃ x B' C, (Instr.build t (is.zip us).toArray).run P w = .ok x w ∧ AR e tm v x B' ∧ (B' ++ C).Perm D := by
  unfold buildA at h
  split at h
  · rename_i z fs hz hu
    split at h
    · rename_i hall
      obtain ⟨i, zv, hi, hzv, hsz, _, hoc⟩ := zeroCells_spec hz
      have hzc := hoc e
      cases hfl : fillA (fun i => (fs[i]?).map fun f => (f.offset, P.cellsOf f.type)) z (is.zip as) with
      | none => rw [hfl] at h; simp at h
      | some out =>
        rw [hfl] at h; simp at h; subst h
        obtain ⟨vs', B', C, h1, h2, h3⟩ := fill_sound (tm := tm) hzc ha hfl
        refine ⟨.agg vs', B', C, ?_, ⟨vs', rfl, h2⟩, by simpa using h3⟩
        have hpl := places_run (P := P) (w := w) fs.toList hall
        have hplA : (fs.mapM fun f => (do pure (f.offset, ← Go.sizeOf f.type) : Sem (Nat × Nat))).run P w = .ok (fs.map fun f => (f.offset, P.cellsOf f.type)) w := by
          rw [Array.mapM_eq_mapM_toList, Sem.run_map, hpl]
          simp only [Result.andThen_ok]
          congr 1
          apply Array.ext'; simp
        have heq : (fun i : Nat => (fs.map fun (f : Field) => (f.offset, P.cellsOf f.type))[i]?) = fun i => (fs[i]?).map fun (f : Field) => (f.offset, P.cellsOf f.type) := by funext i; simp
        simp only [Instr.build, Sem.run_bind, zeroValue_run hi hzv, Result.andThen_ok, run_underlying hu, hplA, heq, h1, Sem.run_pure]
    · simp at h
  · rename_i z n el hz hu
    cases hok : tyOK P el with
    | false => rw [hok] at h; simp at h
    | true =>
      rw [hok, cond_true] at h
      obtain ⟨i, zv, hi, hzv, hsz, _, hoc⟩ := zeroCells_spec hz
      have hzc := hoc e
      cases hfl : fillA (fun i => some (i * P.cellsOf el, P.cellsOf el)) z (is.zip as) with
      | none => rw [hfl] at h; simp at h
      | some out =>
        rw [hfl] at h; simp at h; subst h
        obtain ⟨vs', B', C, h1, h2, h3⟩ := fill_sound (tm := tm) hzc ha hfl
        refine ⟨.agg vs', B', C, ?_, ⟨vs', rfl, h2⟩, by simpa using h3⟩
        simp only [Instr.build, Sem.run_bind, zeroValue_run hi hzv, Result.andThen_ok, run_underlying hu, sizeOf_run hok, h1, Sem.run_pure]
  · simp at h

end Go.AI

/- Slices made, appended to, converted. -/
namespace Go.AI
set_option linter.unusedVariables false
set_option linter.unusedSimpArgs false

theorem CR.of_toD0 {e : Env} {a : AV} {v : Value} {B : List Nat} {x : DV} (h : AC e a v B) (hx : toD0 a = some x) : CR e.Φ x v := by
  cases a <;> simp only [toD0] at hx <;> try (simp at hx; done)
  · obtain rfl := Option.some.inj hx; exact h.1
  · obtain rfl := Option.some.inj hx
    rcases h with ⟨rfl, rfl, _⟩ | ⟨a, cap, rfl, _, hs, hc, _⟩
    · exact .nil _
    · exact .of_SlR hs hc

theorem All2.of_toDs {e : Env} : ∀ {cs : List AV} {vs : List Value} {B : List Nat} {ds : List DV}, All2O (AC e) cs vs B → toDs cs = some ds → All2 (CR e.Φ) ds vs
  | [], _, _, _, .nil, h => by simp [toDs] at h; subst h; exact .nil
  | a :: cs, _, _, _, .cons ha hr, h => by
    simp only [toDs] at h
    split at h
    · rename_i x xs h1 h2
      obtain rfl := Option.some.inj h
      exact .cons (CR.of_toD0 ha h1) (All2.of_toDs hr h2)
    · simp at h

/-- A value's cells, as data. -/
theorem All2.of_toDV1 {e : Env} {tm : Array Value} {a : AV} {v : Value} {B : List Nat} {x : DV} (h : AR e tm a v B) (hx : toDV1 a = some x) : All2 (CR e.Φ) x.cells v.cells.toList := by
  cases a
  case agg cs =>
    obtain ⟨vs, rfl, h⟩ := h
    simp only [toDV1] at hx
    cases hd : toDs cs with
    | none => rw [hd] at hx; simp at hx
    | some ds => rw [hd] at hx; simp at hx; subst hx; exact All2.of_toDs h hd
  case d y =>
    simp only [toDV1, toD0] at hx; obtain rfl := Option.some.inj hx
    obtain ⟨hc, _⟩ := h
    rw [hc.not_agg, show v.cells = #[v] by cases hc <;> rfl]
    exact .cons hc .nil
  case osl sz xs =>
    have hc := CR.of_toD0 (show AC e (.osl sz xs) v B from h) hx
    simp only [toDV1, toD0] at hx; obtain rfl := Option.some.inj hx
    rw [hc.not_agg, show v.cells = #[v] by cases hc <;> rfl]
    exact .cons hc .nil
  all_goals (simp [toDV1, toD0] at hx; done)

theorem flat_replicate_get {z : DV} {sz : Nat} (hz : z.cells.length = sz) (n o : Nat) (ho : o < n * sz) : (flat (List.replicate n z))[o]? = z.cells[o % sz]? := by
  have hpos : 0 < sz := by rcases Nat.eq_zero_or_pos sz with h | h; · subst h; simp at ho
                           · exact h
  have hi : o / sz < n := (Nat.div_lt_iff_lt_mul hpos).2 ho
  have hr : o % sz < z.cells.length := by rw [hz]; exact Nat.mod_lt _ hpos
  have := flat_get (sz := sz) (xs := List.replicate n z) (i := o / sz) (j := o % sz) (x := z) (c := z.cells[o % sz]) (by intro x hx; rw [List.eq_of_mem_replicate hx]; exact hz) (by simp [hi]) (by simp [hr])
  rw [Nat.mul_comm, Nat.div_add_mod] at this
  rw [this]; simp [hr]

theorem zeroDV_spec {P : Program} {t : TypeId} {z : DV} (h : zeroDV P t = some z) : ∃ i zv, P.info? t = some i ∧ i.zero = some zv ∧ zv.cells.size = i.size ∧ P.cellsOf t = i.size ∧ z.cells.length = i.size ∧
    ∀ Φ, All2 (CR Φ) z.cells zv.cells.toList := by
  unfold zeroDV at h
  split at h
  · rename_i cs hz
    obtain ⟨i, zv, hi, hzv, hs, hc, hoc⟩ := zeroCells_spec hz
    split at h
    · rename_i ds hds
      have hall : ∀ Φ, All2 (CR Φ) ds zv.cells.toList := fun Φ => All2.of_toDs (e := ⟨Φ, #[], []⟩) (hoc _) hds
      have hcells : z.cells = ds := by
        cases hag : isAggB P t with
        | true => rw [hag, cond_true] at h; obtain rfl := Option.some.inj h; rfl
        | false =>
          rw [hag, cond_false] at h
          split at h
          · rename_i x
            obtain rfl := Option.some.inj h
            obtain ⟨b, _, hx⟩ := (hall (fun _ _ => none)).get 0 rfl
            exact hx.not_agg
          · simp at h
      refine ⟨i, zv, hi, hzv, hs, hc, ?_, fun Φ => by rw [hcells]; exact hall Φ⟩
      rw [hcells, (hall fun _ _ => none).length, ← hs]; simp
    · simp at h
  · simp at h

/-- 'n' zeros side by side. -/
theorem zeros_flat {Φ : Mem} {z : DV} {zv : Value} {sz : Nat} (hz : z.cells.length = sz) (hs : zv.cells.size = sz) (h : All2 (CR Φ) z.cells zv.cells.toList) (n : Nat) :
    All2 (CR Φ) (flat (List.replicate n z)) (((Array.range (n * sz)).map (zv.cells[· % zv.cells.size]!)).toList) := by
  have hl : (flat (List.replicate n z)).length = n * sz := by rw [flat_length (sz := sz) (by intro x hx; rw [List.eq_of_mem_replicate hx]; exact hz)]; simp
  refine All2.of_get (by simp [hl]) fun o c v hc hv => ?_
  have ho : o < n * sz := by rw [← hl]; exact (List.getElem?_eq_some_iff.1 hc).1
  rw [flat_replicate_get hz n o ho] at hc
  obtain ⟨u, h1, h2⟩ := h.get _ hc
  have hpos : 0 < sz := by rcases Nat.eq_zero_or_pos sz with h | h; · subst h; simp at ho
                           · exact h
  have hlt : o % sz < zv.cells.size := by rw [hs]; exact Nat.mod_lt _ hpos
  simp [ho, hs] at hv
  have : u = v := by
    rw [← hv]
    have := (List.getElem?_eq_some_iff.1 h1).2
    rw [← this]
    simp [hlt]
  rw [← this]; exact h2

theorem flat_set {sz : Nat} : ∀ {xs : List DV} {i : Nat} {v : DV}, (∀ x ∈ xs, x.cells.length = sz) → v.cells.length = sz → i < xs.length →
    flat (xs.set i v) = (flat xs).take (i * sz) ++ (v.cells ++ (flat xs).drop (i * sz + v.cells.length))
  | [], i, v, _, _, h => by simp at h
  | x :: xs, 0, v, hx, hv, _ => by
    have h1 := hx x (by simp)
    simp only [List.set_cons_zero, flat_cons, Nat.zero_mul, List.take_zero, List.nil_append, Nat.zero_add, hv]
    rw [← h1, List.drop_left]
  | x :: xs, i + 1, v, hx, hv, hi => by
    have h1 := hx x (by simp)
    have ih := flat_set (sz := sz) (xs := xs) (i := i) (v := v) (fun y hy => hx y (List.mem_cons_of_mem _ hy)) hv (by simpa using hi)
    simp only [List.set_cons_succ, flat_cons, ih]
    have e1 : (x.cells ++ flat xs).take ((i + 1) * sz) = x.cells ++ (flat xs).take (i * sz) := by
      rw [List.take_append, h1, Nat.add_mul, Nat.one_mul, show i * sz + sz - sz = i * sz by omega, List.take_of_length_le (by omega)]
    have e2 : (x.cells ++ flat xs).drop ((i + 1) * sz + v.cells.length) = (flat xs).drop (i * sz + v.cells.length) := by
      rw [List.drop_append, h1, Nat.add_mul, Nat.one_mul, List.drop_of_length_le (by omega), List.nil_append]
      congr 1; omega
    rw [e1, e2, List.append_assoc]

theorem All2.setRange {R : DV → Value → Prop} {xs : List DV} {vs : List Value} {as : List DV} {us : List Value} {off : Nat} (h : All2 R xs vs) (h' : All2 R as us) (hl : off + as.length ≤ xs.length) :
    All2 R (xs.take off ++ (as ++ xs.drop (off + as.length))) (setRangeV vs off us) := by
  unfold setRangeV
  have hlen := h.length
  have hul := h'.length
  have take : ∀ n, All2 R (xs.take n) (vs.take n) := fun n => All2.of_get (by simp; omega) fun i a b ha hb => by
    rw [List.getElem?_take] at ha hb
    split at ha
    · rename_i hi
      rw [if_pos hi] at hb
      obtain ⟨b', h1, h2⟩ := h.get i ha
      rw [h1] at hb; obtain rfl := Option.some.inj hb; exact h2
    · simp at ha
  have drop : ∀ n, All2 R (xs.drop n) (vs.drop n) := fun n => All2.of_get (by simp; omega) fun i a b ha hb => by
    rw [List.getElem?_drop] at ha hb
    obtain ⟨b', h1, h2⟩ := h.get _ ha
    rw [h1] at hb; obtain rfl := Option.some.inj hb; exact h2
  rw [← hul]
  exact (take off).append (h'.append (drop _))

theorem fillD_sound {e : Env} {tm : Array Value} {sz : Nat} (hpos : 0 < sz) : ∀ {is : List Nat} {as : List AV} {us : List Value} {xs ys : List DV} {vs : Array Value} {ps : List (Nat × DV)},
    All2 (CR e.Φ) (flat xs) vs.toList → (∀ x ∈ xs, x.cells.length = sz) → All2 (fun a v => AR e tm a v []) as us → dparts (is.zip as) = some ps → ps.all (fun p => p.2.cells.length == sz) = true → fillD xs ps = some ys →
    ∃ vs', Instr.fill (fun i => some (i * sz, sz)) vs (is.zip us) = some vs' ∧ All2 (CR e.Φ) (flat ys) vs'.toList ∧ (∀ y ∈ ys, y.cells.length = sz) ∧ ys.length = xs.length
  | [], as, us, xs, ys, vs, ps, hf, hz, ha, hd, hall, h => by
    simp [dparts] at hd; subst hd
    simp [fillD] at h; subst h
    exact ⟨vs, by simp [Instr.fill], hf, hz, rfl⟩
  | i :: is, _, _, xs, ys, vs, ps, hf, hz, .nil, hd, hall, h => by
    simp [dparts] at hd; subst hd
    simp [fillD] at h; subst h
    exact ⟨vs, by simp [Instr.fill], hf, hz, rfl⟩
  | i :: is, _, _, xs, ys, vs, _, hf, hz, .cons (a := a) (b := u) (bs := us) ha hr, hd, hall, h => by
    simp only [List.zip_cons_cons, dparts] at hd
    split at hd
    · rename_i x ps' h1 h2
      obtain rfl := Option.some.inj hd
      simp only [List.all_cons, Bool.and_eq_true, beq_iff_eq] at hall
      simp only [fillD] at h
      split at h
      · rename_i hi
        have hc := All2.of_toDV1 ha h1
        have hul : u.cells.size = sz := by have := hc.length; rw [hall.1] at this; simpa using this.symm
        have hfl : (flat xs).length = xs.length * sz := flat_length hz
        have hle : i * sz + sz ≤ xs.length * sz := by
          have : (i + 1) * sz ≤ xs.length * sz := Nat.mul_le_mul_right _ hi
          rw [Nat.add_mul] at this; omega
        have hvl : vs.size = xs.length * sz := by have := hf.length; rw [hfl] at this; simpa using this.symm
        have h3 := hf.setRange hc (off := i * sz) (by rw [hall.1, hfl]; exact hle)
        rw [← flat_set hz hall.1 hi, ← fold_cells (i * sz) u vs (by rw [hul, hvl]; exact hle)] at h3
        obtain ⟨vs', h4, h5, h6, h7⟩ := fillD_sound hpos (xs := xs.set i x) h3 (by
          intro y hy
          rcases List.mem_or_eq_of_mem_set hy with hy | rfl
          · exact hz y hy
          · exact hall.1) hr h2 hall.2 h
        refine ⟨vs', ?_, h5, h6, by rw [h7]; simp⟩
        simp only [List.zip_cons_cons, Instr.fill]
        rw [if_neg (by simp [hul, hvl]; exact hle)]
        exact h4
      · simp at h
    · simp at hd

section
variable {P : Program} {E : Ent} {w : World} {Φ : Mem} {μ BF BH : List Nat} {tm : Array Value} {fr : Fr} {H : Hp}

theorem buildSlice_sound (hF : FR ⟨Φ, w.heap, μ⟩ tm fr BF) (hH : HR ⟨Φ, w.heap, μ⟩ H μ BH) (hN : (BF ++ BH).Nodup) (hI : Inv E w Φ μ (BF ++ BH))
    {t : TypeId} {n : Nat} {is : List Nat} {as : List AV} {us : List Value} {v : AV} (ha : All2 (fun a v => AR ⟨Φ, w.heap, μ⟩ tm a v []) as us) (h : buildSliceA P t n (is.zip as) = some v) :
    ∃ x w', (Instr.buildSlice t n (is.zip us).toArray).run P w = .ok x w' ∧ VR E v fr H tm x w' := by
  unfold buildSliceA at h
  split at h
  · rename_i el hu
    split at h
    · rename_i z ps hz hd
      split at h
      · rename_i hc
        obtain ⟨hok, h24, hpos, hall⟩ := hc
        obtain ⟨i, zv, hi, hzv, hzs, hcs, hzl, hzr⟩ := zeroDV_spec hz
        rw [hcs] at h24 hpos hall h
        have hall' : ps.all (fun p => p.2.cells.length == i.size) = true := by
          rw [List.all_eq_true] at hall ⊢
          intro p hp
          have := hall p hp
          simp only [Bool.and_eq_true] at this
          exact this.1
        cases hfd : fillD (List.replicate n z) ps with
        | none => rw [hfd] at h; simp at h
        | some ys =>
          rw [hfd] at h; simp at h; subst h
          have hinit := zeros_flat hzl hzs (hzr Φ) n
          obtain ⟨vs', h1, h2, h3, h4⟩ := fillD_sound (e := ⟨Φ, w.heap, μ⟩) (tm := tm) hpos (vs := (Array.range (n * i.size)).map (zv.cells[· % zv.cells.size]!)) hinit
            (by intro x hx; rw [List.eq_of_mem_replicate hx]; exact hzl) ha hd hall' hfd
          have hyl : ys.length = n := by rw [h4]; simp
          have hfy : (flat ys).length = n * i.size := by rw [flat_length h3, hyl]
          have hvl : vs'.size = n * i.size := by have := h2.length; rw [hfy] at this; simpa using this.symm
          refine ⟨.slice (some ⟨w.heap.size, 0, none⟩) n n, w.alloc (.cells vs' el), ?_, ?_⟩
          · have hmap : n * i.size = 0 → (Array.range (n * i.size)).map ((#[] : Array Value)[· % (#[] : Array Value).size]!) = (Array.range (n * i.size)).map (zv.cells[· % zv.cells.size]!) := by
              intro h0
              simp [h0]
            simp only [Instr.buildSlice, Sem.run_bind, run_underlying hu, Result.andThen_ok, sizeOf_run hok, hcs]
            rw [if_neg (by omega)]
            by_cases h0 : n * i.size = 0
            · rw [if_pos h0]
              simp only [Sem.run_bind, Sem.run_pure, Result.andThen_ok, hmap h0, h1, newRow, run_newObj, World.alloc_eq]
            · rw [if_neg h0]
              simp only [Sem.run_bind, Sem.run_pure, zeroValue_run hi hzv, Result.andThen_ok, h1, newRow, run_newObj, World.alloc_eq]
          · refine VR.push (vs := vs') (el := el) (fz := (0, 0)) hF hH hN hI rfl (fun o => vs'[o]?) (fun o v h => h) [w.heap.size] (.inr rfl) ?_
            refine .inr ⟨⟨w.heap.size, 0, none⟩, n, by rw [hyl], hpos, ?_, by omega, rfl, rfl, vs', el, by show (w.heap.push _)[w.heap.size]? = some _; simp, by simp [hvl], fun o ho => by simp [ext]; simp only [hyl, Nat.zero_add] at ho; rw [hvl]; exact ho⟩
            refine SlR.of_flat (vs := vs'.toList) h3 ?_ ?_
            · rw [hfy, List.take_of_length_le (by simp; omega)]
              exact h2.mono fun a b hab => CR.mono (sub_ext hI.wok _) hab
            · intro o v ho hv
              simp [ext]
              simpa using hv
      · simp at h
    · simp at h
  · simp at h

theorem if_some {α : Type} {c : Prop} [Decidable c] {x : Option α} {v : α} (h : (if c then x else none) = some v) : x = some v := by
  split at h
  · exact h
  · simp at h

theorem wrap_small {n : Int} (h0 : 0 ≤ n) (h1 : n ≤ 140737488355328) : IntKind.i64.wrap n = n := by
  rw [IntKind.wrap_i64]; omega

theorem makeSlice_sound (hF : FR ⟨Φ, w.heap, μ⟩ tm fr BF) (hH : HR ⟨Φ, w.heap, μ⟩ H μ BH) (hN : (BF ++ BH).Nodup) (hI : Inv E w Φ μ (BF ++ BH))
    {t : TypeId} {l c v : AV} {vl vc : Value} (hl : AR ⟨Φ, w.heap, μ⟩ tm l vl []) (hc : AR ⟨Φ, w.heap, μ⟩ tm c vc []) (h : makeSliceA P t l c = some v) :
    ∃ x w', (Instr.makeSlice t vl vc).run P w = .ok x w' ∧ VR E v fr H tm x w' := by
  unfold makeSliceA at h
  split at h
  · rename_i el kl l kc c hu
    obtain ⟨hl, _⟩ := hl
    obtain ⟨hc, _⟩ := hc
    cases hl
    cases hc
    split at h
    · rename_i i z hi hz
      split at h
      · rename_i hcnd
        obtain ⟨h0, hlc, hcm, hb, hpos⟩ := hcnd
        obtain ⟨i', zv, hi', hzv, hzs, hcs, hzl, hzr⟩ := zeroDV_spec hz
        rw [hi] at hi'; obtain rfl := Option.some.inj hi'
        obtain rfl := Option.some.inj h
        rw [hcs] at hpos ⊢
        have hwl := wrap_small h0 (by omega)
        have hwc := wrap_small (show 0 ≤ c by omega) hcm
        have hcells := zeros_flat hzl hzs (hzr Φ) c.toNat
        refine ⟨.slice (some ⟨w.heap.size, 0, none⟩) l.toNat c.toNat, w.alloc (.cells ((Array.range (c.toNat * i.size)).map (zv.cells[· % zv.cells.size]!)) el), ?_, ?_⟩
        · have hmap : c.toNat * i.size = 0 → (Array.range (c.toNat * i.size)).map ((#[] : Array Value)[· % (#[] : Array Value).size]!) = (Array.range (c.toNat * i.size)).map (zv.cells[· % zv.cells.size]!) := by
            intro h0
            simp [h0]
          have htl : ((decide (c < 0) || decide (i.bytes * c > 2 ^ 48)) || decide (l < 0) || decide (l > c)) = false := by
            simp; omega
          simp only [Instr.makeSlice, Sem.run_bind, run_underlying hu, Result.andThen_ok, asInt, asIntOf, Sem.run_pure, typeInfo, run_program, hi, hwl, hwc]
          rw [if_neg (by rw [htl]; simp)]
          simp only [Sem.run_bind, run_askRoom, Result.andThen_ok, Go.sizeOf, typeInfo, run_program, hi, Sem.run_pure]
          by_cases h0 : c.toNat * i.size = 0
          · rw [if_pos h0]
            simp only [Sem.run_bind, Sem.run_pure, Result.andThen_ok, hmap h0, newRow, run_newObj, World.alloc_eq]
          · rw [if_neg h0]
            simp only [Sem.run_bind, Sem.run_pure, zeroValue_run hi hzv, Result.andThen_ok, newRow, run_newObj, World.alloc_eq]
        · have hfl : (flat (List.replicate l.toNat z)).length = l.toNat * i.size := by rw [flat_length (sz := i.size) (by intro x hx; rw [List.eq_of_mem_replicate hx]; exact hzl)]; simp
          have hle : l.toNat * i.size ≤ c.toNat * i.size := Nat.mul_le_mul_right _ (by omega)
          refine VR.push (vs := (Array.range (c.toNat * i.size)).map (zv.cells[· % zv.cells.size]!)) (el := el) (fz := (0, 0)) hF hH hN hI rfl
            (fun o => if o < l.toNat * i.size then ((Array.range (c.toNat * i.size)).map (zv.cells[· % zv.cells.size]!))[o]? else none) (fun o v h => if_some h) [w.heap.size] (.inr rfl) ?_
          refine .inr ⟨⟨w.heap.size, 0, none⟩, c.toNat, by simp, hpos, ?_, by simp; omega, ⟨rfl, rfl, (Array.range (c.toNat * i.size)).map (zv.cells[· % zv.cells.size]!), el, ?_, by simp, ?_⟩⟩
          · refine SlR.of_flat (vs := ((Array.range (c.toNat * i.size)).map (zv.cells[· % zv.cells.size]!)).toList) (by intro x hx; rw [List.eq_of_mem_replicate hx]; exact hzl) ?_ ?_
            · rw [hfl]
              have hl0 := zeros_flat hzl hzs (hzr Φ) l.toNat
              have : (((Array.range (c.toNat * i.size)).map (zv.cells[· % zv.cells.size]!)).toList).take (l.toNat * i.size) = ((Array.range (l.toNat * i.size)).map (zv.cells[· % zv.cells.size]!)).toList := by
                simp [List.take_range, Nat.min_eq_left hle, ← List.map_take]
              rw [this]
              exact hl0.mono fun a b hab => CR.mono (sub_ext hI.wok _) hab
            · intro o v ho hv
              rw [hfl] at ho
              simp only [ext, if_true, if_pos ho]
              rw [Array.getElem?_toList] at hv; exact hv
          · show (w.heap.push _)[w.heap.size]? = _; simp
          · intro o ho
            simp [ext] at ho ⊢
            omega
      · simp at h
    · simp at h
  · simp at h

theorem cells_at {e : Env} {heap : Array Obj} (hw : WOK e.Φ w.heap) {sz : Nat} {xs : List DV} {a : Addr} (h : SlR e.Φ sz xs a) :
    ∃ vs : List Value, All2 (CR e.Φ) (flat xs) vs ∧ vs.length = xs.length * sz ∧ (∀ (j : Nat) (v : Value), vs[j]? = some v → e.Φ a.block (a.off + j) = some v) ∧ ∀ (j : Nat) (v : Value), vs[j]? = some v → w.cell? (a.add j) = some v := by
  have hz : ∀ x ∈ xs, x.cells.length = sz := fun x hx => by
    obtain ⟨i, hi⟩ := List.getElem?_of_mem hx
    exact (h.2 i x hi).1
  have hfl := flat_length hz
  have key : ∀ j, j < (flat xs).length → ∃ c v, (flat xs)[j]? = some c ∧ e.Φ a.block (a.off + j) = some v ∧ CR e.Φ c v := by
    intro j hj
    rw [hfl] at hj
    have hpos : 0 < sz := by rcases Nat.eq_zero_or_pos sz with h | h; · subst h; simp at hj
                             · exact h
    have hi : j / sz < xs.length := (Nat.div_lt_iff_lt_mul hpos).2 hj
    obtain ⟨h1, h2⟩ := h.2 (j / sz) xs[j / sz] (by simp [hi])
    have hr : j % sz < xs[j / sz].cells.length := by rw [h1]; exact Nat.mod_lt _ hpos
    obtain ⟨v, h3, h4⟩ := h2 (j % sz) xs[j / sz].cells[j % sz] (by simp [hr])
    have hg := flat_get hz (i := j / sz) (j := j % sz) (x := xs[j / sz]) (c := xs[j / sz].cells[j % sz]) (by simp [hi]) (by simp [hr])
    have hdm : j / sz * sz + j % sz = j := by rw [Nat.mul_comm]; exact Nat.div_add_mod j sz
    rw [hdm] at hg
    rw [Nat.add_assoc, hdm] at h3
    exact ⟨_, v, hg, h3, h4⟩
  refine ⟨(List.range (flat xs).length).map fun j => (e.Φ a.block (a.off + j)).getD default, ?_, by simp [hfl], ?_, ?_⟩
  · refine All2.of_get (by simp) fun j c v hc hv => ?_
    obtain ⟨c', v', h1, h2, h3⟩ := key j (List.getElem?_eq_some_iff.1 hc).1
    rw [hc] at h1; obtain rfl := Option.some.inj h1
    have hlt := (List.getElem?_eq_some_iff.1 hc).1
    simp [hlt, h2] at hv
    subst hv; exact h3
  · intro j v hv
    have hlt : j < (flat xs).length := by have := (List.getElem?_eq_some_iff.1 hv).1; simpa using this
    obtain ⟨c', v', h1, h2, h3⟩ := key j hlt
    simp [hlt, h2] at hv
    subst hv; exact h2
  · intro j v hv
    have hlt : j < (flat xs).length := by have := (List.getElem?_eq_some_iff.1 hv).1; simpa using this
    obtain ⟨c', v', h1, h2, h3⟩ := key j hlt
    simp [hlt, h2] at hv
    subst hv
    obtain ⟨c, el, fz, h5, h6⟩ := hw _ _ _ h2
    rw [add_eq h.1]
    simp [World.cell?, h5, h6]

theorem conv_sound (hF : FR ⟨Φ, w.heap, μ⟩ tm fr BF) (hH : HR ⟨Φ, w.heap, μ⟩ H μ BH) (hN : (BF ++ BH).Nodup) (hI : Inv E w Φ μ (BF ++ BH))
    {src dst : TypeId} {x v : AV} {vx : Value} (hx : AR ⟨Φ, w.heap, μ⟩ tm x vx []) (h : convA P src dst x = some v) :
    ∃ y w', (convert src dst vx).run P w = .ok y w' ∧ VR E v fr H tm y w' := by
  unfold convA at h
  split at h
  · rename_i d k hs hd
    split at h
    · obtain rfl := Option.some.inj h
      obtain ⟨hc, _⟩ := hx
      cases hc
      refine ⟨_, w, ?_, VR.pure hF hH hN hI ⟨.int _ _, rfl⟩⟩
      simp only [convert, Sem.run_bind, run_underlying hs, run_underlying hd, Result.andThen_ok]
      cases d <;> rfl
    · simp at h
  · rename_i hs hd
    split at h
    · obtain rfl := Option.some.inj h
      obtain ⟨hc, _⟩ := hx
      cases hc with
      | str _ b hb =>
        refine ⟨_, w, ?_, VR.pure hF hH hN hI ⟨.str _ _ hb, rfl⟩⟩
        simp only [convert, Sem.run_bind, run_underlying hs, run_underlying hd, Result.andThen_ok]
        rfl
    · simp at h
  · rename_i el hs hd
    split at h
    · rename_i s he
      obtain rfl := Option.some.inj h
      obtain ⟨hc, _⟩ := hx
      cases hc with
      | str _ b hb =>
        subst hb
        refine ⟨_, _, Lib.run_convert_string_bytes w src dst el b hs hd he, ?_⟩
        have hheap : (Lib.bytesWorld w el b).heap = w.heap.push (.cells (Lib.bytesCells w el b) el ((Lib.bytesCells w el b).size, (Lib.bytesCells w el b).size + 1)) := by
          apply Array.ext_getElem?
          intro j
          rcases Nat.lt_trichotomy j w.heap.size with hj | hj | hj
          · rw [Lib.bytesWorld_at_old w el b j hj, get_push hj]
          · subst hj; rw [Lib.bytesWorld_at_new]; simp
          · rw [Array.getElem?_eq_none (by rw [Lib.bytesWorld_size]; omega), Array.getElem?_eq_none (by simp; omega)]
        have hcell : ∀ j (hj : j < b.data.toList.length), (Lib.bytesCells w el b)[j]? = some (.int .u8 (b.data.toList[j]).toNat) := by
          intro j hj
          have hj' : j < b.data.size := by simpa using hj
          have hj2 : j < b.size := hj'
          simp [Lib.bytesCells, Array.getElem?_append, hj', hj2]
        refine VR.push hF hH hN hI hheap (fun o => if o < b.data.toList.length then (Lib.bytesCells w el b)[o]? else none) (fun o v h => if_some h) [] (.inl rfl) ?_
        refine ⟨?_, rfl⟩
        have hlen : (ofBytes b.data.toList).length = b.size := by rw [size_data]; simp only [ofBytes, List.length_map]
        rw [← hlen]
        refine CR.of_SlR (a := ⟨w.heap.size, 0, none⟩) ⟨rfl, fun i x hx => ?_⟩ (by rw [hlen]; exact grownCap_ge w b.size 0 el)
        simp only [ofBytes, List.getElem?_map] at hx
        cases hg : b.data.toList[i]? with
        | none => rw [hg] at hx; simp at hx
        | some c =>
          rw [hg] at hx; simp at hx; subst hx
          refine ⟨rfl, fun j c' hj => ?_⟩
          cases j with
          | succ j => simp [DV.cells] at hj
          | zero =>
            simp [DV.cells] at hj; subst hj
            obtain ⟨hlt, hgc⟩ := List.getElem?_eq_some_iff.1 hg
            refine ⟨_, ?_, .int _ _⟩
            simp only [ext, if_true, Nat.zero_add, Nat.mul_one, Nat.add_zero, if_pos hlt, hcell i hlt, hgc]
    · simp at h
  · rename_i el hs hd
    split at h
    · rename_i sz xs he hel
      have hcr := elems_sound hx hel
      cases hb : bytesOf xs with
      | none => rw [hb] at h; simp at h
      | some s =>
        rw [hb] at h; simp at h; subst h
        rcases hcr.sl_inv with ⟨rfl, rfl⟩ | ⟨ad, cap, rfl, hcap, hsl⟩
        · simp [bytesOf] at hb; subst hb
          exact ⟨.string .empty, w, by rw [run_convert_bytes_string w src dst el none 0 0 hs he hd]; rfl, VR.pure hF hH hN hI ⟨.str _ _ rfl, rfl⟩⟩
        · obtain ⟨vs, h1, h2, h3, h4⟩ := cells_at (e := ⟨Φ, w.heap, μ⟩) (heap := w.heap) hI.wok hsl
          have hform : ∀ (xs : List DV) (s : List UInt8) (vs : List Value), bytesOf xs = some s → All2 (CR Φ) (flat xs) vs → ∃ ns : List Int, vs = ns.map (Value.int .u8) ∧ ns.length = xs.length ∧ s = ns.map fun n => UInt8.ofNat n.toNat := by
            intro xs
            induction xs with
            | nil => intro s vs hb hv; simp [bytesOf] at hb; subst hb; cases hv; exact ⟨[], rfl, rfl, rfl⟩
            | cons x xs ih =>
              intro s vs hb hv
              cases x with
              | int k n =>
                cases k <;> simp only [bytesOf] at hb <;> try (simp at hb; done)
                cases hb' : bytesOf xs with
                | none => rw [hb'] at hb; simp at hb
                | some s' =>
                  rw [hb'] at hb; simp at hb; subst hb
                  rw [flat_cons] at hv
                  cases hv with
                  | cons hc hr =>
                    cases hc
                    obtain ⟨ns, rfl, hl, rfl⟩ := ih _ _ hb' hr
                    exact ⟨n :: ns, rfl, by simp [hl], rfl⟩
              | _ => simp [bytesOf] at hb
          obtain ⟨ns, rfl, hl, rfl⟩ := hform _ _ _ hb h1
          have hload := run_loadCells_list (P := P) w ad (ns.map (Value.int .u8)) h4
          rw [List.length_map, hl] at hload
          refine ⟨_, w, by rw [run_convert_bytes_string w src dst el (some ad) _ _ hs he hd, run_bytesToString w ad _ _ ns hload], VR.pure hF hH hN hI ⟨.str _ _ ?_, rfl⟩⟩
          have : ∀ (ns : List Int) (b : ByteArray), (ns.foldl (fun r n => r.push (UInt8.ofNat n.toNat)) b).data.toList = b.data.toList ++ ns.map fun n => UInt8.ofNat n.toNat := by
            intro ns
            induction ns with
            | nil => intro b; simp
            | cons n ns ih => intro b; simp [ih]
          simpa using this ns ByteArray.empty
    · simp at h
  · simp at h

end

end Go.AI
