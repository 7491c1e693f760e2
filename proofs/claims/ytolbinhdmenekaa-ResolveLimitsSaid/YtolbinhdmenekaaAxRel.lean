/- What the interpreter's values say of the machine's, and how that is kept when the world changes. -/
import Derived.Test.YtolbinhdmenekaaAxCore
import Derived.Laws.Sem
import Derived.Laws.World
namespace Go.AI
set_option linter.unusedVariables false

inductive All2 {α β : Type} (R : α → β → Prop) : List α → List β → Prop
  | nil : All2 R [] []
  | cons {a b as bs} : R a b → All2 R as bs → All2 R (a :: as) (b :: bs)

theorem All2.length {α β : Type} {R : α → β → Prop} {as : List α} {bs : List β} (h : All2 R as bs) : as.length = bs.length := by
  induction h with
  | nil => rfl
  | cons _ _ ih => simp [ih]

theorem All2.mono {α β : Type} {R R' : α → β → Prop} (hr : ∀ a b, R a b → R' a b) {as : List α} {bs : List β} (h : All2 R as bs) : All2 R' as bs := by
  induction h with
  | nil => exact .nil
  | cons h _ ih => exact .cons (hr _ _ h) ih

theorem All2.get {α β : Type} {R : α → β → Prop} {as : List α} {bs : List β} (h : All2 R as bs) (i : Nat) {a : α} (ha : as[i]? = some a) : ∃ b, bs[i]? = some b ∧ R a b := by
  induction h generalizing i with
  | nil => simp at ha
  | cons h _ ih =>
    cases i with
    | zero => simp at ha; subst ha; exact ⟨_, rfl, h⟩
    | succ i => simpa using ih i (by simpa using ha)

theorem All2.of_get {α β : Type} {R : α → β → Prop} : ∀ {as : List α} {bs : List β}, as.length = bs.length → (∀ (i : Nat) (a : α) (b : β), as[i]? = some a → bs[i]? = some b → R a b) → All2 R as bs
  | [], [], _, _ => .nil
  | a :: as, b :: bs, hl, h => .cons (h 0 a b rfl rfl) (All2.of_get (by simpa using hl) fun i x y hx hy => h (i + 1) x y (by simpa using hx) (by simpa using hy))
  | [], _ :: _, hl, _ => by simp at hl
  | _ :: _, [], hl, _ => by simp at hl

theorem All2.append {α β : Type} {R : α → β → Prop} {as cs : List α} {bs ds : List β} (h : All2 R as bs) (h' : All2 R cs ds) : All2 R (as ++ cs) (bs ++ ds) := by
  induction h with
  | nil => exact h'
  | cons h _ ih => exact .cons h ih

abbrev Mem := Nat → Nat → Option Value

inductive CR (Φ : Mem) : DV → Value → Prop
  | bool (b : Bool) : CR Φ (.bool b) (.bool b)
  | int (k : IntKind) (n : Int) : CR Φ (.int k n) (.int k n)
  | str (s : List UInt8) (b : ByteArray) (h : b.data.toList = s) : CR Φ (.str s) (.string b)
  | nilI : CR Φ .nilI .nilIface
  | nil (sz : Nat) : CR Φ (.sl sz []) (.slice none 0 0)
  | sl (sz : Nat) (xs : List DV) (a : Addr) (cap : Nat) (f : Nat → Nat → Value) (hs : a.spot = none) (hc : xs.length ≤ cap)
      (hz : ∀ (i : Nat) (x : DV), xs[i]? = some x → x.cells.length = sz)
      (hm : ∀ (i : Nat) (x : DV) (j : Nat) (c : DV), xs[i]? = some x → x.cells[j]? = some c → Φ a.block (a.off + i * sz + j) = some (f i j))
      (hr : ∀ (i : Nat) (x : DV) (j : Nat) (c : DV), xs[i]? = some x → x.cells[j]? = some c → CR Φ c (f i j)) : CR Φ (.sl sz xs) (.slice (some a) xs.length cap)

def Sub (Φ Φ' : Mem) : Prop := ∀ r o v, Φ r o = some v → Φ' r o = some v
theorem Sub.refl (Φ : Mem) : Sub Φ Φ := fun _ _ _ h => h
theorem Sub.trans {a b c : Mem} (h : Sub a b) (h' : Sub b c) : Sub a c := fun r o v hv => h' r o v (h r o v hv)

theorem CR.mono {Φ Φ' : Mem} (hs : Sub Φ Φ') {x : DV} {v : Value} (h : CR Φ x v) : CR Φ' x v := by
  induction h with
  | bool b => exact .bool b
  | int k n => exact .int k n
  | str s b h => exact .str s b h
  | nilI => exact .nilI
  | nil sz => exact .nil sz
  | sl sz xs a cap f hs' hc hz hm _ ih => exact .sl sz xs a cap f hs' hc hz (fun i x j c hx hj => hs _ _ _ (hm i x j c hx hj)) ih

/-- The elements lie at 'a'. -/
def SlR (Φ : Mem) (sz : Nat) (xs : List DV) (a : Addr) : Prop :=
  a.spot = none ∧ ∀ (i : Nat) (x : DV), xs[i]? = some x → x.cells.length = sz ∧ ∀ (j : Nat) (c : DV), x.cells[j]? = some c → ∃ v, Φ a.block (a.off + i * sz + j) = some v ∧ CR Φ c v

theorem SlR.mono {Φ Φ' : Mem} (hs : Sub Φ Φ') {sz : Nat} {xs : List DV} {a : Addr} (h : SlR Φ sz xs a) : SlR Φ' sz xs a :=
  ⟨h.1, fun i x hx => ⟨(h.2 i x hx).1, fun j c hj => let ⟨v, h1, h2⟩ := (h.2 i x hx).2 j c hj; ⟨v, hs _ _ _ h1, h2.mono hs⟩⟩⟩

theorem CR.of_SlR {Φ : Mem} {sz : Nat} {xs : List DV} {a : Addr} {cap : Nat} (h : SlR Φ sz xs a) (hc : xs.length ≤ cap) : CR Φ (.sl sz xs) (.slice (some a) xs.length cap) := by
  obtain ⟨hs, h⟩ := h
  refine .sl sz xs a cap (fun i j => (Φ a.block (a.off + i * sz + j)).getD default) hs hc (fun i x hx => (h i x hx).1) ?_ ?_
  · intro i x j c hx hj
    obtain ⟨v, h1, _⟩ := (h i x hx).2 j c hj
    simp [h1]
  · intro i x j c hx hj
    obtain ⟨v, h1, h2⟩ := (h i x hx).2 j c hj
    simpa [h1] using h2

theorem CR.sl_inv {Φ : Mem} {sz : Nat} {xs : List DV} {v : Value} (h : CR Φ (.sl sz xs) v) :
    (v = .slice none 0 0 ∧ xs = []) ∨ ∃ a cap, v = .slice (some a) xs.length cap ∧ xs.length ≤ cap ∧ SlR Φ sz xs a := by
  cases h with
  | nil => exact .inl ⟨rfl, rfl⟩
  | sl _ _ a cap f hs hc hz hm hr => exact .inr ⟨a, cap, rfl, hc, hs, fun i x hx => ⟨hz i x hx, fun j c hj => ⟨_, hm i x j c hx hj, hr i x j c hx hj⟩⟩⟩

/-- A value lies at 'a'. -/
def PtR (Φ : Mem) (x : DV) (a : Addr) : Prop :=
  a.spot = none ∧ ∀ (j : Nat) (c : DV), x.cells[j]? = some c → ∃ v, Φ a.block (a.off + j) = some v ∧ CR Φ c v

theorem PtR.mono {Φ Φ' : Mem} (hs : Sub Φ Φ') {x : DV} {a : Addr} (h : PtR Φ x a) : PtR Φ' x a :=
  ⟨h.1, fun j c hj => let ⟨v, h1, h2⟩ := h.2 j c hj; ⟨v, hs _ _ _ h1, h2.mono hs⟩⟩

structure Env where
  Φ : Mem
  heap : Array Obj
  μ : List Nat

/-- Room behind the elements that belongs to one slice alone. -/
def Tip (e : Env) (a : Addr) (sz n cap : Nat) : Prop :=
  ∃ c el, e.heap[a.block]? = some (.cells c el (0, 0)) ∧ a.off + cap * sz ≤ c.size ∧ ∀ o, a.off + n * sz ≤ o → e.Φ a.block o = none

def AC (e : Env) : AV → Value → List Nat → Prop
  | .d x, v, B => CR e.Φ x v ∧ B = []
  | .osl sz xs, v, B => (v = .slice none 0 0 ∧ xs = [] ∧ B = []) ∨
      ∃ a cap, v = .slice (some a) xs.length cap ∧ 0 < sz ∧ SlR e.Φ sz xs a ∧ xs.length ≤ cap ∧ ((cap = xs.length ∧ B = []) ∨ (B = [a.block] ∧ a.off = 0 ∧ Tip e a sz xs.length cap))
  | .hp b off, v, B => ∃ r, e.μ[b]? = some r ∧ v = .pointer (some ⟨r, off, none⟩) ∧ B = []
  | .vp x, v, B => ∃ a, v = .pointer (some a) ∧ PtR e.Φ x a ∧ B = []
  | .fn f, v, B => v = .func (.func f) #[] #[] ∧ B = []
  | .nilp, v, B => v = .pointer none ∧ B = []
  | .nilf, v, B => v = .nilFunc ∧ B = []
  | .nilm, v, B => v = .map none ∧ B = []
  | .mp b, v, B => ∃ r, e.μ[b]? = some r ∧ v = .map (some r) ∧ B = []
  | .zsl ik xs k, v, B => ∃ g cap, v = .slice (some ⟨g, 0, none⟩) (xs.length + k) cap ∧ SlR e.Φ 1 xs ⟨g, 0, none⟩ ∧ xs.length + k ≤ cap ∧ B = [g] ∧
      ∃ c el, e.heap[g]? = some (.cells c el (0, 0)) ∧ cap ≤ c.size ∧ (∀ o, xs.length ≤ o → e.Φ g o = none) ∧ ∀ o, xs.length ≤ o → o < xs.length + k → c[o]? = some (.int ik 0)
  | .sref, v, B => (∃ a n cap, v = .slice a n cap) ∧ B = []
  | _, _, _ => False

inductive All2O (R : AV → Value → List Nat → Prop) : List AV → List Value → List Nat → Prop
  | nil : All2O R [] [] []
  | cons {a v B1 as vs B2} : R a v B1 → All2O R as vs B2 → All2O R (a :: as) (v :: vs) (B1 ++ B2)

theorem All2O.length {R : AV → Value → List Nat → Prop} {as : List AV} {vs : List Value} {B : List Nat} (h : All2O R as vs B) : as.length = vs.length := by
  induction h with
  | nil => rfl
  | cons _ _ ih => simp [ih]

theorem All2O.mono {R R' : AV → Value → List Nat → Prop} {as : List AV} {vs : List Value} {B : List Nat} (h : All2O R as vs B)
    (hr : ∀ a v C, (∀ r ∈ C, r ∈ B) → R a v C → R' a v C) : All2O R' as vs B := by
  induction h with
  | nil => exact .nil
  | cons h _ ih => exact .cons (hr _ _ _ (fun r hr => List.mem_append_left _ hr) h) (ih fun a v C hC h => hr a v C (fun r hr => List.mem_append_right _ (hC r hr)) h)

theorem All2O.append {R : AV → Value → List Nat → Prop} {as cs : List AV} {vs ds : List Value} {B D : List Nat} (h : All2O R as vs B) (h' : All2O R cs ds D) : All2O R (as ++ cs) (vs ++ ds) (B ++ D) := by
  induction h with
  | nil => exact h'
  | cons h _ ih => simpa using All2O.cons h ih

theorem All2O.split {R : AV → Value → List Nat → Prop} : ∀ {cs as : List AV} {vs : List Value} {B : List Nat}, All2O R (cs ++ as) vs B →
    ∃ B1 B2, All2O R cs (vs.take cs.length) B1 ∧ All2O R as (vs.drop cs.length) B2 ∧ B = B1 ++ B2
  | [], as, vs, B, h => ⟨[], B, by simpa using All2O.nil, by simpa using h, rfl⟩
  | c :: cs, as, _, _, .cons h1 h => by
    obtain ⟨B1, B2, h2, h3, e⟩ := All2O.split h
    exact ⟨_ ++ B1, B2, by simpa using All2O.cons h1 h2, by simpa using h3, by simp [e]⟩

def AR1 (e : Env) : AV → Value → List Nat → Prop
  | .agg cs, v, B => ∃ vs, v = .agg vs ∧ All2O (AC e) cs vs.toList B
  | a, v, B => AC e a v B

def BlkR (e : Env) (cs : List AV) (r : Nat) (B : List Nat) : Prop :=
  ∃ vs el, e.heap[r]? = some (.cells vs el (0, 0)) ∧ (∀ o, e.Φ r o = none) ∧ ∃ B', All2O (AC e) cs vs.toList B' ∧ B = r :: B'

/-- The entries of a map. -/
def EntR (e : Env) : List DV → List AV → List MapEntry → Prop
  | [], [], [] => True
  | k :: ks, v :: vs, x :: es => CR e.Φ k x.key ∧ AR1 e v x.val [] ∧ EntR e ks vs es
  | _, _, _ => False

def MapR (e : Env) (kd : KK) (ks : List DV) (vs : List AV) (r : Nat) (B : List Nat) : Prop :=
  ∃ es clock, e.heap[r]? = some (.map es clock) ∧ (∀ o, e.Φ r o = none) ∧ EntR e ks vs es.toList ∧ ks.all kd.has = true ∧ B = [r]

/-- A block of the shared heap. -/
def ObjR (e : Env) (cs : List AV) (r : Nat) (B : List Nat) : Prop :=
  BlkR e cs r B ∨ ∃ kd ks vs, cs = [.mpb kd ks vs] ∧ MapR e kd ks vs r B

def AR (e : Env) (tm : Array Value) : AV → Value → List Nat → Prop
  | .tup xs, v, B => ∃ vs, v = .tuple vs ∧ All2 (fun a v => AR1 e a v []) xs vs.toList ∧ B = []
  | .undef, v, B => v = Go.undef ∧ B = []
  | .junk, v, B => B = []
  | .lp t off, v, B => ∃ r, tm[t]? = some (.pointer (some ⟨r, 0, none⟩)) ∧ v = .pointer (some ⟨r, off, none⟩) ∧ B = []
  | .box cs, v, B => ∃ r, v = .pointer (some ⟨r, 0, none⟩) ∧ BlkR e cs r B
  | a, v, B => AR1 e a v B

def FR (e : Env) (tm : Array Value) : Fr → List Nat → Prop
  | [], B => B = []
  | (t, a) :: r, B => ∃ v B1 B2, tm[t]? = some v ∧ AR e tm a v B1 ∧ FR e tm r B2 ∧ B = B1 ++ B2

def HR (e : Env) : Hp → List Nat → List Nat → Prop
  | [], [], B => B = []
  | cs :: H, r :: m, B => ∃ B1 B2, ObjR e cs r B1 ∧ HR e H m B2 ∧ B = B1 ++ B2
  | _, _, _ => False

def WOK (Φ : Mem) (heap : Array Obj) : Prop := ∀ r o v, Φ r o = some v → ∃ c el fz, heap[r]? = some (.cells c el fz) ∧ c[o]? = some v

/-- 'e'' is 'e' but for blocks outside of B. -/
structure Step (e e' : Env) (B : List Nat) : Prop where
  sub : Sub e.Φ e'.Φ
  mu : ∀ (b r : Nat), e.μ[b]? = some r → e'.μ[b]? = some r
  keep : ∀ r ∈ B, e'.heap[r]? = e.heap[r]? ∧ ∀ o, e'.Φ r o = e.Φ r o

theorem Step.refl (e : Env) (B : List Nat) : Step e e B := ⟨Sub.refl _, fun _ _ h => h, fun _ _ => ⟨rfl, fun _ => rfl⟩⟩
theorem Step.subset {e e' : Env} {B C : List Nat} (h : Step e e' B) (hs : ∀ r ∈ C, r ∈ B) : Step e e' C := ⟨h.sub, h.mu, fun r hr => h.keep r (hs r hr)⟩

theorem AC.step {e e' : Env} {a : AV} {v : Value} {B : List Nat} (h : AC e a v B) (s : Step e e' B) : AC e' a v B := by
  cases a <;> simp only [AC] at h ⊢
  case d x => exact ⟨h.1.mono s.sub, h.2⟩
  case osl sz xs =>
    rcases h with h | ⟨a, cap, hv, h0, hs, hc, h⟩
    · exact .inl h
    · refine .inr ⟨a, cap, hv, h0, hs.mono s.sub, hc, ?_⟩
      rcases h with h | ⟨rfl, h00, c, el, h1, h2, h3⟩
      · exact .inl h
      · have hk := s.keep a.block (by simp)
        exact .inr ⟨rfl, h00, c, el, by rw [hk.1]; exact h1, h2, fun o ho => by rw [hk.2]; exact h3 o ho⟩
  case hp b off => obtain ⟨r, h1, h2⟩ := h; exact ⟨r, s.mu _ _ h1, h2⟩
  case mp b => obtain ⟨r, h1, h2⟩ := h; exact ⟨r, s.mu _ _ h1, h2⟩
  case zsl ik xs k =>
    obtain ⟨g, cap, hv, hs, hc, rfl, c, el, h1, h2, h3, h4⟩ := h
    have hk := s.keep g (by simp)
    exact ⟨g, cap, hv, hs.mono s.sub, hc, rfl, c, el, by rw [hk.1]; exact h1, h2, fun o ho => by rw [hk.2]; exact h3 o ho, h4⟩
  case vp x => obtain ⟨a, h1, h2, h3⟩ := h; exact ⟨a, h1, h2.mono s.sub, h3⟩
  all_goals exact h

theorem AR1.step {e e' : Env} {a : AV} {v : Value} {B : List Nat} (h : AR1 e a v B) (s : Step e e' B) : AR1 e' a v B := by
  cases a <;> simp only [AR1] at h ⊢
  case agg cs =>
    obtain ⟨vs, hv, h⟩ := h
    exact ⟨vs, hv, h.mono fun a v C hC h => h.step (s.subset hC)⟩
  all_goals exact AC.step h s

theorem BlkR.step {e e' : Env} {cs : List AV} {r : Nat} {B : List Nat} (h : BlkR e cs r B) (s : Step e e' B) : BlkR e' cs r B := by
  obtain ⟨vs, el, h1, h2, B', h3, rfl⟩ := h
  have hk := s.keep r (by simp)
  exact ⟨vs, el, by rw [hk.1]; exact h1, fun o => by rw [hk.2]; exact h2 o, B', h3.mono fun a v C hC h => h.step (s.subset fun x hx => List.mem_cons_of_mem _ (hC x hx)), rfl⟩

theorem EntR.step {e e' : Env} : ∀ {ks : List DV} {vs : List AV} {es : List MapEntry}, EntR e ks vs es → Step e e' [] → EntR e' ks vs es
  | [], [], [], _, _ => trivial
  | k :: ks, v :: vs, x :: es, ⟨h1, h2, h3⟩, s => ⟨h1.mono s.sub, h2.step s, h3.step s⟩
  | [], _ :: _, _, h, _ => by cases h
  | [], [], _ :: _, h, _ => by cases h
  | _ :: _, [], _, h, _ => by cases h
  | _ :: _, _ :: _, [], h, _ => by cases h

theorem MapR.step {e e' : Env} {kd : KK} {ks : List DV} {vs : List AV} {r : Nat} {B : List Nat} (h : MapR e kd ks vs r B) (s : Step e e' B) : MapR e' kd ks vs r B := by
  obtain ⟨es, cl, h1, h2, h3, h4, rfl⟩ := h
  have hk := s.keep r (by simp)
  exact ⟨es, cl, by rw [hk.1]; exact h1, fun o => by rw [hk.2]; exact h2 o, h3.step (s.subset (by simp)), h4, rfl⟩

theorem ObjR.step {e e' : Env} {cs : List AV} {r : Nat} {B : List Nat} (h : ObjR e cs r B) (s : Step e e' B) : ObjR e' cs r B := by
  rcases h with h | ⟨kd, ks, vs, rfl, h⟩
  · exact .inl (h.step s)
  · exact .inr ⟨kd, ks, vs, rfl, h.step s⟩

/-- A block of cells is no map. -/
theorem BlkR.not_map {e : Env} {kd : KK} {ks : List DV} {vs : List AV} {r : Nat} {B : List Nat} (h : BlkR e [.mpb kd ks vs] r B) : False := by
  obtain ⟨us, el, _, _, B', h, _⟩ := h
  cases us' : us.toList with
  | nil => rw [us'] at h; cases h
  | cons u l => rw [us'] at h; cases h with | cons h _ => exact h

theorem ObjR.cells {e : Env} {cs : List AV} {r : Nat} {B : List Nat} (h : ObjR e cs r B) (hn : noMap cs = true) : BlkR e cs r B := by
  rcases h with h | ⟨kd, ks, vs, rfl, h⟩
  · exact h
  · simp [noMap] at hn

theorem ObjR.map {e : Env} {kd : KK} {ks : List DV} {vs : List AV} {r : Nat} {B : List Nat} (h : ObjR e [.mpb kd ks vs] r B) : MapR e kd ks vs r B := by
  rcases h with h | ⟨kd', ks', vs', he, h⟩
  · exact h.not_map.elim
  · cases he; exact h

theorem AR.step {e e' : Env} {tm : Array Value} {a : AV} {v : Value} {B : List Nat} (h : AR e tm a v B) (s : Step e e' B) : AR e' tm a v B := by
  cases a <;> simp only [AR] at h ⊢
  case tup xs =>
    obtain ⟨vs, hv, h, hB⟩ := h
    exact ⟨vs, hv, h.mono fun a v h => h.step (s.subset (by simp)), hB⟩
  case box cs => obtain ⟨r, hv, h⟩ := h; exact ⟨r, hv, h.step s⟩
  case undef => exact h
  case junk => exact h
  case lp => exact h
  all_goals exact AR1.step h s

theorem FR.step {e e' : Env} {tm : Array Value} : ∀ {fr : Fr} {B : List Nat}, FR e tm fr B → Step e e' B → FR e' tm fr B
  | [], _, h, _ => h
  | (t, a) :: r, _, ⟨v, B1, B2, ht, ha, hr, rfl⟩, s =>
    ⟨v, B1, B2, ht, ha.step (s.subset fun _ => List.mem_append_left _), hr.step (s.subset fun _ => List.mem_append_right _), rfl⟩

theorem HR.step {e e' : Env} : ∀ {H : Hp} {m B : List Nat}, HR e H m B → Step e e' B → HR e' H m B
  | [], [], _, h, _ => h
  | cs :: H, r :: m, _, ⟨B1, B2, h1, h2, rfl⟩, s => ⟨B1, B2, h1.step (s.subset fun _ => List.mem_append_left _), h2.step (s.subset fun _ => List.mem_append_right _), rfl⟩
  | [], _ :: _, _, h, _ => h.elim
  | _ :: _, [], _, h, _ => h.elim

/-! ### Handing on without what may be appended to -/

theorem dupC_osl (sz : Nat) (xs : List DV) : dupC (.osl sz xs) = if sz = 0 ∧ xs = [] then .osl 0 [] else .d (.sl sz xs) := by
  cases sz <;> cases xs <;> simp [dupC]

theorem AC.dupC {e : Env} {a : AV} {v : Value} {B : List Nat} (h : AC e a v B) : AC e (dupC a) v [] := by
  cases a
  case osl sz xs =>
    simp only [AC] at h
    rw [dupC_osl]
    split
    · rename_i hz
      obtain ⟨rfl, rfl⟩ := hz
      rcases h with ⟨rfl, _, _⟩ | ⟨_, _, _, h0, _⟩
      · exact .inl ⟨rfl, rfl, rfl⟩
      · omega
    · refine ⟨?_, rfl⟩
      rcases h with ⟨rfl, rfl, _⟩ | ⟨a, cap, rfl, _, hs, hc, _⟩
      · exact .nil sz
      · exact .of_SlR hs hc
  case hp b off => obtain ⟨r, h1, h2, h3⟩ := h; exact ⟨r, h1, h2, rfl⟩
  case mp b => obtain ⟨r, h1, h2, h3⟩ := h; exact ⟨r, h1, h2, rfl⟩
  case zsl ik xs k => obtain ⟨g, cap, hv, _⟩ := h; exact ⟨⟨_, _, _, hv⟩, rfl⟩
  case vp x => obtain ⟨r, h1, h2, h3⟩ := h; exact ⟨r, h1, h2, rfl⟩
  all_goals first | exact ⟨h.1, rfl⟩ | exact h.elim

theorem All2O.dupC {e : Env} {cs : List AV} {vs : List Value} {B : List Nat} (h : All2O (AC e) cs vs B) : All2O (AC e) (cs.map Go.AI.dupC) vs [] := by
  induction h with
  | nil => exact .nil
  | cons h _ ih => simpa using All2O.cons h.dupC ih

theorem AR.dup {e : Env} {tm : Array Value} {a : AV} {v : Value} {B : List Nat} (h : AR e tm a v B) (hb : ∀ cs, a ≠ .box cs) : AR e tm (dup a) v [] := by
  cases a
  case agg cs => obtain ⟨vs, hv, h⟩ := h; exact ⟨vs, hv, h.dupC⟩
  case box cs => exact (hb cs rfl).elim
  case tup xs => obtain ⟨vs, hv, h, _⟩ := h; exact ⟨vs, hv, h, rfl⟩
  case undef => exact ⟨h.1, rfl⟩
  case junk => exact rfl
  case lp t off => obtain ⟨r, h1, h2, _⟩ := h; exact ⟨r, h1, h2, rfl⟩
  case osl sz xs =>
    have := AC.dupC (a := .osl sz xs) h
    show AR e tm (Go.AI.dupC (.osl sz xs)) v []
    rw [dupC_osl] at this ⊢
    split at this <;> rename_i hz
    · rw [if_pos hz]; exact this
    · rw [if_neg hz]; exact this
  case d x => exact AC.dupC (e := e) (a := .d x) h
  case hp b o => exact AC.dupC (e := e) (a := .hp b o) h
  case vp x => exact AC.dupC (e := e) (a := .vp x) h
  case fn f => exact AC.dupC (e := e) (a := .fn f) h
  case nilp => exact AC.dupC (e := e) (a := .nilp) h
  case nilf => exact AC.dupC (e := e) (a := .nilf) h
  case nilm => exact AC.dupC (e := e) (a := .nilm) h
  case mp b => exact AC.dupC (e := e) (a := .mp b) h
  case mpb => exact h.elim
  case zsl ik xs k => exact AC.dupC (e := e) (a := .zsl ik xs k) h
  case sref => exact AC.dupC (e := e) (a := .sref) h


/-! ### Frames -/

theorem FR.split {e : Env} {tm : Array Value} {t : Nat} {a : AV} : ∀ {fr : Fr} {B : List Nat}, FR e tm fr B → get fr t = some a →
    ∃ v B1 B2, tm[t]? = some v ∧ AR e tm a v B1 ∧ (B1 ++ B2).Perm B ∧
      ∀ (e' : Env) (b : AV) (B' : List Nat), AR e' tm b v B' → Step e e' B2 → ∃ B'', FR e' tm (upd t b fr) B'' ∧ B''.Perm (B' ++ B2)
  | [], _, _, hg => by simp [get] at hg
  | (u, c) :: r, _, ⟨v, B1, B2, ht, ha, hr, rfl⟩, hg => by
    by_cases hu : u = t
    · subst hu
      simp only [get, if_true, Option.some.injEq] at hg
      subst hg
      refine ⟨v, B1, B2, ht, ha, .rfl, fun e' b B' hb hs => ⟨B' ++ B2, ?_, .rfl⟩⟩
      simp only [upd, if_true]
      exact ⟨v, B', B2, ht, hb, hr.step hs, rfl⟩
    · simp only [get, if_neg hu] at hg
      obtain ⟨v', C1, C2, ht', ha', hp, hk⟩ := hr.split hg
      have hp1 : (C1 ++ (B1 ++ C2)).Perm (B1 ++ B2) := by
        refine List.Perm.trans ?_ (List.Perm.append_left B1 hp)
        rw [← List.append_assoc, ← List.append_assoc]
        exact List.Perm.append_right _ List.perm_append_comm
      refine ⟨v', C1, B1 ++ C2, ht', ha', hp1, fun e' b B' hb hs => ?_⟩
      obtain ⟨B'', h1, h2⟩ := hk e' b B' hb (hs.subset fun _ => List.mem_append_right _)
      refine ⟨B1 ++ B'', ?_, ?_⟩
      · simp only [upd, if_neg hu]
        exact ⟨v, B1, B'', ht, ha.step (hs.subset fun _ => List.mem_append_left _), h1, rfl⟩
      · refine (List.Perm.append_left B1 h2).trans ?_
        rw [← List.append_assoc, ← List.append_assoc]
        exact List.Perm.append_right _ List.perm_append_comm

theorem disown_upd {t : Nat} {a : AV} : ∀ {fr : Fr}, get fr t = some a → disown t fr = upd t (dup a) fr
  | [], h => by simp [get] at h
  | (u, c) :: r, h => by
    by_cases hu : u = t
    · simp only [get, hu, if_true, Option.some.injEq] at h
      subst h
      simp [disown, upd, hu]
    · simp only [get, if_neg hu] at h
      simp [disown, upd, hu, disown_upd h]

theorem AR.tm_other {e : Env} {tm : Array Value} {d : Nat} {x : Value} {a : AV} {v : Value} {B : List Nat} (h : AR e tm a v B) (hl : isLp d a = false) :
    AR e (tm.setIfInBounds d x) a v B := by
  cases a
  case lp t off =>
    obtain ⟨r, h1, h2⟩ := h
    have hne : d ≠ t := by simp [isLp] at hl; exact fun h => hl h.symm
    exact ⟨r, by rw [Array.getElem?_setIfInBounds_ne hne]; exact h1, h2⟩
  all_goals exact h

theorem AR.kill {e : Env} {tm : Array Value} {d : Nat} {x : Value} {a : AV} {v : Value} {B : List Nat} (h : AR e tm a v B) :
    AR e (tm.setIfInBounds d x) (kill d a) v B := by
  unfold Go.AI.kill
  cases hl : isLp d a with
  | false => rw [cond_false]; exact h.tm_other hl
  | true =>
    rw [cond_true]
    cases a <;> simp [isLp] at hl
    obtain ⟨r, _, _, hB⟩ := h
    exact hB

theorem FR.del {e : Env} {tm : Array Value} {d : Nat} {x : Value} : ∀ {fr : Fr} {B : List Nat}, FR e tm fr B →
    ∃ B', FR e (tm.setIfInBounds d x) (del d fr) B' ∧ B'.Sublist B
  | [], _, h => ⟨[], rfl, by rw [show _ = [] from h]; exact List.Sublist.refl _⟩
  | (t, a) :: r, _, ⟨v, B1, B2, ht, ha, hr, rfl⟩ => by
    obtain ⟨B', h1, h2⟩ := hr.del (d := d) (x := x)
    by_cases htd : t = d
    · exact ⟨B', by simpa [Go.AI.del, htd] using h1, h2.trans (List.sublist_append_right _ _)⟩
    · refine ⟨B1 ++ B', ?_, List.Sublist.append (List.Sublist.refl _) h2⟩
      simp only [Go.AI.del, if_neg htd]
      exact ⟨v, B1, B', by rw [Array.getElem?_setIfInBounds_ne (fun h => htd h.symm)]; exact ht, ha.kill, h1, rfl⟩

theorem FR.get {e : Env} {tm : Array Value} {t : Nat} {a : AV} {fr : Fr} {B : List Nat} (h : FR e tm fr B) (hg : get fr t = some a) : ∃ v B1, tm[t]? = some v ∧ AR e tm a v B1 ∧ ∀ r ∈ B1, r ∈ B := by
  obtain ⟨v, B1, B2, h1, h2, h3, _⟩ := h.split hg
  exact ⟨v, B1, h1, h2, fun r hr => h3.subset (List.mem_append_left _ hr)⟩

/-- Slot 't' falls away. -/
def rm (t : Nat) : Fr → Fr
  | [] => []
  | (u, a) :: r => if u = t then rm t r else (u, a) :: rm t r

theorem get_rm {t u : Nat} (h : u ≠ t) : ∀ (fr : Fr), Go.AI.get (rm t fr) u = Go.AI.get fr u
  | [] => rfl
  | (v, a) :: r => by
    by_cases hv : v = t
    · have : v ≠ u := fun h' => h (by rw [← h', hv])
      simp [rm, hv, Go.AI.get, get_rm h r, show t ≠ u from fun h' => h h'.symm]
    · simp [rm, hv, Go.AI.get, get_rm h r]

theorem FR.rm {e : Env} {tm : Array Value} {t : Nat} : ∀ {fr : Fr} {B : List Nat}, FR e tm fr B → ∃ B', FR e tm (Go.AI.rm t fr) B' ∧ B'.Sublist B
  | [], _, h => ⟨[], rfl, by rw [show _ = [] from h]; exact List.Sublist.refl _⟩
  | (u, a) :: r, _, ⟨v, B1, B2, ht, ha, hr, rfl⟩ => by
    obtain ⟨B', h1, h2⟩ := hr.rm (t := t)
    by_cases htd : u = t
    · exact ⟨B', by simpa [Go.AI.rm, htd] using h1, h2.trans (List.sublist_append_right _ _)⟩
    · refine ⟨B1 ++ B', ?_, List.Sublist.append (List.Sublist.refl _) h2⟩
      simp only [Go.AI.rm, if_neg htd]
      exact ⟨v, B1, B', ht, ha, h1, rfl⟩

theorem FR.take {e : Env} {tm : Array Value} {t : Nat} {a : AV} : ∀ {fr : Fr} {B : List Nat}, FR e tm fr B → Go.AI.get fr t = some a →
    ∃ v B1 B2, tm[t]? = some v ∧ AR e tm a v B1 ∧ FR e tm (Go.AI.rm t fr) B2 ∧ ∃ C, (B1 ++ B2 ++ C).Perm B
  | [], _, _, hg => by simp [Go.AI.get] at hg
  | (u, c) :: r, _, ⟨v, B1, B2, ht, ha, hr, rfl⟩, hg => by
    by_cases hu : u = t
    · subst hu
      simp only [Go.AI.get, if_true, Option.some.injEq] at hg
      subst hg
      obtain ⟨B', h1, h2⟩ := hr.rm (t := u)
      obtain ⟨C, hC⟩ := h2.exists_perm_append
      refine ⟨v, B1, B', ht, ha, by simpa [Go.AI.rm] using h1, C, ?_⟩
      rw [List.append_assoc]
      exact List.Perm.append_left _ hC.symm
    · simp only [Go.AI.get, if_neg hu] at hg
      obtain ⟨v', C1, C2, ht', ha', hf, C, hC⟩ := hr.take hg
      refine ⟨v', C1, B1 ++ C2, ht', ha', ?_, C, ?_⟩
      · simp only [Go.AI.rm, if_neg hu]
        exact ⟨v, B1, C2, ht, ha, hf, rfl⟩
      · refine List.Perm.trans ?_ (List.Perm.append_left B1 hC)
        simp only [← List.append_assoc]
        exact List.Perm.append_right _ (List.Perm.append_right _ List.perm_append_comm)

theorem FR.restrict {e : Env} {tm : Array Value} : ∀ (l : List Nat) {fr : Fr} {B : List Nat}, l.Nodup → FR e tm fr B →
    ∃ B', FR e tm (Go.AI.restrict fr l) B' ∧ ∃ C, (B' ++ C).Perm B
  | [], fr, B, _, h => ⟨[], rfl, B, .rfl⟩
  | t :: l, fr, B, hn, h => by
    have hn' := List.nodup_cons.1 hn
    have hrm : Go.AI.restrict fr l = Go.AI.restrict (Go.AI.rm t fr) l := by
      have : ∀ (m : List Nat), t ∉ m → Go.AI.restrict fr m = Go.AI.restrict (Go.AI.rm t fr) m := by
        intro m
        induction m with
        | nil => intro _; rfl
        | cons u m ih =>
          intro hm
          have hu : u ≠ t := fun h' => hm (by simp [h'])
          simp only [Go.AI.restrict, get_rm hu, ih (fun h' => hm (List.mem_cons_of_mem _ h'))]
      exact this l hn'.1
    cases hg : Go.AI.get fr t with
    | none =>
      obtain ⟨B', h1, h2⟩ := FR.restrict l hn'.2 h
      exact ⟨B', by simpa [Go.AI.restrict, hg] using h1, h2⟩
    | some a =>
      cases hk : keepB a with
      | false =>
        obtain ⟨B', h1, h2⟩ := FR.restrict l hn'.2 h
        exact ⟨B', by simpa [Go.AI.restrict, hg, hk] using h1, h2⟩
      | true =>
        obtain ⟨v, B1, B2, ht, ha, hf, C, hC⟩ := h.take hg
        obtain ⟨B', h1, D, hD⟩ := FR.restrict l hn'.2 hf
        refine ⟨B1 ++ B', ?_, D ++ C, ?_⟩
        · simp only [Go.AI.restrict, hg, hk, cond_true]
          rw [hrm]
          exact ⟨v, B1, B', ht, ha, h1, rfl⟩
        · refine List.Perm.trans ?_ hC
          simp only [← List.append_assoc]
          refine List.Perm.append_right _ ?_
          rw [List.append_assoc]
          exact List.Perm.append_left _ hD

end Go.AI
