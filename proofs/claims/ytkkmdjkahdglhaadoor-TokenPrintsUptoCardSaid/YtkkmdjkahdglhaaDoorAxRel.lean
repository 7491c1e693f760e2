/- What the interpreter's values say of the machine's, and how that is kept when the world changes. -/
import Derived.Test.YtkkmdjkahdglhaaDoorAxCore
import Derived.Laws.Sem
import Derived.Laws.World
import Derived.Orders
import Derived.WalkKit
namespace Go.AI
set_option linter.unusedVariables false

inductive All2 {α β : Type} (R : α → β → Prop) : List α → List β → Prop
  | nil : All2 R [] []
  | cons {a b as bs} : R a b → All2 R as bs → All2 R (a :: as) (b :: bs)

theorem All2.length {α β : Type} {R : α → β → Prop} {as : List α} {bs : List β} (h : All2 R as bs) : as.length = bs.length := by
  induction h with
  | nil => rfl
  | cons _ _ ih => simp [ih]

theorem All2.mono {α β : Type} {R R' : α → β → Prop} (hr : ∀ a b, R a b → R' a b) {as : List α} {bs : List β} (h : All2 R as bs) : All2 R' as bs := by
  induction h with
  | nil => exact .nil
  | cons h _ ih => exact .cons (hr _ _ h) ih

theorem All2.get {α β : Type} {R : α → β → Prop} {as : List α} {bs : List β} (h : All2 R as bs) (i : Nat) {a : α} (ha : as[i]? = some a) : ∃ b, bs[i]? = some b ∧ R a b := by
  induction h generalizing i with
  | nil => simp at ha
  | cons h _ ih =>
    cases i with
    | zero => simp at ha; subst ha; exact ⟨_, rfl, h⟩
    | succ i => simpa using ih i (by simpa using ha)

theorem All2.of_get {α β : Type} {R : α → β → Prop} : ∀ {as : List α} {bs : List β}, as.length = bs.length → (∀ (i : Nat) (a : α) (b : β), as[i]? = some a → bs[i]? = some b → R a b) → All2 R as bs
  | [], [], _, _ => .nil
  | a :: as, b :: bs, hl, h => .cons (h 0 a b rfl rfl) (All2.of_get (by simpa using hl) fun i x y hx hy => h (i + 1) x y (by simpa using hx) (by simpa using hy))
  | [], _ :: _, hl, _ => by simp at hl
  | _ :: _, [], hl, _ => by simp at hl

theorem All2.append {α β : Type} {R : α → β → Prop} {as cs : List α} {bs ds : List β} (h : All2 R as bs) (h' : All2 R cs ds) : All2 R (as ++ cs) (bs ++ ds) := by
  induction h with
  | nil => exact h'
  | cons h _ ih => exact .cons h ih

abbrev Mem := Nat → Nat → Option Value

inductive CR (Φ : Mem) : DV → Value → Prop
  | bool (b : Bool) : CR Φ (.bool b) (.bool b)
  | int (k : IntKind) (n : Int) : CR Φ (.int k n) (.int k n)
  | str (s : List UInt8) (b : ByteArray) (h : b.data.toList = s) : CR Φ (.str s) (.string b)
  | nilI : CR Φ .nilI .nilIface
  | nil (sz : Nat) : CR Φ (.sl sz []) (.slice none 0 0)
  | sl (sz : Nat) (xs : List DV) (a : Addr) (cap : Nat) (f : Nat → Nat → Value) (hs : a.spot = none) (hc : xs.length ≤ cap)
      (hz : ∀ (i : Nat) (x : DV), xs[i]? = some x → x.cells.length = sz)
      (hm : ∀ (i : Nat) (x : DV) (j : Nat) (c : DV), xs[i]? = some x → x.cells[j]? = some c → Φ a.block (a.off + i * sz + j) = some (f i j))
      (hr : ∀ (i : Nat) (x : DV) (j : Nat) (c : DV), xs[i]? = some x → x.cells[j]? = some c → CR Φ c (f i j)) : CR Φ (.sl sz xs) (.slice (some a) xs.length cap)

def Sub (Φ Φ' : Mem) : Prop := ∀ r o v, Φ r o = some v → Φ' r o = some v
theorem Sub.refl (Φ : Mem) : Sub Φ Φ := fun _ _ _ h => h
theorem Sub.trans {a b c : Mem} (h : Sub a b) (h' : Sub b c) : Sub a c := fun r o v hv => h' r o v (h r o v hv)

theorem CR.mono {Φ Φ' : Mem} (hs : Sub Φ Φ') {x : DV} {v : Value} (h : CR Φ x v) : CR Φ' x v := by
  induction h with
  | bool b => exact .bool b
  | int k n => exact .int k n
  | str s b h => exact .str s b h
  | nilI => exact .nilI
  | nil sz => exact .nil sz
  | sl sz xs a cap f hs' hc hz hm _ ih => exact .sl sz xs a cap f hs' hc hz (fun i x j c hx hj => hs _ _ _ (hm i x j c hx hj)) ih

/-- The elements lie at 'a'. -/
def SlR (Φ : Mem) (sz : Nat) (xs : List DV) (a : Addr) : Prop :=
  a.spot = none ∧ ∀ (i : Nat) (x : DV), xs[i]? = some x → x.cells.length = sz ∧ ∀ (j : Nat) (c : DV), x.cells[j]? = some c → ∃ v, Φ a.block (a.off + i * sz + j) = some v ∧ CR Φ c v

theorem SlR.mono {Φ Φ' : Mem} (hs : Sub Φ Φ') {sz : Nat} {xs : List DV} {a : Addr} (h : SlR Φ sz xs a) : SlR Φ' sz xs a :=
  ⟨h.1, fun i x hx => ⟨(h.2 i x hx).1, fun j c hj => let ⟨v, h1, h2⟩ := (h.2 i x hx).2 j c hj; ⟨v, hs _ _ _ h1, h2.mono hs⟩⟩⟩

theorem CR.of_SlR {Φ : Mem} {sz : Nat} {xs : List DV} {a : Addr} {cap : Nat} (h : SlR Φ sz xs a) (hc : xs.length ≤ cap) : CR Φ (.sl sz xs) (.slice (some a) xs.length cap) := by
  obtain ⟨hs, h⟩ := h
  refine .sl sz xs a cap (fun i j => (Φ a.block (a.off + i * sz + j)).getD default) hs hc (fun i x hx => (h i x hx).1) ?_ ?_
  · intro i x j c hx hj
    obtain ⟨v, h1, _⟩ := (h i x hx).2 j c hj
    simp [h1]
  · intro i x j c hx hj
    obtain ⟨v, h1, h2⟩ := (h i x hx).2 j c hj
    simpa [h1] using h2

theorem CR.sl_inv {Φ : Mem} {sz : Nat} {xs : List DV} {v : Value} (h : CR Φ (.sl sz xs) v) :
    (v = .slice none 0 0 ∧ xs = []) ∨ ∃ a cap, v = .slice (some a) xs.length cap ∧ xs.length ≤ cap ∧ SlR Φ sz xs a := by
  cases h with
  | nil => exact .inl ⟨rfl, rfl⟩
  | sl _ _ a cap f hs hc hz hm hr => exact .inr ⟨a, cap, rfl, hc, hs, fun i x hx => ⟨hz i x hx, fun j c hj => ⟨_, hm i x j c hx hj, hr i x j c hx hj⟩⟩⟩

/-- A value lies at 'a'. -/
def PtR (Φ : Mem) (x : DV) (a : Addr) : Prop :=
  a.spot = none ∧ ∀ (j : Nat) (c : DV), x.cells[j]? = some c → ∃ v, Φ a.block (a.off + j) = some v ∧ CR Φ c v

theorem PtR.mono {Φ Φ' : Mem} (hs : Sub Φ Φ') {x : DV} {a : Addr} (h : PtR Φ x a) : PtR Φ' x a :=
  ⟨h.1, fun j c hj => let ⟨v, h1, h2⟩ := h.2 j c hj; ⟨v, hs _ _ _ h1, h2.mono hs⟩⟩

structure Env where
  Φ : Mem
  heap : Array Obj
  μ : List Nat

/-- Room behind the elements that belongs to one slice alone. -/
def Tip (e : Env) (a : Addr) (sz n cap : Nat) : Prop :=
  ∃ c el, e.heap[a.block]? = some (.cells c el (0, 0)) ∧ a.off + cap * sz ≤ c.size ∧ ∀ o, a.off + n * sz ≤ o → e.Φ a.block o = none

def AC (e : Env) : AV → Value → List Nat → Prop
  | .d x, v, B => CR e.Φ x v ∧ B = []
  | .osl sz xs, v, B => (v = .slice none 0 0 ∧ xs = [] ∧ B = []) ∨
      ∃ a cap, v = .slice (some a) xs.length cap ∧ 0 < sz ∧ SlR e.Φ sz xs a ∧ xs.length ≤ cap ∧ B = [a.block] ∧ a.off = 0 ∧ Tip e a sz xs.length cap
  | .hp b off, v, B => ∃ r, e.μ[b]? = some r ∧ v = .pointer (some ⟨r, off, none⟩) ∧ B = []
  | .vp x, v, B => ∃ a, v = .pointer (some a) ∧ PtR e.Φ x a ∧ B = []
  | .fn f, v, B => v = .func (.func f) #[] #[] ∧ B = []
  | .nilp, v, B => v = .pointer none ∧ B = []
  | .nilf, v, B => v = .nilFunc ∧ B = []
  | .nilm, v, B => v = .map none ∧ B = []
  | .mp b, v, B => ∃ r, e.μ[b]? = some r ∧ v = .map (some r) ∧ B = []
  | .zsl ik xs k, v, B => ∃ g cap, v = .slice (some ⟨g, 0, none⟩) (xs.length + k) cap ∧ SlR e.Φ 1 xs ⟨g, 0, none⟩ ∧ xs.length + k ≤ cap ∧ B = [g] ∧
      ∃ c el, e.heap[g]? = some (.cells c el (0, 0)) ∧ cap ≤ c.size ∧ (∀ o, xs.length ≤ o → e.Φ g o = none) ∧ ∀ o, xs.length ≤ o → o < xs.length + k → c[o]? = some (.int ik 0)
  | .sref, v, B => (∃ a n cap, v = .slice a n cap) ∧ B = []
  | .bself _, v, B => (∃ o, v = .pointer o) ∧ B = []
  | _, _, _ => False

inductive All2O (R : AV → Value → List Nat → Prop) : List AV → List Value → List Nat → Prop
  | nil : All2O R [] [] []
  | cons {a v B1 as vs B2} : R a v B1 → All2O R as vs B2 → All2O R (a :: as) (v :: vs) (B1 ++ B2)

theorem All2O.length {R : AV → Value → List Nat → Prop} {as : List AV} {vs : List Value} {B : List Nat} (h : All2O R as vs B) : as.length = vs.length := by
  induction h with
  | nil => rfl
  | cons _ _ ih => simp [ih]

theorem All2O.mono {R R' : AV → Value → List Nat → Prop} {as : List AV} {vs : List Value} {B : List Nat} (h : All2O R as vs B)
    (hr : ∀ a v C, (∀ r ∈ C, r ∈ B) → R a v C → R' a v C) : All2O R' as vs B := by
  induction h with
  | nil => exact .nil
  | cons h _ ih => exact .cons (hr _ _ _ (fun r hr => List.mem_append_left _ hr) h) (ih fun a v C hC h => hr a v C (fun r hr => List.mem_append_right _ (hC r hr)) h)

theorem All2O.append {R : AV → Value → List Nat → Prop} {as cs : List AV} {vs ds : List Value} {B D : List Nat} (h : All2O R as vs B) (h' : All2O R cs ds D) : All2O R (as ++ cs) (vs ++ ds) (B ++ D) := by
  induction h with
  | nil => exact h'
  | cons h _ ih => simpa using All2O.cons h ih

theorem All2O.split {R : AV → Value → List Nat → Prop} : ∀ {cs as : List AV} {vs : List Value} {B : List Nat}, All2O R (cs ++ as) vs B →
    ∃ B1 B2, All2O R cs (vs.take cs.length) B1 ∧ All2O R as (vs.drop cs.length) B2 ∧ B = B1 ++ B2
  | [], as, vs, B, h => ⟨[], B, by simpa using All2O.nil, by simpa using h, rfl⟩
  | c :: cs, as, _, _, .cons h1 h => by
    obtain ⟨B1, B2, h2, h3, e⟩ := All2O.split h
    exact ⟨_ ++ B1, B2, by simpa using All2O.cons h1 h2, by simpa using h3, by simp [e]⟩

def AR1 (e : Env) : AV → Value → List Nat → Prop
  | .agg cs, v, B => ∃ vs, v = .agg vs ∧ All2O (AC e) cs vs.toList B
  | a, v, B => AC e a v B

def BlkR (e : Env) (cs : List AV) (r : Nat) (B : List Nat) : Prop :=
  ∃ vs el, e.heap[r]? = some (.cells vs el (0, 0)) ∧ (∀ o, e.Φ r o = none) ∧ ∃ B', All2O (AC e) cs vs.toList B' ∧ B = r :: B'

/-- The entries of a map. -/
def EntR (e : Env) : List DV → List AV → List MapEntry → Prop
  | [], [], [] => True
  | k :: ks, v :: vs, x :: es => CR e.Φ k x.key ∧ AR1 e v x.val [] ∧ EntR e ks vs es
  | _, _, _ => False

def MapR (e : Env) (kd : KK) (ks : List DV) (vs : List AV) (r : Nat) (B : List Nat) : Prop :=
  ∃ es clock, e.heap[r]? = some (.map es clock) ∧ (∀ o, e.Φ r o = none) ∧ EntR e ks vs es.toList ∧ ks.all kd.has = true ∧ B = [r]

/-- What is known of a block whose first cell may lead to itself. -/
def TagO (e : Env) (cs : List AV) (r : Nat) : Prop :=
  ∀ T, cs[0]? = some (.bself T) → ∃ vs, e.heap[r]? = some (.cells vs T (0, 0)) ∧ (vs[0]? = some (.pointer none) ∨ vs[0]? = some (.pointer (some ⟨r, 0, none⟩)))

/-- A block of the shared heap. -/
def ObjR (e : Env) (cs : List AV) (r : Nat) (B : List Nat) : Prop :=
  (BlkR e cs r B ∧ TagO e cs r) ∨ ∃ kd ks vs, cs = [.mpb kd ks vs] ∧ MapR e kd ks vs r B

def AR (e : Env) (tm : Array Value) : AV → Value → List Nat → Prop
  | .tup xs, v, B => ∃ vs, v = .tuple vs ∧ All2 (fun a v => AR1 e a v []) xs vs.toList ∧ B = []
  | .undef, v, B => v = Go.undef ∧ B = []
  | .junk, v, B => B = []
  | .lp t off, v, B => ∃ r, tm[t]? = some (.pointer (some ⟨r, 0, none⟩)) ∧ v = .pointer (some ⟨r, off, none⟩) ∧ B = []
  | .box cs, v, B => ∃ r, v = .pointer (some ⟨r, 0, none⟩) ∧ BlkR e cs r B
  | a, v, B => AR1 e a v B

def FR (e : Env) (tm : Array Value) : Fr → List Nat → Prop
  | [], B => B = []
  | (t, a) :: r, B => ∃ v B1 B2, tm[t]? = some v ∧ AR e tm a v B1 ∧ FR e tm r B2 ∧ B = B1 ++ B2

def HR (e : Env) : Hp → List Nat → List Nat → Prop
  | [], [], B => B = []
  | cs :: H, r :: m, B => ∃ B1 B2, ObjR e cs r B1 ∧ HR e H m B2 ∧ B = B1 ++ B2
  | _, _, _ => False

def WOK (Φ : Mem) (heap : Array Obj) : Prop := ∀ r o v, Φ r o = some v → ∃ c el fz, heap[r]? = some (.cells c el fz) ∧ c[o]? = some v

/-- 'e'' is 'e' but for blocks outside of B. -/
structure Step (e e' : Env) (B : List Nat) : Prop where
  sub : Sub e.Φ e'.Φ
  mu : ∀ (b r : Nat), e.μ[b]? = some r → e'.μ[b]? = some r
  keep : ∀ r ∈ B, e'.heap[r]? = e.heap[r]? ∧ ∀ o, e'.Φ r o = e.Φ r o

theorem Step.refl (e : Env) (B : List Nat) : Step e e B := ⟨Sub.refl _, fun _ _ h => h, fun _ _ => ⟨rfl, fun _ => rfl⟩⟩
theorem Step.subset {e e' : Env} {B C : List Nat} (h : Step e e' B) (hs : ∀ r ∈ C, r ∈ B) : Step e e' C := ⟨h.sub, h.mu, fun r hr => h.keep r (hs r hr)⟩

theorem AC.step {e e' : Env} {a : AV} {v : Value} {B : List Nat} (h : AC e a v B) (s : Step e e' B) : AC e' a v B := by
  cases a <;> simp only [AC] at h ⊢
  case d x => exact ⟨h.1.mono s.sub, h.2⟩
  case osl sz xs =>
    rcases h with h | ⟨a, cap, hv, h0, hs, hc, h⟩
    · exact .inl h
    · refine .inr ⟨a, cap, hv, h0, hs.mono s.sub, hc, ?_⟩
      obtain ⟨rfl, h00, c, el, h1, h2, h3⟩ := h
      have hk := s.keep a.block (by simp)
      exact ⟨rfl, h00, c, el, by rw [hk.1]; exact h1, h2, fun o ho => by rw [hk.2]; exact h3 o ho⟩
  case hp b off => obtain ⟨r, h1, h2⟩ := h; exact ⟨r, s.mu _ _ h1, h2⟩
  case mp b => obtain ⟨r, h1, h2⟩ := h; exact ⟨r, s.mu _ _ h1, h2⟩
  case zsl ik xs k =>
    obtain ⟨g, cap, hv, hs, hc, rfl, c, el, h1, h2, h3, h4⟩ := h
    have hk := s.keep g (by simp)
    exact ⟨g, cap, hv, hs.mono s.sub, hc, rfl, c, el, by rw [hk.1]; exact h1, h2, fun o ho => by rw [hk.2]; exact h3 o ho, h4⟩
  case vp x => obtain ⟨a, h1, h2, h3⟩ := h; exact ⟨a, h1, h2.mono s.sub, h3⟩
  all_goals exact h

theorem AR1.step {e e' : Env} {a : AV} {v : Value} {B : List Nat} (h : AR1 e a v B) (s : Step e e' B) : AR1 e' a v B := by
  cases a <;> simp only [AR1] at h ⊢
  case agg cs =>
    obtain ⟨vs, hv, h⟩ := h
    exact ⟨vs, hv, h.mono fun a v C hC h => h.step (s.subset hC)⟩
  all_goals exact AC.step h s

theorem BlkR.step {e e' : Env} {cs : List AV} {r : Nat} {B : List Nat} (h : BlkR e cs r B) (s : Step e e' B) : BlkR e' cs r B := by
  obtain ⟨vs, el, h1, h2, B', h3, rfl⟩ := h
  have hk := s.keep r (by simp)
  exact ⟨vs, el, by rw [hk.1]; exact h1, fun o => by rw [hk.2]; exact h2 o, B', h3.mono fun a v C hC h => h.step (s.subset fun x hx => List.mem_cons_of_mem _ (hC x hx)), rfl⟩

theorem EntR.step {e e' : Env} : ∀ {ks : List DV} {vs : List AV} {es : List MapEntry}, EntR e ks vs es → Step e e' [] → EntR e' ks vs es
  | [], [], [], _, _ => trivial
  | k :: ks, v :: vs, x :: es, ⟨h1, h2, h3⟩, s => ⟨h1.mono s.sub, h2.step s, h3.step s⟩
  | [], _ :: _, _, h, _ => by cases h
  | [], [], _ :: _, h, _ => by cases h
  | _ :: _, [], _, h, _ => by cases h
  | _ :: _, _ :: _, [], h, _ => by cases h

theorem MapR.step {e e' : Env} {kd : KK} {ks : List DV} {vs : List AV} {r : Nat} {B : List Nat} (h : MapR e kd ks vs r B) (s : Step e e' B) : MapR e' kd ks vs r B := by
  obtain ⟨es, cl, h1, h2, h3, h4, rfl⟩ := h
  have hk := s.keep r (by simp)
  exact ⟨es, cl, by rw [hk.1]; exact h1, fun o => by rw [hk.2]; exact h2 o, h3.step (s.subset (by simp)), h4, rfl⟩

theorem ObjR.step {e e' : Env} {cs : List AV} {r : Nat} {B : List Nat} (h : ObjR e cs r B) (s : Step e e' B) : ObjR e' cs r B := by
  rcases h with ⟨h, ht⟩ | ⟨kd, ks, vs, rfl, h⟩
  · refine .inl ⟨h.step s, fun T hT => ?_⟩
    obtain ⟨us, h1, h2⟩ := ht T hT
    obtain ⟨_, _, _, _, _, _, rfl⟩ := h
    exact ⟨us, by rw [(s.keep r (by simp)).1]; exact h1, h2⟩
  · exact .inr ⟨kd, ks, vs, rfl, h.step s⟩

/-- A block of cells is no map. -/
theorem BlkR.not_map {e : Env} {kd : KK} {ks : List DV} {vs : List AV} {r : Nat} {B : List Nat} (h : BlkR e [.mpb kd ks vs] r B) : False := by
  obtain ⟨us, el, _, _, B', h, _⟩ := h
  cases us' : us.toList with
  | nil => rw [us'] at h; cases h
  | cons u l => rw [us'] at h; cases h with | cons h _ => exact h

theorem ObjR.cells {e : Env} {cs : List AV} {r : Nat} {B : List Nat} (h : ObjR e cs r B) (hn : noMap cs = true) : BlkR e cs r B := by
  rcases h with ⟨h, _⟩ | ⟨kd, ks, vs, rfl, h⟩
  · exact h
  · simp [noMap] at hn

theorem ObjR.tag {e : Env} {cs : List AV} {r : Nat} {B : List Nat} (h : ObjR e cs r B) : TagO e cs r := by
  rcases h with ⟨_, h⟩ | ⟨kd, ks, vs, rfl, h⟩
  · exact h
  · intro T hT; simp at hT

theorem TagO.none {e : Env} {cs : List AV} {r : Nat} (h : ∀ T, cs[0]? ≠ some (.bself T)) : TagO e cs r := fun T hT => absurd hT (h T)

theorem ObjR.map {e : Env} {kd : KK} {ks : List DV} {vs : List AV} {r : Nat} {B : List Nat} (h : ObjR e [.mpb kd ks vs] r B) : MapR e kd ks vs r B := by
  rcases h with ⟨h, _⟩ | ⟨kd', ks', vs', he, h⟩
  · exact h.not_map.elim
  · cases he; exact h

theorem AR.step {e e' : Env} {tm : Array Value} {a : AV} {v : Value} {B : List Nat} (h : AR e tm a v B) (s : Step e e' B) : AR e' tm a v B := by
  cases a <;> simp only [AR] at h ⊢
  case tup xs =>
    obtain ⟨vs, hv, h, hB⟩ := h
    exact ⟨vs, hv, h.mono fun a v h => h.step (s.subset (by simp)), hB⟩
  case box cs => obtain ⟨r, hv, h⟩ := h; exact ⟨r, hv, h.step s⟩
  case undef => exact h
  case junk => exact h
  case lp => exact h
  all_goals exact AR1.step h s

theorem FR.step {e e' : Env} {tm : Array Value} : ∀ {fr : Fr} {B : List Nat}, FR e tm fr B → Step e e' B → FR e' tm fr B
  | [], _, h, _ => h
  | (t, a) :: r, _, ⟨v, B1, B2, ht, ha, hr, rfl⟩, s =>
    ⟨v, B1, B2, ht, ha.step (s.subset fun _ => List.mem_append_left _), hr.step (s.subset fun _ => List.mem_append_right _), rfl⟩

theorem HR.step {e e' : Env} : ∀ {H : Hp} {m B : List Nat}, HR e H m B → Step e e' B → HR e' H m B
  | [], [], _, h, _ => h
  | cs :: H, r :: m, _, ⟨B1, B2, h1, h2, rfl⟩, s => ⟨B1, B2, h1.step (s.subset fun _ => List.mem_append_left _), h2.step (s.subset fun _ => List.mem_append_right _), rfl⟩
  | [], _ :: _, _, h, _ => h.elim
  | _ :: _, [], _, h, _ => h.elim

/-! ### Handing on without what may be appended to -/

theorem dupC_osl (sz : Nat) (xs : List DV) : dupC (.osl sz xs) = if sz = 0 ∧ xs = [] then .osl 0 [] else .d (.sl sz xs) := by
  cases sz <;> cases xs <;> simp [dupC]

theorem AC.dupC {e : Env} {a : AV} {v : Value} {B : List Nat} (h : AC e a v B) : AC e (dupC a) v [] := by
  cases a
  case osl sz xs =>
    simp only [AC] at h
    rw [dupC_osl]
    split
    · rename_i hz
      obtain ⟨rfl, rfl⟩ := hz
      rcases h with ⟨rfl, _, _⟩ | ⟨_, _, _, h0, _⟩
      · exact .inl ⟨rfl, rfl, rfl⟩
      · omega
    · refine ⟨?_, rfl⟩
      rcases h with ⟨rfl, rfl, _⟩ | ⟨a, cap, rfl, _, hs, hc, _⟩
      · exact .nil sz
      · exact .of_SlR hs hc
  case hp b off => obtain ⟨r, h1, h2, h3⟩ := h; exact ⟨r, h1, h2, rfl⟩
  case mp b => obtain ⟨r, h1, h2, h3⟩ := h; exact ⟨r, h1, h2, rfl⟩
  case zsl ik xs k => obtain ⟨g, cap, hv, _⟩ := h; exact ⟨⟨_, _, _, hv⟩, rfl⟩
  case vp x => obtain ⟨r, h1, h2, h3⟩ := h; exact ⟨r, h1, h2, rfl⟩
  all_goals first | exact ⟨h.1, rfl⟩ | exact h.elim

theorem All2O.dupC {e : Env} {cs : List AV} {vs : List Value} {B : List Nat} (h : All2O (AC e) cs vs B) : All2O (AC e) (cs.map Go.AI.dupC) vs [] := by
  induction h with
  | nil => exact .nil
  | cons h _ ih => simpa using All2O.cons h.dupC ih

theorem AR.dup {e : Env} {tm : Array Value} {a : AV} {v : Value} {B : List Nat} (h : AR e tm a v B) (hb : ∀ cs, a ≠ .box cs) : AR e tm (dup a) v [] := by
  cases a
  case agg cs => obtain ⟨vs, hv, h⟩ := h; exact ⟨vs, hv, h.dupC⟩
  case box cs => exact (hb cs rfl).elim
  case tup xs => obtain ⟨vs, hv, h, _⟩ := h; exact ⟨vs, hv, h, rfl⟩
  case undef => exact ⟨h.1, rfl⟩
  case junk => exact rfl
  case lp t off => obtain ⟨r, h1, h2, _⟩ := h; exact ⟨r, h1, h2, rfl⟩
  case osl sz xs =>
    have := AC.dupC (a := .osl sz xs) h
    show AR e tm (Go.AI.dupC (.osl sz xs)) v []
    rw [dupC_osl] at this ⊢
    split at this <;> rename_i hz
    · rw [if_pos hz]; exact this
    · rw [if_neg hz]; exact this
  case d x => exact AC.dupC (e := e) (a := .d x) h
  case hp b o => exact AC.dupC (e := e) (a := .hp b o) h
  case vp x => exact AC.dupC (e := e) (a := .vp x) h
  case fn f => exact AC.dupC (e := e) (a := .fn f) h
  case bself t => exact AC.dupC (e := e) (a := .bself t) h
  case nilp => exact AC.dupC (e := e) (a := .nilp) h
  case nilf => exact AC.dupC (e := e) (a := .nilf) h
  case nilm => exact AC.dupC (e := e) (a := .nilm) h
  case mp b => exact AC.dupC (e := e) (a := .mp b) h
  case mpb => exact h.elim
  case zsl ik xs k => exact AC.dupC (e := e) (a := .zsl ik xs k) h
  case sref => exact AC.dupC (e := e) (a := .sref) h


/-! ### Frames -/

theorem FR.split {e : Env} {tm : Array Value} {t : Nat} {a : AV} : ∀ {fr : Fr} {B : List Nat}, FR e tm fr B → get fr t = some a →
    ∃ v B1 B2, tm[t]? = some v ∧ AR e tm a v B1 ∧ (B1 ++ B2).Perm B ∧
      ∀ (e' : Env) (b : AV) (B' : List Nat), AR e' tm b v B' → Step e e' B2 → ∃ B'', FR e' tm (upd t b fr) B'' ∧ B''.Perm (B' ++ B2)
  | [], _, _, hg => by simp [get] at hg
  | (u, c) :: r, _, ⟨v, B1, B2, ht, ha, hr, rfl⟩, hg => by
    by_cases hu : u = t
    · subst hu
      simp only [get, if_true, Option.some.injEq] at hg
      subst hg
      refine ⟨v, B1, B2, ht, ha, .rfl, fun e' b B' hb hs => ⟨B' ++ B2, ?_, .rfl⟩⟩
      simp only [upd, if_true]
      exact ⟨v, B', B2, ht, hb, hr.step hs, rfl⟩
    · simp only [get, if_neg hu] at hg
      obtain ⟨v', C1, C2, ht', ha', hp, hk⟩ := hr.split hg
      have hp1 : (C1 ++ (B1 ++ C2)).Perm (B1 ++ B2) := by
        refine List.Perm.trans ?_ (List.Perm.append_left B1 hp)
        rw [← List.append_assoc, ← List.append_assoc]
        exact List.Perm.append_right _ List.perm_append_comm
      refine ⟨v', C1, B1 ++ C2, ht', ha', hp1, fun e' b B' hb hs => ?_⟩
      obtain ⟨B'', h1, h2⟩ := hk e' b B' hb (hs.subset fun _ => List.mem_append_right _)
      refine ⟨B1 ++ B'', ?_, ?_⟩
      · simp only [upd, if_neg hu]
        exact ⟨v, B1, B'', ht, ha.step (hs.subset fun _ => List.mem_append_left _), h1, rfl⟩
      · refine (List.Perm.append_left B1 h2).trans ?_
        rw [← List.append_assoc, ← List.append_assoc]
        exact List.Perm.append_right _ List.perm_append_comm

theorem disown_upd {t : Nat} {a : AV} : ∀ {fr : Fr}, get fr t = some a → disown t fr = upd t (dup a) fr
  | [], h => by simp [get] at h
  | (u, c) :: r, h => by
    by_cases hu : u = t
    · simp only [get, hu, if_true, Option.some.injEq] at h
      subst h
      simp [disown, upd, hu]
    · simp only [get, if_neg hu] at h
      simp [disown, upd, hu, disown_upd h]

theorem AR.tm_other {e : Env} {tm : Array Value} {d : Nat} {x : Value} {a : AV} {v : Value} {B : List Nat} (h : AR e tm a v B) (hl : isLp d a = false) :
    AR e (tm.setIfInBounds d x) a v B := by
  cases a
  case lp t off =>
    obtain ⟨r, h1, h2⟩ := h
    have hne : d ≠ t := by simp [isLp] at hl; exact fun h => hl h.symm
    exact ⟨r, by rw [Array.getElem?_setIfInBounds_ne hne]; exact h1, h2⟩
  all_goals exact h

theorem AR.kill {e : Env} {tm : Array Value} {d : Nat} {x : Value} {a : AV} {v : Value} {B : List Nat} (h : AR e tm a v B) :
    AR e (tm.setIfInBounds d x) (kill d a) v B := by
  unfold Go.AI.kill
  cases hl : isLp d a with
  | false => rw [cond_false]; exact h.tm_other hl
  | true =>
    rw [cond_true]
    cases a <;> simp [isLp] at hl
    obtain ⟨r, _, _, hB⟩ := h
    exact hB

theorem FR.del {e : Env} {tm : Array Value} {d : Nat} {x : Value} : ∀ {fr : Fr} {B : List Nat}, FR e tm fr B →
    ∃ B', FR e (tm.setIfInBounds d x) (del d fr) B' ∧ B'.Sublist B
  | [], _, h => ⟨[], rfl, by rw [show _ = [] from h]; exact List.Sublist.refl _⟩
  | (t, a) :: r, _, ⟨v, B1, B2, ht, ha, hr, rfl⟩ => by
    obtain ⟨B', h1, h2⟩ := hr.del (d := d) (x := x)
    by_cases htd : t = d
    · exact ⟨B', by simpa [Go.AI.del, htd] using h1, h2.trans (List.sublist_append_right _ _)⟩
    · refine ⟨B1 ++ B', ?_, List.Sublist.append (List.Sublist.refl _) h2⟩
      simp only [Go.AI.del, if_neg htd]
      exact ⟨v, B1, B', by rw [Array.getElem?_setIfInBounds_ne (fun h => htd h.symm)]; exact ht, ha.kill, h1, rfl⟩

theorem FR.get {e : Env} {tm : Array Value} {t : Nat} {a : AV} {fr : Fr} {B : List Nat} (h : FR e tm fr B) (hg : get fr t = some a) : ∃ v B1, tm[t]? = some v ∧ AR e tm a v B1 ∧ ∀ r ∈ B1, r ∈ B := by
  obtain ⟨v, B1, B2, h1, h2, h3, _⟩ := h.split hg
  exact ⟨v, B1, h1, h2, fun r hr => h3.subset (List.mem_append_left _ hr)⟩

/-- Slot 't' falls away. -/
def rm (t : Nat) : Fr → Fr
  | [] => []
  | (u, a) :: r => if u = t then rm t r else (u, a) :: rm t r

theorem get_rm {t u : Nat} (h : u ≠ t) : ∀ (fr : Fr), Go.AI.get (rm t fr) u = Go.AI.get fr u
  | [] => rfl
  | (v, a) :: r => by
    by_cases hv : v = t
    · have : v ≠ u := fun h' => h (by rw [← h', hv])
      simp [rm, hv, Go.AI.get, get_rm h r, show t ≠ u from fun h' => h h'.symm]
    · simp [rm, hv, Go.AI.get, get_rm h r]

theorem FR.rm {e : Env} {tm : Array Value} {t : Nat} : ∀ {fr : Fr} {B : List Nat}, FR e tm fr B → ∃ B', FR e tm (Go.AI.rm t fr) B' ∧ B'.Sublist B
  | [], _, h => ⟨[], rfl, by rw [show _ = [] from h]; exact List.Sublist.refl _⟩
  | (u, a) :: r, _, ⟨v, B1, B2, ht, ha, hr, rfl⟩ => by
    obtain ⟨B', h1, h2⟩ := hr.rm (t := t)
    by_cases htd : u = t
    · exact ⟨B', by simpa [Go.AI.rm, htd] using h1, h2.trans (List.sublist_append_right _ _)⟩
    · refine ⟨B1 ++ B', ?_, List.Sublist.append (List.Sublist.refl _) h2⟩
      simp only [Go.AI.rm, if_neg htd]
      exact ⟨v, B1, B', ht, ha, h1, rfl⟩

theorem FR.take {e : Env} {tm : Array Value} {t : Nat} {a : AV} : ∀ {fr : Fr} {B : List Nat}, FR e tm fr B → Go.AI.get fr t = some a →
    ∃ v B1 B2, tm[t]? = some v ∧ AR e tm a v B1 ∧ FR e tm (Go.AI.rm t fr) B2 ∧ ∃ C, (B1 ++ B2 ++ C).Perm B
  | [], _, _, hg => by simp [Go.AI.get] at hg
  | (u, c) :: r, _, ⟨v, B1, B2, ht, ha, hr, rfl⟩, hg => by
    by_cases hu : u = t
    · subst hu
      simp only [Go.AI.get, if_true, Option.some.injEq] at hg
      subst hg
      obtain ⟨B', h1, h2⟩ := hr.rm (t := u)
      obtain ⟨C, hC⟩ := h2.exists_perm_append
      refine ⟨v, B1, B', ht, ha, by simpa [Go.AI.rm] using h1, C, ?_⟩
      rw [List.append_assoc]
      exact List.Perm.append_left _ hC.symm
    · simp only [Go.AI.get, if_neg hu] at hg
      obtain ⟨v', C1, C2, ht', ha', hf, C, hC⟩ := hr.take hg
      refine ⟨v', C1, B1 ++ C2, ht', ha', ?_, C, ?_⟩
      · simp only [Go.AI.rm, if_neg hu]
        exact ⟨v, B1, C2, ht, ha, hf, rfl⟩
      · refine List.Perm.trans ?_ (List.Perm.append_left B1 hC)
        simp only [← List.append_assoc]
        exact List.Perm.append_right _ (List.Perm.append_right _ List.perm_append_comm)

theorem FR.restrict {e : Env} {tm : Array Value} : ∀ (l : List Nat) {fr : Fr} {B : List Nat}, l.Nodup → FR e tm fr B →
    ∃ B', FR e tm (Go.AI.restrict fr l) B' ∧ ∃ C, (B' ++ C).Perm B
  | [], fr, B, _, h => ⟨[], rfl, B, .rfl⟩
  | t :: l, fr, B, hn, h => by
    have hn' := List.nodup_cons.1 hn
    have hrm : Go.AI.restrict fr l = Go.AI.restrict (Go.AI.rm t fr) l := by
      have : ∀ (m : List Nat), t ∉ m → Go.AI.restrict fr m = Go.AI.restrict (Go.AI.rm t fr) m := by
        intro m
        induction m with
        | nil => intro _; rfl
        | cons u m ih =>
          intro hm
          have hu : u ≠ t := fun h' => hm (by simp [h'])
          simp only [Go.AI.restrict, get_rm hu, ih (fun h' => hm (List.mem_cons_of_mem _ h'))]
      exact this l hn'.1
    cases hg : Go.AI.get fr t with
    | none =>
      obtain ⟨B', h1, h2⟩ := FR.restrict l hn'.2 h
      exact ⟨B', by simpa [Go.AI.restrict, hg] using h1, h2⟩
    | some a =>
      cases hk : keepB a with
      | false =>
        obtain ⟨B', h1, h2⟩ := FR.restrict l hn'.2 h
        exact ⟨B', by simpa [Go.AI.restrict, hg, hk] using h1, h2⟩
      | true =>
        obtain ⟨v, B1, B2, ht, ha, hf, C, hC⟩ := h.take hg
        obtain ⟨B', h1, D, hD⟩ := FR.restrict l hn'.2 hf
        refine ⟨B1 ++ B', ?_, D ++ C, ?_⟩
        · simp only [Go.AI.restrict, hg, hk, cond_true]
          rw [hrm]
          exact ⟨v, B1, B', ht, ha, h1, rfl⟩
        · refine List.Perm.trans ?_ hC
          simp only [← List.append_assoc]
          refine List.Perm.append_right _ ?_
          rw [List.append_assoc]
          exact List.Perm.append_left _ hD

end Go.AI

/- The machine's operations against the interpreter's: what is read, what only computes. -/
namespace Go.AI
set_option linter.unusedVariables false

/-- The call's beginning: its world, what nobody writes, the blocks that it may write, the shared heap's blocks. -/
structure Ent where
  w : World
  Φ : Mem
  X : List Nat
  μ : List Nat

/-- What the call has not to do with. -/
structure SameIO (w w' : World) : Prop where
  os : w'.os = w.os
  tape : w'.tape = w.tape
  output : w'.output = w.output

theorem SameIO.trans {a b c : World} (h : SameIO a b) (k : SameIO b c) : SameIO a c := ⟨k.os.trans h.os, k.tape.trans h.tape, k.output.trans h.output⟩

structure Inv (E : Ent) (w : World) (Φ : Mem) (μ : List Nat) (B : List Nat) : Prop where
  wok : WOK Φ w.heap
  size : E.w.heap.size ≤ w.heap.size
  sub : Sub E.Φ Φ
  mu : ∀ (b r : Nat), E.μ[b]? = some r → μ[b]? = some r
  keep : ∀ r, r < E.w.heap.size → r ∉ E.X → w.heap[r]? = E.w.heap[r]? ∧ ∀ o, Φ r o = E.Φ r o
  own : ∀ r ∈ B, r ∈ E.X ∨ E.w.heap.size ≤ r
  io : SameIO E.w w

theorem Inv.perm {E : Ent} {w : World} {Φ : Mem} {μ B C : List Nat} (h : Inv E w Φ μ B) (hs : ∀ r ∈ C, r ∈ B) : Inv E w Φ μ C :=
  ⟨h.wok, h.size, h.sub, h.mu, h.keep, fun r hr => h.own r (hs r hr), h.io⟩

def SR (E : Ent) (s : ST) (tm : Array Value) (w : World) : Prop :=
  ∃ Φ μ BF BH, FR ⟨Φ, w.heap, μ⟩ tm s.fr BF ∧ HR ⟨Φ, w.heap, μ⟩ s.H μ BH ∧ (BF ++ BH).Nodup ∧ Inv E w Φ μ (BF ++ BH)

def VR (E : Ent) (v : AV) (fr : Fr) (H : Hp) (tm : Array Value) (x : Value) (w : World) : Prop :=
  ∃ Φ μ BV BF BH, AR ⟨Φ, w.heap, μ⟩ tm v x BV ∧ FR ⟨Φ, w.heap, μ⟩ tm fr BF ∧ HR ⟨Φ, w.heap, μ⟩ H μ BH ∧ (BV ++ (BF ++ BH)).Nodup ∧ Inv E w Φ μ (BV ++ (BF ++ BH))

theorem nodup_sub {A B C : List Nat} (h : (A ++ B).Nodup) (hs : C.Sublist A) : (C ++ B).Nodup := h.sublist (List.Sublist.append hs (List.Sublist.refl _))

def putTm (tm : Array Value) (dst : Option Nat) (x : Value) : Array Value :=
  match dst with
  | some d => tm.setIfInBounds d x
  | none => tm

theorem VR.put {E : Ent} {v : AV} {fr : Fr} {H : Hp} {tm : Array Value} {x : Value} {w : World} (h : VR E v fr H tm x w) (dst : Option Nat)
    (hd : ∀ d, dst = some d → d < tm.size) : SR E ⟨put dst v fr, H⟩ (putTm tm dst x) w := by
  obtain ⟨Φ, μ, BV, BF, BH, hv, hf, hh, hn, hi⟩ := h
  cases dst with
  | none =>
    refine ⟨Φ, μ, BF, BH, hf, hh, (List.nodup_append.1 hn).2.1, hi.perm fun r hr => List.mem_append_right _ hr⟩
  | some d =>
    obtain ⟨B', h1, h2⟩ := hf.del (d := d) (x := x)
    have hsub : (B' ++ BH).Sublist (BF ++ BH) := List.Sublist.append h2 (List.Sublist.refl _)
    have hs2 : (BV ++ B' ++ BH).Sublist (BV ++ (BF ++ BH)) := by
      rw [List.append_assoc]; exact List.Sublist.append (List.Sublist.refl _) hsub
    refine ⟨Φ, μ, BV ++ B', BH, ⟨x, BV, B', ?_, hv.kill, h1, rfl⟩, hh, hn.sublist hs2, hi.perm fun r hr => hs2.subset hr⟩
    simp [putTm, hd d rfl]

/-- What the globals hold, nobody writes. -/
def GOK (glob : Nat → Option DV) (Φ : Mem) : Prop := ∀ g x, glob g = some x → PtR Φ x ⟨g, 0, none⟩

/-- .. and each is no longer than what it reads as, and nobody's own. -/
def GOKH (glob : Nat → Option DV) (Φ : Mem) (heap : Array Obj) (X : List Nat) : Prop :=
  GOK glob Φ ∧ ∀ g x, glob g = some x → g ∉ X ∧ ∃ c el fz, heap[g]? = some (.cells c el fz) ∧ c.size = x.cells.length

theorem GOKH.weak {glob : Nat → Option DV} {Φ : Mem} {heap : Array Obj} {X Y : List Nat} (h : GOKH glob Φ heap X) (hs : ∀ r ∈ Y, r ∈ X) : GOKH glob Φ heap Y :=
  ⟨h.1, fun g x hx => ⟨fun hm => (h.2 g x hx).1 (hs g hm), (h.2 g x hx).2⟩⟩

theorem GOKH.step {glob : Nat → Option DV} {E : Ent} {w : World} {Φ : Mem} {μ B : List Nat} (h : GOKH glob E.Φ E.w.heap E.X) (hI : Inv E w Φ μ B) : GOKH glob Φ w.heap B := by
  refine ⟨fun g x hx => (h.1 g x hx).mono hI.sub, fun g x hx => ?_⟩
  obtain ⟨h1, c, el, fz, h2, h3⟩ := h.2 g x hx
  have hlt : g < E.w.heap.size := (Array.getElem?_eq_some_iff.1 h2).1
  refine ⟨fun hm => ?_, c, el, fz, by rw [(hI.keep g hlt h1).1]; exact h2, h3⟩
  rcases hI.own g hm with h | h
  · exact h1 h
  · omega

theorem AC.ofConst0 {e : Env} {v : Value} {a : AV} (h : ofConst0 v = some a) : AC e a v [] := by
  unfold Go.AI.ofConst0 at h
  split at h <;> first | (injection h with h; subst h) | (simp at h; done)
  · exact ⟨.bool _, rfl⟩
  · exact ⟨.int _ _, rfl⟩
  · exact ⟨.str _ _ rfl, rfl⟩
  · exact .inl ⟨rfl, rfl, rfl⟩
  · exact ⟨rfl, rfl⟩
  · exact ⟨rfl, rfl⟩
  · exact ⟨.nilI, rfl⟩
  · exact ⟨rfl, rfl⟩

theorem All2O.ofConsts {e : Env} : ∀ {vs : List Value} {as : List AV}, ofConsts vs = some as → All2O (AC e) as vs []
  | [], _, h => by simp [Go.AI.ofConsts] at h; subst h; exact .nil
  | v :: r, _, h => by
    simp only [Go.AI.ofConsts] at h
    split at h
    · rename_i a as h1 h2
      injection h with h; subst h
      simpa using All2O.cons (AC.ofConst0 h1) (All2O.ofConsts h2)
    · simp at h

theorem AR.of_AC {e : Env} {tm : Array Value} {a : AV} {v : Value} {B : List Nat} (h : AC e a v B) : AR e tm a v B := by
  cases a <;> first | exact h | exact h.elim

theorem AR1.of_AC {e : Env} {a : AV} {v : Value} {B : List Nat} (h : AC e a v B) : AR1 e a v B := by
  cases a <;> first | exact h | exact h.elim

theorem AR.of_AR1 {e : Env} {tm : Array Value} {a : AV} {v : Value} {B : List Nat} (h : AR1 e a v B) : AR e tm a v B := by
  cases a <;> first | exact h | exact h.elim

theorem ofConst0_plain {v : Value} {a : AV} (h : ofConst0 v = some a) : plainC a = true := by
  unfold Go.AI.ofConst0 at h
  split at h <;> first | (injection h with h; subst h; rfl) | (simp at h; done)

theorem AR.ofConst {e : Env} {tm : Array Value} {v : Value} {a : AV} (h : ofConst v = some a) : AR e tm a v [] := by
  unfold Go.AI.ofConst at h
  split at h
  · rename_i cs
    cases h1 : ofConsts cs.toList with
    | none => rw [h1] at h; simp at h
    | some as => rw [h1] at h; simp at h; subst h; exact ⟨cs, rfl, All2O.ofConsts h1⟩
  · exact AR.of_AC (AC.ofConst0 h)

section reads
variable {cx : Cx} {E : Ent} {e : Env} {tm : Array Value} {fr : Fr} {B : List Nat} {a : Act}

theorem rd_sound (hf : FR e tm fr B) (ht : a.tmps = tm) (hg : GOK cx.glob e.Φ) {o : Operand} {v : AV} (h : rd cx fr o = some v) : AR e tm v (a.eval o) [] := by
  cases o with
  | tmp t =>
    simp only [rd] at h
    split at h
    · rename_i cs hget
      injection h with h; subst h
      obtain ⟨x, B1, h1, h2, _⟩ := hf.get hget
      obtain ⟨r, hx, _⟩ := h2
      exact ⟨r, by rw [h1, hx], by simp [Act.eval, ht, h1, hx], rfl⟩
    · simp at h
    · rename_i c hnb hnj hget
      injection h with h; subst h
      obtain ⟨x, B1, h1, h2, _⟩ := hf.get hget
      have : a.eval (.tmp t) = x := by simp [Act.eval, ht, h1]
      rw [this]
      exact h2.dup fun cs hc => hnb cs hc
    · simp at h
  | const v' => exact AR.ofConst h
  | global g =>
    simp only [rd] at h
    cases hgl : cx.glob g with
    | none => rw [hgl] at h; simp at h
    | some x => rw [hgl] at h; simp at h; subst h; exact ⟨_, rfl, hg g x hgl, rfl⟩
  | func f => simp only [rd] at h; injection h with h; subst h; exact ⟨rfl, rfl⟩

theorem rds_sound (hf : FR e tm fr B) (ht : a.tmps = tm) (hg : GOK cx.glob e.Φ) : ∀ {os : List Operand} {vs : List AV}, rds cx fr os = some vs →
    All2 (fun v x => AR e tm v x []) vs (os.map a.eval)
  | [], _, h => by simp [rds] at h; subst h; exact .nil
  | o :: r, _, h => by
    simp only [rds] at h
    split at h
    · rename_i v vs h1 h2
      injection h with h; subst h
      exact .cons (rd_sound hf ht hg h1) (rds_sound hf ht hg h2)
    · simp at h

/-- Read with what it may be appended to. -/
theorem rdS_sound (hf : FR e tm fr B) (ht : a.tmps = tm) (hg : GOK cx.glob e.Φ) {st : Bool} {o : Operand} {v : AV} {fr' : Fr} (h : rdS cx st fr o = some (v, fr')) :
    ∃ BV BF C, AR e tm v (a.eval o) BV ∧ FR e tm fr' BF ∧ (BV ++ BF ++ C).Perm B := by
  have plain : ∀ v, rd cx fr o = some v → ∃ BV BF C, AR e tm v (a.eval o) BV ∧ FR e tm fr BF ∧ (BV ++ BF ++ C).Perm B := fun v h =>
    ⟨[], B, [], rd_sound hf ht hg h, hf, by simp⟩
  have viaMap : ((rd cx fr o).map fun a => (a, fr)) = some (v, fr') → ∃ BV BF C, AR e tm v (a.eval o) BV ∧ FR e tm fr' BF ∧ (BV ++ BF ++ C).Perm B := fun h => by
    cases h1 : rd cx fr o with
    | none => rw [h1] at h; simp at h
    | some u => rw [h1] at h; simp at h; obtain ⟨rfl, rfl⟩ := h; exact plain _ h1
  cases st with
  | false => simp only [rdS, cond_false] at h; exact viaMap h
  | true =>
    simp only [rdS, cond_true] at h
    cases o with
    | tmp t =>
      simp only at h
      split at h
      · rename_i cs hget
        injection h with h
        obtain ⟨rfl, rfl⟩ := Prod.mk.inj h
        exact plain _ (by simp [rd, hget])
      · simp at h
      · rename_i c hnb hnj hget
        injection h with h
        obtain ⟨rfl, rfl⟩ := Prod.mk.inj h
        obtain ⟨x, B1, B2, h1, h2, h3, h4⟩ := hf.split hget
        obtain ⟨B'', h5, h6⟩ := h4 e (dup c) [] (h2.dup fun cs hc => hnb cs hc) (Step.refl _ _)
        have : a.eval (.tmp t) = x := by simp [Act.eval, ht, h1]
        rw [this, disown_upd hget]
        refine ⟨B1, B'', [], h2, h5, ?_⟩
        rw [List.append_nil]
        exact (List.Perm.append_left _ h6).trans (by simpa using h3)
      · simp at h
    | const v' => exact viaMap h
    | global g => exact viaMap h
    | func f => exact viaMap h

theorem rdsS_sound (ht : a.tmps = tm) (hg : GOK cx.glob e.Φ) {st : Bool} : ∀ {os : List Operand} {fr : Fr} {B : List Nat} {vs : List AV} {fr' : Fr}, FR e tm fr B → rdsS cx st fr os = some (vs, fr') →
    ∃ BV BF C, All2O (AR e tm) vs (os.map a.eval) BV ∧ FR e tm fr' BF ∧ (BV ++ BF ++ C).Perm B
  | [], fr, B, _, _, hf, h => by simp [rdsS] at h; obtain ⟨rfl, rfl⟩ := h; exact ⟨[], B, [], .nil, hf, by simp⟩
  | o :: r, fr, B, _, _, hf, h => by
    simp only [rdsS] at h
    split at h
    · rename_i v fr1 h1
      split at h
      · rename_i vs fr2 h2
        injection h with h
        obtain ⟨rfl, rfl⟩ := Prod.mk.inj h
        obtain ⟨BV, BF, C, h3, h4, h5⟩ := rdS_sound hf ht hg h1
        obtain ⟨BV', BF', C', h6, h7, h8⟩ := rdsS_sound ht hg h4 h2
        refine ⟨BV ++ BV', BF', C' ++ C, .cons h3 h6, h7, ?_⟩
        refine List.Perm.trans ?_ h5
        simp only [← List.append_assoc]
        refine List.Perm.append_right _ ?_
        simp only [List.append_assoc]
        refine List.Perm.append_left _ ?_
        simpa [List.append_assoc] using h8
      · simp at h
    · simp at h
end reads

/-! ### Nil slices fixed -/

theorem AC.fixC {e : Env} {f : Option Nat} {a : AV} {v : Value} {B : List Nat} (h : AC e a v B) : AC e (Go.AI.fixC f a) v B := by
  unfold Go.AI.fixC
  split
  · rename_i n
    rcases h with ⟨h1, _, h3⟩ | ⟨_, _, _, h0, _⟩
    · exact .inl ⟨h1, rfl, h3⟩
    · omega
  · rename_i n
    obtain ⟨h1, h2⟩ := h
    refine ⟨?_, h2⟩
    rcases h1.sl_inv with ⟨rfl, _⟩ | ⟨a, cap, rfl, hc, hs, _⟩
    · exact .nil n
    · exact .of_SlR ⟨hs, fun i x hx => by simp at hx⟩ hc
  · exact h

theorem All2O.fixCs {e : Env} : ∀ {fx : List (Option Nat)} {cs : List AV} {vs : List Value} {B : List Nat}, All2O (AC e) cs vs B → All2O (AC e) (Go.AI.fixCs fx cs) vs B
  | [], _, _, _, h => h
  | f :: fx, _, _, _, .nil => .nil
  | f :: fx, _, _, _, .cons ha hr => .cons ha.fixC (All2O.fixCs hr)

theorem fixC_lp {f : Option Nat} {u o : Nat} : fixC f (.lp u o) = .lp u o := by unfold fixC; split <;> first | rfl | contradiction

theorem AR1.fixA {e : Env} {fx : List (Option Nat)} {a : AV} {v : Value} {B : List Nat} (h : AR1 e a v B) : AR1 e (Go.AI.fixA fx a) v B := by
  cases a
  case agg cs => obtain ⟨vs, hv, h⟩ := h; exact ⟨vs, hv, h.fixCs⟩
  all_goals
    cases fx with
    | nil => exact h
    | cons f fx => exact AR1.of_AC (AC.fixC (show AC e _ v B from h))

theorem fixC_other {f : Option Nat} {a : AV} (h1 : ∀ s xs, a ≠ .osl s xs) (h2 : ∀ x, a ≠ .d x) : fixC f a = a := by
  unfold fixC; split
  · exact (h1 _ _ rfl).elim
  · exact (h2 _ rfl).elim
  · rfl

theorem AR.fixA {e : Env} {tm : Array Value} {fx : List (Option Nat)} {a : AV} {v : Value} {B : List Nat} (h : AR e tm a v B) : AR e tm (Go.AI.fixA fx a) v B := by
  cases a
  case d x => exact AR.of_AR1 (AR1.fixA (a := .d x) h)
  case osl s xs => exact AR.of_AR1 (AR1.fixA (a := .osl s xs) h)
  case agg cs => exact AR.of_AR1 (AR1.fixA (a := .agg cs) h)
  all_goals
    cases fx with
    | nil => exact h
    | cons f fx => (show AR e tm (Go.AI.fixC f _) v B); rw [fixC_other (by simp) (by simp)]; exact h

theorem fixA_lp {fx : List (Option Nat)} {u o : Nat} : fixA fx (.lp u o) = .lp u o := by
  cases fx with
  | nil => rfl
  | cons f fx => exact fixC_lp

theorem fixC_lp_inv {f : Option Nat} {a : AV} {u o : Nat} (h : fixC f a = .lp u o) : a = .lp u o := by
  unfold fixC at h; split at h <;> first | exact h | cases h

theorem fixA_lp_inv {fx : List (Option Nat)} {a : AV} {u o : Nat} (h : fixA fx a = .lp u o) : a = .lp u o := by
  cases a
  case agg => cases h
  all_goals
    cases fx with
    | nil => exact h
    | cons f fx => exact fixC_lp_inv h

theorem fixA_junk_inv {fx : List (Option Nat)} {a : AV} (h : fixA fx a = .junk) : a = .junk := by
  cases a
  case agg => cases h
  all_goals
    cases fx with
    | nil => exact h
    | cons f fx => (have h' : Go.AI.fixC f _ = _ := h); unfold fixC at h'; split at h' <;> first | exact h' | cases h'

theorem okV_fix {fx : List (Option Nat)} {a : AV} {f : Foot} : okV (fixA fx a) f = okV a f := by
  cases a
  case lp => rw [fixA_lp]
  case agg => rfl
  all_goals
    cases fx with
    | nil => rfl
    | cons g fx => (show okV (fixC g _) f = _); unfold fixC; split <;> rfl

theorem rdF_sound {e : Env} {B : List Nat} {tm : Array Value} {a : Act} {cx : Cx} {fr : Fr} (hf : FR e tm fr B) (ht : a.tmps = tm) (hg : GOK cx.glob e.Φ) {fx : List (Option Nat)} {st : Bool} {o : Operand} {v : AV} {fr' : Fr} (h : rdF cx fx st fr o = some (v, fr')) :
    ∃ BV BF C, AR e tm v (a.eval o) BV ∧ FR e tm fr' BF ∧ (BV ++ BF ++ C).Perm B := by
  unfold rdF at h
  split at h
  · rename_i u fr1 h1
    obtain ⟨rfl, rfl⟩ := Prod.mk.inj (Option.some.inj h)
    obtain ⟨BV, BF, C, h2, h3, h4⟩ := rdS_sound hf ht hg h1
    exact ⟨BV, BF, C, h2.fixA, h3, h4⟩
  · simp at h

theorem All2.fixArgs {e : Env} {tm : Array Value} {P : Program} : ∀ {ts : List TypeId} {as : List AV} {vs : List Value}, All2 (fun a x => AR e tm a x []) as vs → All2 (fun a x => AR e tm a x []) (Go.AI.fixArgs P ts as) vs
  | [], _, _, h => h
  | t :: ts, _, _, .nil => .nil
  | t :: ts, _, _, .cons ha hr => .cons ha.fixA (All2.fixArgs hr)

theorem rdsF_sound {e : Env} {B : List Nat} {tm : Array Value} {a : Act} {cx : Cx} {fr : Fr} (hf : FR e tm fr B) (ht : a.tmps = tm) (hg : GOK cx.glob e.Φ) {ts : List TypeId} {os : List Operand} {vs : List AV} (h : rdsF cx fr ts os = some vs) :
    All2 (fun a x => AR e tm a x []) vs (os.map a.eval) := by
  unfold rdsF at h
  split at h
  · rename_i us h1
    obtain rfl := Option.some.inj h
    exact (rds_sound hf ht hg h1).fixArgs
  · simp at h

end Go.AI

/- Operations that only compute. -/
namespace Go.AI
set_option linter.unusedVariables false
set_option linter.unusedSimpArgs false

theorem toList_of {b : ByteArray} {s : List UInt8} (h : b.data.toList = s) : b = ⟨s.toArray⟩ := by
  subst h; cases b; simp

theorem beq_toList (a b : ByteArray) : (a.toList == b.toList) = decide (a.data.toList = b.data.toList) := by
  rw [ByteArray.toList_eq, ByteArray.toList_eq, Bool.eq_iff_iff]; simp

theorem size_data (b : ByteArray) : b.size = b.data.toList.length := by cases b; simp [ByteArray.size]

section
variable {P : Program} {Φ : Mem} {w : World}

theorem str_sound {op : BinOp} {a b : ByteArray} {z : DV} (h : strBin op a.data.toList b.data.toList = some z) : ∃ v, (Op.stringOp op a b).run P w = .ok v w ∧ CR Φ z v := by
  cases op
  case add =>
    simp only [strBin] at h
    split at h
    · rename_i hle
      obtain rfl := Option.some.inj h
      refine ⟨.string (a ++ b), ?_, .str _ _ (by simp)⟩
      rw [← size_data, ← size_data] at hle
      have : ¬ (((a.size + b.size : Nat) : Int) > IntKind.i64.max) := by
        have : IntKind.i64.max = 9223372036854775807 := by decide
        omega
      simp only [Op.stringOp, if_neg this, Sem.run_pure]
    · simp at h
  case eql => obtain rfl := Option.some.inj h; exact ⟨.bool _, by simp only [Op.stringOp, Sem.run_pure, beq_toList], .bool _⟩
  case neq => obtain rfl := Option.some.inj h; exact ⟨.bool _, by simp only [Op.stringOp, Sem.run_pure, beq_toList], .bool _⟩
  case lss => obtain rfl := Option.some.inj h; exact ⟨.bool _, by simp only [Op.stringOp, Sem.run_pure, ByteArray.toList_eq], .bool _⟩
  case leq => obtain rfl := Option.some.inj h; exact ⟨.bool _, by simp only [Op.stringOp, Sem.run_pure, beq_toList]; simp only [ByteArray.toList_eq], .bool _⟩
  case gtr => obtain rfl := Option.some.inj h; exact ⟨.bool _, by simp only [Op.stringOp, Sem.run_pure, beq_toList]; simp only [ByteArray.toList_eq], .bool _⟩
  case geq => obtain rfl := Option.some.inj h; exact ⟨.bool _, by simp only [Op.stringOp, Sem.run_pure, ByteArray.toList_eq], .bool _⟩
  all_goals exact absurd h (by simp [strBin])

theorem intCmp_sound {op : BinOp} {k : IntKind} {a b : Int} {z : DV} (h : intBin op k a b = some z) (hs : op ≠ .shl ∧ op ≠ .shr) (t : TypeId) :
    ∃ v, (Go.binOp op t (.int k a) (.int k b)).run P w = .ok v w ∧ CR Φ z v := by
  cases op
  case shl => exact (hs.1 rfl).elim
  case shr => exact (hs.2 rfl).elim
  case quo =>
    simp only [intBin] at h
    split at h
    · simp at h
    · rename_i hb; injection h with h; subst h; exact ⟨_, by simp [Go.binOp, Op.intDiv, hb], .int _ _⟩
  case rem =>
    simp only [intBin] at h
    split at h
    · simp at h
    · rename_i hb; injection h with h; subst h; exact ⟨_, by simp [Go.binOp, Op.intDiv, hb], .int _ _⟩
  all_goals
    simp only [intBin] at h
    injection h with h; subst h
    first
      | exact ⟨_, by simp only [Go.binOp, ne_eq, not_true_eq_false, if_false, Op.intArith, Op.intBits, Op.intCmp, Sem.run_pure], .int _ _⟩
      | exact ⟨.bool _, by simp only [Go.binOp, ne_eq, not_true_eq_false, if_false, Op.intCmp, Sem.run_pure]; first | done | rfl, .bool _⟩

theorem eqGuard_scalar (op : BinOp) (t : TypeId) (x y : Operand) {a b : Value} (h : ∀ cs, a ≠ .agg cs) (hn : a ≠ .nilIface) : (eqGuard op t x y a b).run P w = .ok () w := by
  cases a <;> first
    | exact (hn rfl).elim
    | exact (h _ rfl).elim
    | (unfold eqGuard; split <;> rfl)

theorem bin_sound {op : BinOp} {t : TypeId} {x y z : DV} {vx vy : Value} (hx : CR Φ x vx) (hy : CR Φ y vy) (h : binDV P op t x y = some z) (o1 o2 : Operand) :
    ∃ v, (do eqGuard op t o1 o2 vx vy; Go.binOp op t vx vy).run P w = .ok v w ∧ CR Φ z v := by
  have key : ∀ v, (eqGuard op t o1 o2 vx vy).run P w = .ok () w → (Go.binOp op t vx vy).run P w = .ok v w → CR Φ z v →
      ∃ v, (do eqGuard op t o1 o2 vx vy; Go.binOp op t vx vy).run P w = .ok v w ∧ CR Φ z v := fun v h1 h2 h3 =>
    ⟨v, by rw [Sem.run_bind, h1]; exact h2, h3⟩
  cases hx <;> cases hy <;> simp only [binDV] at h <;> try (simp at h; done)
  · rename_i a b
    split at h
    · rename_i hu
      obtain rfl := Option.some.inj h
      exact key (.bool (a == b)) (eqGuard_scalar _ _ _ _ (by simp) (by simp)) (run_eql_bool w t a b hu) (.bool _)
    · rename_i hu
      obtain rfl := Option.some.inj h
      exact key (.bool (!(a == b))) (eqGuard_scalar _ _ _ _ (by simp) (by simp)) (run_neq_bool w t a b hu) (.bool _)
    · simp at h
  · rename_i k a k' b
    by_cases hs : op = .shl ∨ op = .shr
    · have hsh : ∀ v, (Op.shift op k a k' b).run P w = .ok v w → (Go.binOp op t (.int k a) (.int k' b)).run P w = .ok v w := by
        intro v hv; rcases hs with rfl | rfl <;> exact hv
      rcases hs with rfl | rfl
      · simp only [intBin] at h
        split at h
        · simp at h
        · rename_i hb
          obtain rfl := Option.some.inj h
          exact key _ (eqGuard_scalar _ _ _ _ (by simp) (by simp)) (hsh _ (by simp only [Op.shift, if_neg hb, Sem.run_pure])) (.int _ _)
      · simp only [intBin] at h
        split at h
        · simp at h
        · rename_i hb
          obtain rfl := Option.some.inj h
          exact key _ (eqGuard_scalar _ _ _ _ (by simp) (by simp)) (hsh _ (by simp only [Op.shift, if_neg hb, Sem.run_pure])) (.int _ _)
    · have hs' : op ≠ .shl ∧ op ≠ .shr := ⟨fun h => hs (.inl h), fun h => hs (.inr h)⟩
      have h' : (if k = k' then intBin op k a b else none) = some z := by
        cases op <;> first | exact h | exact (hs'.1 rfl).elim | exact (hs'.2 rfl).elim
      split at h'
      · rename_i hk
        subst hk
        obtain ⟨v, h1, h2⟩ := intCmp_sound (P := P) (Φ := Φ) (w := w) h' hs' t
        exact key v (eqGuard_scalar _ _ _ _ (by simp) (by simp)) h1 h2
      · simp at h'
  · rename_i s1 b1 h1 s2 b2 h2
    subst h1; subst h2
    obtain ⟨v, h3, h4⟩ := str_sound (P := P) (Φ := Φ) (w := w) h
    refine key v (eqGuard_scalar _ _ _ _ (by simp) (by simp)) ?_ h4
    cases op <;> exact h3

theorem un_sound {op : UnOp} {x z : DV} {vx : Value} (hx : CR Φ x vx) (h : unDV op x = some z) : ∃ v, (Op.unary op vx).run P w = .ok v w ∧ CR Φ z v := by
  cases hx <;> cases op <;> simp only [unDV] at h <;> try (simp at h; done)
  all_goals obtain rfl := Option.some.inj h
  · exact ⟨_, by simp only [Op.unary, Sem.run_pure], .bool _⟩
  · exact ⟨_, by simp only [Op.unary, Op.intArith, Sem.run_pure], .int _ _⟩
  · exact ⟨_, by simp only [Op.unary, Op.intBits, Sem.run_pure], .int _ _⟩

theorem min2_sound {x y z : DV} {vx vy : Value} (hx : CR Φ x vx) (hy : CR Φ y vy) (h : min2D x y = some z) : ∃ v, (Builtin.min2 vx vy).run P w = .ok v w ∧ CR Φ z v := by
  cases hx <;> cases hy <;> simp only [min2D] at h <;> try (simp at h; done)
  obtain rfl := Option.some.inj h
  exact ⟨_, rfl, .int _ _⟩

theorem max2_sound {x y z : DV} {vx vy : Value} (hx : CR Φ x vx) (hy : CR Φ y vy) (h : max2D x y = some z) : ∃ v, (Builtin.max2 vx vy).run P w = .ok v w ∧ CR Φ z v := by
  cases hx <;> cases hy <;> simp only [max2D] at h <;> try (simp at h; done)
  obtain rfl := Option.some.inj h
  exact ⟨_, rfl, .int _ _⟩

theorem foldD_sound {tm : Array Value} {e : Env} (he : e.Φ = Φ) {f : DV → DV → Option DV} {g : Value → Value → Sem Value}
    (hfg : ∀ x y z vx vy, CR Φ x vx → CR Φ y vy → f x y = some z → ∃ v, (g vx vy).run P w = .ok v w ∧ CR Φ z v) :
    ∀ {as : List AV} {vs : List Value} {x z : DV} {vx : Value}, All2 (fun v x => AR e tm v x []) as vs → CR Φ x vx → foldD f x as = some z →
    ∃ v, (vs.foldlM g vx).run P w = .ok v w ∧ CR Φ z v
  | [], _, x, z, vx, .nil, hx, h => by simp only [foldD] at h; obtain rfl := Option.some.inj h; exact ⟨vx, rfl, hx⟩
  | a :: as, _, x, z, vx, .cons (b := vb) (bs := vs) ha hr, hx, h => by
    cases a <;> simp only [foldD] at h <;> try (simp at h; done)
    split at h
    · rename_i y hy
      obtain ⟨hy1, _⟩ := ha
      rw [he] at hy1
      obtain ⟨v, h1, h2⟩ := hfg _ _ _ _ _ hx hy1 hy
      obtain ⟨v', h3, h4⟩ := foldD_sound he hfg hr h2 h
      exact ⟨v', by simp only [List.foldlM_cons, Sem.run_bind, h1, Result.andThen_ok, h3], h4⟩
    · simp at h
end

/-! ### Parts of structs and arrays -/

theorem All2O.drop {R : AV → Value → List Nat → Prop} {cs : List AV} {vs : List Value} {B : List Nat} (h : All2O R cs vs B) (n : Nat) (hn : n ≤ cs.length) :
    ∃ B1 B2, All2O R (cs.take n) (vs.take n) B1 ∧ All2O R (cs.drop n) (vs.drop n) B2 ∧ B = B1 ++ B2 := by
  obtain ⟨B1, B2, h1, h2, h3⟩ := All2O.split (cs := cs.take n) (as := cs.drop n) (by simpa using h)
  have hl : (cs.take n).length = n := by simp; omega
  rw [hl] at h1 h2
  exact ⟨B1, B2, h1, h2, h3⟩

theorem All2O.get {R : AV → Value → List Nat → Prop} {cs : List AV} {vs : List Value} {B : List Nat} (h : All2O R cs vs B) (i : Nat) {a : AV} (ha : cs[i]? = some a) :
    ∃ v B1, vs[i]? = some v ∧ R a v B1 ∧ ∀ r ∈ B1, r ∈ B := by
  induction h generalizing i with
  | nil => simp at ha
  | cons h _ ih =>
    cases i with
    | zero => simp at ha; subst ha; exact ⟨_, _, rfl, h, fun r hr => List.mem_append_left _ hr⟩
    | succ i => obtain ⟨v, B1, h1, h2, h3⟩ := ih i (by simpa using ha); exact ⟨v, B1, by simpa using h1, h2, fun r hr => List.mem_append_right _ (h3 r hr)⟩

theorem tyOK_info {P : Program} {t : TypeId} (h : tyOK P t = true) : ∃ i d, P.info? t = some i ∧ P.underlying t = some d := by
  unfold tyOK at h
  cases hu : P.underlying t with
  | none => rw [hu] at h; simp at h
  | some d =>
    cases hi : P.info? t with
    | none => simp [Program.underlying, hi] at hu
    | some i => exact ⟨i, d, rfl, rfl⟩

theorem isAgg_run {P : Program} {w : World} {t : TypeId} (h : tyOK P t = true) : (isAgg t).run P w = .ok (isAggB P t) w := by
  obtain ⟨i, d, hi, hd⟩ := tyOK_info h
  unfold isAgg isAggB underlying
  simp only [Sem.run_bind, run_program, Result.andThen_ok, hd, Sem.run_pure]
  cases d <;> rfl

theorem sizeOf_run {P : Program} {w : World} {t : TypeId} (h : tyOK P t = true) : (Go.sizeOf t).run P w = .ok (P.cellsOf t) w := by
  obtain ⟨i, d, hi, hd⟩ := tyOK_info h
  simp [Go.sizeOf, typeInfo, hi, Program.cellsOf]

theorem All2O.extract {e : Env} {cs : List AV} {vs : Array Value} {B : List Nat} (h : All2O (AC e) cs vs.toList B) (off n : Nat) (hl : off + n ≤ cs.length) :
    ∃ B1, All2O (AC e) ((cs.drop off).take n) (vs.extract off (off + n)).toList B1 ∧ ∀ r ∈ B1, r ∈ B := by
  obtain ⟨B1, B2, h1, h2, rfl⟩ := h.drop off (by omega)
  obtain ⟨C1, C2, h3, h4, rfl⟩ := h2.drop n (by simp; omega)
  refine ⟨C1, ?_, fun r hr => by simp [hr]⟩
  simpa [List.extract_eq_take_drop] using h3

theorem part_sound {P : Program} {w : World} {e : Env} {t : TypeId} {cs : List AV} {vs : Array Value} {B : List Nat} {off : Nat} {a : AV}
    (h : All2O (AC e) cs vs.toList B) (hl : loadA P t cs off = some a) :
    ∃ v B1, (part t vs off).run P w = .ok v w ∧ AR1 e a v B1 ∧ ∀ r ∈ B1, r ∈ B := by
  unfold loadA at hl
  cases ht : tyOK P t with
  | false => rw [ht] at hl; simp at hl
  | true =>
    rw [ht, cond_true] at hl
    unfold partA at hl
    unfold part
    simp only [Sem.run_bind, isAgg_run ht, Result.andThen_ok, sizeOf_run ht]
    cases hag : isAggB P t with
    | true =>
      rw [hag, cond_true] at hl
      split at hl
      · rename_i hle
        obtain rfl := Option.some.inj hl
        obtain ⟨B1, h1, h2⟩ := h.extract off (P.cellsOf t) hle
        refine ⟨.agg (vs.extract off (off + P.cellsOf t)), B1, ?_, ⟨_, rfl, h1⟩, h2⟩
        simp [sizeOf_run ht]
      · simp at hl
    | false =>
      rw [hag, cond_false] at hl
      replace hl : cs[off]? = some a := by split at hl <;> simp_all
      obtain ⟨v, B1, h1, h2, h3⟩ := h.get off hl
      refine ⟨v, B1, ?_, AR1.of_AC h2, h3⟩
      have : vs[off]? = some v := by simpa using h1
      simp [this]

end Go.AI

/- Operations that only compute, continued: fields, elements, addresses, slices, conversions. -/
namespace Go.AI
set_option linter.unusedVariables false
set_option linter.unusedSimpArgs false

theorem add_eq {a : Addr} (h : a.spot = none) (n : Nat) : a.add n = ⟨a.block, a.off + n, none⟩ := by
  unfold Addr.add
  split
  · rename_i hn; subst hn; cases a; simp_all
  · rfl

theorem nil_of_sub {B : List Nat} (h : ∀ r ∈ B, r ∈ ([] : List Nat)) : B = [] := by
  cases B with
  | nil => rfl
  | cons b B => exact absurd (h b (by simp)) (by simp)

section
variable {P : Program} {w : World} {e : Env} {tm : Array Value}

theorem fieldOf_spec {t : TypeId} {i off : Nat} {ft : TypeId} (h : fieldOf P t i = some (off, ft)) :
    ∃ fs f, P.underlying t = some (.struct fs) ∧ fs[i]? = some f ∧ f.offset = off ∧ f.type = ft := by
  unfold fieldOf at h
  split at h
  · rename_i fs hu
    split at h
    · rename_i f hf
      have := Option.some.inj h
      exact ⟨fs, f, hu, hf, (Prod.mk.inj this).1, (Prod.mk.inj this).2⟩
    · simp at h
  · simp at h

theorem fieldA_sound {t : TypeId} {x a : AV} {vx : Value} {i : Nat} (hx : AR e tm x vx []) (h : fieldA P t x i = some a) :
    ∃ v, (Instr.field t vx i).run P w = .ok v w ∧ AR e tm a v [] := by
  unfold fieldA at h
  split at h
  · rename_i off ft cs hf
    obtain ⟨fs, f, hu, hfi, rfl, rfl⟩ := fieldOf_spec hf
    obtain ⟨vs, rfl, hc⟩ := hx
    obtain ⟨v, B1, h1, h2, h3⟩ := part_sound (w := w) hc h
    rw [nil_of_sub h3] at h2
    exact ⟨v, by simp [Instr.field, run_underlying hu, hfi, asAgg, h1], AR.of_AR1 h2⟩
  · simp at h

theorem PtR.part {Φ : Mem} {t : TypeId} {cs : List DV} {off : Nat} {y : DV} {a : Addr} (h : PtR Φ (.agg cs) a) (hp : partD P t cs off = some y)
    (hflat : ∀ c ∈ cs, c.cells = [c]) : PtR Φ y ⟨a.block, a.off + off, none⟩ := by
  obtain ⟨hs, h⟩ := h
  refine ⟨rfl, fun j c hj => ?_⟩
  unfold partD at hp
  cases hag : isAggB P t with
  | true =>
    rw [hag, cond_true] at hp
    split at hp
    · obtain rfl := Option.some.inj hp
      have hj' : cs[off + j]? = some c := by
        simp only [DV.cells] at hj
        rw [List.getElem?_take] at hj
        split at hj
        · rwa [List.getElem?_drop] at hj
        · simp at hj
      obtain ⟨v, h1, h2⟩ := h (off + j) c hj'
      exact ⟨v, by rw [show a.off + off + j = a.off + (off + j) by omega]; exact h1, h2⟩
    · simp at hp
  | false =>
    rw [hag, cond_false] at hp
    have hy := hflat y (List.mem_of_getElem? hp)
    rw [hy] at hj
    cases j with
    | zero =>
      simp at hj; subst hj
      obtain ⟨v, h1, h2⟩ := h off y hp
      exact ⟨v, by simpa using h1, h2⟩
    | succ j => simp at hj

theorem CR.not_agg {Φ : Mem} {x : DV} {v : Value} (h : CR Φ x v) : x.cells = [x] := by cases h <;> rfl

theorem PtR.flat {Φ : Mem} {cs : List DV} {a : Addr} (h : PtR Φ (.agg cs) a) : ∀ c ∈ cs, c.cells = [c] := fun c hc => by
  obtain ⟨j, hj⟩ := List.getElem?_of_mem hc
  obtain ⟨v, _, h2⟩ := h.2 j c hj
  exact h2.not_agg

theorem fieldAddrA_sound {t : TypeId} {x a : AV} {vx : Value} {i : Nat} (hx : AR e tm x vx []) (h : fieldAddrA P t x i = some a) :
    ∃ v, (Instr.fieldAt t vx i).run P w = .ok v w ∧ AR e tm a v [] := by
  unfold fieldAddrA at h
  split at h
  · rename_i off ft hf
    obtain ⟨fs, f, hu, hfi, rfl, rfl⟩ := fieldOf_spec hf
    split at h
    · rename_i hc
      obtain ⟨hok, hpos⟩ := hc
      have hrun : ∀ ad : Addr, ad.spot = none → (Instr.fieldAt t (.pointer (some ad)) i).run P w = .ok (.pointer (some ⟨ad.block, ad.off + f.offset, none⟩)) w := by
        intro ad had
        have hne : ¬ (P.cellsOf f.type = 0) := by omega
        simp [Instr.fieldAt, run_underlying hu, hfi, Instr.sureAddr, fieldPlace, sizeOf_run hok, hne, add_eq had]
      split at h
      · obtain rfl := Option.some.inj h
        obtain ⟨r, h1, rfl, _⟩ := hx
        exact ⟨_, hrun _ rfl, r, h1, rfl, rfl⟩
      · obtain rfl := Option.some.inj h
        obtain ⟨r, h1, rfl, _⟩ := hx
        exact ⟨_, hrun _ rfl, r, h1, rfl, rfl⟩
      · rename_i cs
        cases hp : partD P f.type cs f.offset with
        | none => rw [hp] at h; simp at h
        | some y =>
          rw [hp] at h; simp at h; subst h
          obtain ⟨ad, rfl, h1, _⟩ := hx
          exact ⟨_, hrun _ h1.1, _, rfl, h1.part hp h1.flat, rfl⟩
      · simp at h
    · simp at h
  · simp at h

theorem elems_sound {x : AV} {vx : Value} {sz : Nat} {xs : List DV} (hx : AR e tm x vx []) (h : elems x = some (sz, xs)) : CR e.Φ (.sl sz xs) vx := by
  unfold elems at h
  split at h
  · obtain ⟨rfl, rfl⟩ := Prod.mk.inj (Option.some.inj h); exact hx.1
  · obtain ⟨rfl, rfl⟩ := Prod.mk.inj (Option.some.inj h)
    rcases hx with ⟨rfl, rfl, _⟩ | ⟨a, cap, rfl, _, hs, hc, _⟩
    · exact .nil _
    · exact .of_SlR hs hc
  · simp at h

theorem indexAddrA_sound {t : TypeId} {x ix a : AV} {vx vi : Value} (hx : AR e tm x vx []) (hix : AR e tm ix vi []) (h : indexAddrA P t x ix = some a) :
    ∃ v, (Instr.indexAt t vx vi).run P w = .ok v w ∧ AR e tm a v [] := by
  unfold indexAddrA at h
  split at h
  · rename_i k i
    obtain ⟨hci, _⟩ := hix
    cases hci
    split at h
    · rename_i el hu
      split at h
      · rename_i sz xs hel
        split at h
        · rename_i hc
          obtain ⟨hok, h0, rfl⟩ := hc
          have hcr := elems_sound hx hel
          cases hg : xs[i.toNat]? with
          | none => rw [hg] at h; simp at h
          | some y =>
            rw [hg] at h; simp at h; subst h
            rcases hcr.sl_inv with ⟨rfl, rfl⟩ | ⟨ad, cap, rfl, hle, hs, hsl⟩
            · simp at hg
            · have hlt : i < (xs.length : Int) := by
                have := List.getElem?_eq_some_iff.1 hg
                obtain ⟨h1, _⟩ := this
                omega
              refine ⟨.pointer (some ⟨ad.block, ad.off + i.toNat * P.cellsOf el, none⟩), ?_, _, rfl, ⟨rfl, fun j c hj => ?_⟩, rfl⟩
              · simp [Instr.indexAt, asIntOf, run_underlying hu, h0, hlt, sizeOf_run hok, add_eq hs]
              · exact (hsl _ _ hg).2 j c hj
        · simp at h
      · simp at h
    · rename_i n el hu
      split at h
      · rename_i hc
        obtain ⟨hok, h0, hn⟩ := hc
        have hrun : ∀ ad : Addr, ad.spot = none → (Instr.indexAt t (.pointer (some ad)) (.int k i)).run P w = .ok (.pointer (some ⟨ad.block, ad.off + i.toNat * P.cellsOf el, none⟩)) w := by
          intro ad had
          simp [Instr.indexAt, asIntOf, run_underlying hu, Instr.sureAddr, h0, hn, sizeOf_run hok, add_eq had]
        split at h
        · obtain rfl := Option.some.inj h
          obtain ⟨r, h1, rfl, _⟩ := hx
          exact ⟨_, hrun _ rfl, r, h1, rfl, rfl⟩
        · obtain rfl := Option.some.inj h
          obtain ⟨r, h1, rfl, _⟩ := hx
          exact ⟨_, hrun _ rfl, r, h1, rfl, rfl⟩
        · rename_i cs
          cases hp : partD P el cs (i.toNat * P.cellsOf el) with
          | none => rw [hp] at h; simp at h
          | some y =>
            rw [hp] at h; simp at h; subst h
            obtain ⟨ad, rfl, h1, _⟩ := hx
            exact ⟨_, hrun _ h1.1, _, rfl, h1.part hp h1.flat, rfl⟩
        · simp at h
      · simp at h
    · simp at h
  · simp at h

theorem indexA_sound {t : TypeId} {x ix a : AV} {vx vi : Value} (hx : AR e tm x vx []) (hix : AR e tm ix vi []) (h : indexA P t x ix = some a) :
    ∃ v, (Instr.index t vx vi).run P w = .ok v w ∧ AR e tm a v [] := by
  unfold indexA at h
  split at h
  · rename_i k i
    obtain ⟨hci, _⟩ := hix
    cases hci
    split at h
    · rename_i s hu
      obtain ⟨hcx, _⟩ := hx
      cases hcx with
      | str _ b hb =>
        subst hb
        split at h
        · rename_i h0
          cases hg : b.data.toList[i.toNat]? with
          | none => rw [hg] at h; simp at h
          | some c =>
            rw [hg] at h; simp at h; subst h
            have hb : b[i.toNat]? = some c := by
              obtain ⟨hl, hc⟩ := List.getElem?_eq_some_iff.1 hg
              rw [ByteArray.getElem?_lt' b i.toNat (by rw [size_data]; exact hl)]
              exact congrArg some (show b.data[i.toNat]'(by simpa using hl) = c by simpa using hc)
            exact ⟨_, by simp [Instr.index, asIntOf, run_underlying hu, h0, hb], .int _ _, rfl⟩
        · simp at h
    · rename_i n el cs hu
      split at h
      · rename_i hc
        obtain ⟨h0, hn⟩ := hc
        obtain ⟨vs, rfl, hcs⟩ := hx
        have hok : tyOK P el = true := by
          unfold loadA at h; cases ht : tyOK P el with
          | true => rfl
          | false => rw [ht] at h; simp at h
        obtain ⟨v, B1, h1, h2, h3⟩ := part_sound (w := w) hcs h
        rw [nil_of_sub h3] at h2
        exact ⟨v, by simp [Instr.index, asIntOf, run_underlying hu, h0, hn, sizeOf_run hok, h1], AR.of_AR1 h2⟩
      · simp at h
    · simp at h
  · simp at h

theorem lenA_sound {t : TypeId} {x : AV} {z : DV} {vx : Value} (ts : List TypeId) (vs : List Value) (ty : TypeId) (hx : AR e tm x vx []) (h : lenA P t x = some z) :
    ∃ v, (Builtin.len_ (t :: ts).toArray ty (vx :: vs).toArray).run P w = .ok v w ∧ CR e.Φ z v := by
  unfold lenA at h
  split at h
  · rename_i s hu
    obtain rfl := Option.some.inj h
    obtain ⟨hc, _⟩ := hx
    cases hc with
    | str _ b hb => subst hb; exact ⟨.int .i64 b.size, by simp [Builtin.len_, run_underlying hu, goInt], by rw [← size_data]; exact .int _ _⟩
  · rename_i el sz xs hu
    obtain rfl := Option.some.inj h
    have hcr := elems_sound hx rfl
    rcases hcr.sl_inv with ⟨rfl, rfl⟩ | ⟨ad, cap, rfl, _⟩
    · exact ⟨_, by simp [Builtin.len_, run_underlying hu, goInt], .int _ _⟩
    · exact ⟨_, by simp [Builtin.len_, run_underlying hu, goInt], .int _ _⟩
  · rename_i el sz xs hu
    obtain rfl := Option.some.inj h
    have hcr := elems_sound hx rfl
    rcases hcr.sl_inv with ⟨rfl, rfl⟩ | ⟨ad, cap, rfl, _⟩
    · exact ⟨_, by simp [Builtin.len_, run_underlying hu, goInt], .int _ _⟩
    · exact ⟨_, by simp [Builtin.len_, run_underlying hu, goInt], .int _ _⟩
  · simp at h
  · rename_i n el hu _
    obtain rfl := Option.some.inj h
    exact ⟨.int .i64 n, by simp [Builtin.len_, run_underlying hu, goInt], .int _ _⟩
  · simp at h
end

/-! ### Slices of strings and of slices -/

section
variable {P : Program} {w : World} {e : Env} {tm : Array Value}

/-- A bound, as the interpreter and as the machine read it. -/
theorem bound_run {o : Option AV} {ov : Option Value} {d : Nat} {i : Int} {y : Nat} {code : BoundsCode}
    (ho : match o, ov with | none, none => True | some a, some v => AR e tm a v [] | _, _ => False)
    (hb : bound o d = some i) (h0 : 0 ≤ i) (h1 : i ≤ y) : (match ov with | some v => Instr.sliceBound v y code | none => pure d).run P w = .ok i.toNat w := by
  cases o with
  | none =>
    cases ov with
    | none => simp only [bound] at hb; obtain rfl := Option.some.inj hb; simp
    | some v => exact ho.elim
  | some a =>
    cases ov with
    | none => exact ho.elim
    | some v =>
      unfold bound at hb
      split at hb
      · simp at *
      · rename_i k j heq
        cases heq
        obtain rfl := Option.some.inj hb
        obtain ⟨hc, _⟩ := ho
        cases hc
        exact run_sliceBound w _ _ _ _ h0 h1
      · simp at hb

def OptR (e : Env) (tm : Array Value) (o : Option AV) (ov : Option Value) : Prop :=
  match o, ov with | none, none => True | some a, some v => AR e tm a v [] | _, _ => False

theorem extract_data (b : ByteArray) (l h : Nat) : (b.extract l h).data.toList = (b.data.toList.take h).drop l := by
  cases b with
  | mk d =>
    have := ByteArray.extract_mk d.toList l h
    simp only [Array.toArray_toList] at this
    rw [this]
    simp [List.drop_take]

theorem SlR.nil {Φ : Mem} (sz : Nat) {a : Addr} (h : a.spot = none) : SlR Φ sz [] a := ⟨h, fun i x hx => by simp at hx⟩

theorem SlR.sub {Φ : Mem} {sz : Nat} {xs : List DV} {a : Addr} (hs : SlR Φ sz xs a) (l h : Nat) : SlR Φ sz ((xs.take h).drop l) ⟨a.block, a.off + l * sz, none⟩ := by
  refine ⟨rfl, fun i x hx => ?_⟩
  have hx' : xs[l + i]? = some x := by
    rw [List.getElem?_drop, List.getElem?_take] at hx
    split at hx
    · exact hx
    · simp at hx
  obtain ⟨h1, h2⟩ := hs.2 _ _ hx'
  refine ⟨h1, fun j c hj => ?_⟩
  obtain ⟨v, h3, h4⟩ := h2 j c hj
  exact ⟨v, by show Φ a.block (a.off + l * sz + i * sz + j) = some v; rw [show a.off + l * sz + i * sz + j = a.off + (l + i) * sz + j by rw [Nat.add_mul]; omega]; exact h3, h4⟩

theorem sliceA_sound {t : TypeId} {x a : AV} {vx : Value} {lo hi mx : Option AV} {vlo vhi vmx : Option Value} (hx : AR e tm x vx [])
    (hlo : OptR e tm lo vlo) (hhi : OptR e tm hi vhi) (hmx : OptR e tm mx vmx) (h : sliceA P t x lo hi mx = some a) :
    ∃ v, (Instr.sliceAt t vx vlo vhi vmx).run P w = .ok v w ∧ AR e tm a v [] := by
  unfold sliceA at h
  split at h
  · rename_i hu
    split at h
    · rename_i s
      have hm : vmx = none := by cases vmx with | none => rfl | some v => exact hmx.elim
      subst hm
      split at h
      · rename_i l hh hbl hbh
        split at h
        · rename_i hc
          obtain ⟨h0, h1, h2⟩ := hc
          obtain rfl := Option.some.inj h
          obtain ⟨hcx, _⟩ := hx
          cases hcx with
          | str _ b hb =>
            subst hb
            have hsz : (hh : Int) ≤ (b.size : Nat) := by rw [size_data]; exact h2
            have r1 := bound_run (P := P) (w := w) (y := b.size) (code := .sliceAlen) (d := b.size) (o := hi) (ov := vhi) hhi (by rw [size_data]; exact hbh) (by omega) hsz
            have r2 := bound_run (P := P) (w := w) (y := hh.toNat) (code := .sliceB) (d := 0) (o := lo) (ov := vlo) hlo hbl h0 (by omega)
            refine ⟨.string (b.extract l.toNat hh.toNat), ?_, .str _ _ (extract_data _ _ _), rfl⟩
            simp only [Instr.sliceAt, Sem.run_bind, run_underlying hu, Result.andThen_ok, Instr.slice, Option.isSome_none, Bool.false_eq_true, if_false, Instr.sliceBounds, Sem.run_pure]
            cases vhi <;> cases vlo <;> simp_all [Sem.run_bind]
        · simp at h
      · simp at h
    · simp at h
  · rename_i el hu
    split at h
    · rename_i sz xs hel
      have hcr := elems_sound hx hel
      split at h
      · rename_i l hh hbl hbh
        split at h
        · rename_i hc
          obtain ⟨hok, h0, h1, h2, hsz⟩ := hc
          have r3 : ∀ code, (match vlo with | some v => Instr.sliceBound v hh.toNat code | none => pure 0).run P w = .ok l.toNat w := fun code =>
            bound_run (P := P) (w := w) (y := hh.toNat) (code := code) (d := 0) (o := lo) (ov := vlo) hlo hbl h0 (by omega)
          have r2 : ∀ code (m : Nat), hh ≤ (m : Int) → (match vhi with | some v => Instr.sliceBound v m code | none => pure xs.length).run P w = .ok hh.toNat w := fun code m hm =>
            bound_run (P := P) (w := w) (y := m) (code := code) (d := xs.length) (o := hi) (ov := vhi) hhi hbh (by omega) hm
          have hlen : ((xs.take hh.toNat).drop l.toNat).length = hh.toNat - l.toNat := by simp; omega
          cases mx with
          | none =>
            have hm : vmx = none := by cases vmx with | none => rfl | some v => exact hmx.elim
            subst hm
            simp only at h
            obtain rfl := Option.some.inj h
            have hrun : ∀ (b : Option Addr) (cap : Nat), xs.length ≤ cap →
                (Instr.sliceAt t (.slice b xs.length cap) vlo vhi none).run P w = .ok (.slice (if cap = l.toNat then b else b.map (·.add (l.toNat * P.cellsOf el))) (hh.toNat - l.toNat) (cap - l.toNat)) w := by
              intro b cap hcap
              have r2b := r2 .sliceAcap cap (by omega)
              have r3b := r3 .sliceB
              simp only [Instr.sliceAt, Sem.run_bind, run_underlying hu, Result.andThen_ok, Instr.slice, Instr.sliceBounds]
              cases vhi <;> cases vlo <;> simp_all [Sem.run_bind, sizeOf_run hok]
            rcases hcr.sl_inv with ⟨rfl, rfl⟩ | ⟨ad, cap, rfl, hcap, hsl⟩
            · have h1' : l = 0 := by simp at h2; omega
              have h2' : hh = 0 := by simp at h2; omega
              subst h1'; subst h2'
              exact ⟨_, by simpa using hrun none 0 (by simp), by simpa using CR.nil sz, rfl⟩
            · refine ⟨_, hrun (some ad) cap hcap, ?_, rfl⟩
              by_cases hml : cap = l.toNat
              · have he : (xs.take hh.toNat).drop l.toNat = [] := List.eq_nil_of_length_eq_zero (by rw [hlen]; omega)
                rw [if_pos hml, he]
                have := CR.of_SlR (cap := cap - l.toNat) (SlR.nil (Φ := e.Φ) sz hsl.1) (by simp)
                simpa [show hh.toNat - l.toNat = 0 by omega] using this
              · rw [if_neg hml, ← hlen]
                simp only [Option.map_some, add_eq hsl.1]
                rcases hsz with rfl | rfl
                · exact .of_SlR (hsl.sub _ _) (by rw [hlen]; omega)
                · simpa using CR.of_SlR (cap := cap - l.toNat) (SlR.nil (Φ := e.Φ) sz (a := ⟨ad.block, ad.off + l.toNat * P.cellsOf el, none⟩) rfl) (by simp)
          | some a' =>
            cases vmx with
            | none => exact hmx.elim
            | some vm =>
            cases a' with
            | d dm =>
              cases dm with
              | int km m =>
                simp only at h
                split at h
                · rename_i hmm
                  obtain ⟨rfl, hpos, hhs⟩ := hmm
                  obtain rfl := Option.some.inj h
                  obtain ⟨hcm, _⟩ := hmx
                  cases hcm
                  have hvh : ∃ vh, vhi = some vh := by
                    cases hi with
                    | none => simp at hhs
                    | some _ => cases vhi with | none => exact hhi.elim | some vh => exact ⟨vh, rfl⟩
                  obtain ⟨vh, rfl⟩ := hvh
                  have hrun : ∀ (b : Option Addr) (cap : Nat), xs.length ≤ cap →
                      (Instr.sliceAt t (.slice b xs.length cap) vlo (some vh) (some (.int km m))).run P w = .ok (.slice (if m.toNat = l.toNat then b else b.map (·.add (l.toNat * P.cellsOf el))) (m.toNat - l.toNat) (m.toNat - l.toNat)) w := by
                    intro b cap hcap
                    have r1 := run_sliceBound (P := P) w km m cap .slice3Acap (by omega) (by omega)
                    have r2b := r2 .slice3B m.toNat (by omega)
                    have r3b := r3 .slice3C
                    simp only [Instr.sliceAt, Sem.run_bind, run_underlying hu, Result.andThen_ok, Instr.slice, Instr.sliceBounds]
                    cases vlo <;> simp_all [Sem.run_bind, sizeOf_run hok]
                  rcases hcr.sl_inv with ⟨rfl, rfl⟩ | ⟨ad, cap, rfl, hcap, hsl⟩
                  · have h1' : l = 0 := by simp at h2; omega
                    have h2' : m = 0 := by simp at h2; omega
                    subst h1'; subst h2'
                    exact ⟨_, by simpa using hrun none 0 (by simp), by simpa using CR.nil _, rfl⟩
                  · refine ⟨_, hrun (some ad) cap hcap, ?_, rfl⟩
                    by_cases hml : m.toNat = l.toNat
                    · have he : (xs.take m.toNat).drop l.toNat = [] := List.eq_nil_of_length_eq_zero (by rw [hlen]; omega)
                      rw [if_pos hml, he]
                      have := CR.of_SlR (cap := 0) (SlR.nil (Φ := e.Φ) (P.cellsOf el) hsl.1) (by simp)
                      simpa [hml] using this
                    · rw [if_neg hml]
                      suffices hh : SlR e.Φ (P.cellsOf el) ((xs.take m.toNat).drop l.toNat) ⟨ad.block, ad.off + l.toNat * P.cellsOf el, none⟩ by
                        have := CR.of_SlR (cap := m.toNat - l.toNat) hh (by omega)
                        rw [hlen] at this
                        simpa [add_eq hsl.1] using this
                      rcases hsz with rfl | rfl
                      · exact hsl.sub _ _
                      · simpa using SlR.nil (Φ := e.Φ) (P.cellsOf el) (a := ⟨ad.block, ad.off + l.toNat * P.cellsOf el, none⟩) rfl
                · simp at h
              | _ => simp at h
            | _ => simp at h
        · simp at h
      · simp at h
    · simp at h
  · simp at h
end

end Go.AI
