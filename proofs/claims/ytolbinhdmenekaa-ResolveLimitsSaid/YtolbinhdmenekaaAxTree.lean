/- The interpreter's run as a tree of decisions: what hangs on data is a branch of the tree, all else is computed. -/
import Derived.Test.YtolbinhdmenekaaAxCore
namespace Go.AI
set_option linter.unusedVariables false

inductive Tr (α : Type) : Type 1 where
  | leaf (a : α)
  | fail
  | br (b : Bool) (t e : Tr α)
  | opt {β : Type} (o : Option β) (k : β → Tr α)

def Tr.run {α : Type} : Tr α → Option α
  | .leaf a => some a
  | .fail => none
  | .br b t e => bif b then t.run else e.run
  | .opt o k => match o with
    | some y => (k y).run
    | none => none

def Tr.bind {α β : Type} : Tr α → (α → Tr β) → Tr β
  | .leaf a, f => f a
  | .fail, _ => .fail
  | .br b t e, f => .br b (t.bind f) (e.bind f)
  | .opt o k, f => .opt o fun y => (k y).bind f

def Tr.of {α : Type} : Option α → Tr α
  | some a => .leaf a
  | none => .fail

/-- How the elements of a slice look. -/
structure View where
  ν : Type
  un : DV → Option ν
  enc : ν → DV
  ok : ∀ x y, un x = some y → x = enc y

def unInt (k : IntKind) : DV → Option Int
  | .int k' n => if k' = k then some n else none
  | _ => none
def unStr : DV → Option (List UInt8)
  | .str s => some s
  | _ => none
def unBool : DV → Option Bool
  | .bool s => some s
  | _ => none
def unSl (sz : Nat) : DV → Option (List DV)
  | .sl n xs => if n = sz then some xs else none
  | _ => none

def View.int (k : IntKind) : View where
  ν := Int
  un := unInt k
  enc := fun n => .int k n
  ok := fun x y h => by
    cases x <;> simp [unInt] at h
    obtain ⟨rfl, rfl⟩ := h; rfl

def View.str : View where
  ν := List UInt8
  un := unStr
  enc := .str
  ok := fun x y h => by cases x <;> simp [unStr] at h; rw [h]

def View.bool : View where
  ν := Bool
  un := unBool
  enc := .bool
  ok := fun x y h => by cases x <;> simp [unBool] at h; rw [h]

def View.any : View where
  ν := DV
  un := some
  enc := id
  ok := fun x y h => Option.some.inj h

def View.sl (sz : Nat) : View where
  ν := List DV
  un := unSl sz
  enc := fun xs => .sl sz xs
  ok := fun x y h => by
    cases x <;> simp [unSl] at h
    obtain ⟨rfl, rfl⟩ := h; rfl

structure TX where
  P : Program
  call : FuncId → List AV → Hp → Tr (AV × Hp)
  iso : FuncId → Bool
  glob : Nat → Option DV
  vw : TypeId → View

def TX.cx (X : TX) : Cx := ⟨X.P, fun f as H => (X.call f as H).run, X.iso, X.glob⟩

/-! ### Operations -/

def binT (P : Program) (op : BinOp) (t : TypeId) (x y : DV) : Tr DV :=
  match x, y with
  | .int k a, .int k' b =>
    match op with
    | .shl | .shr => .br (decide (b < 0)) .fail (.of (binDV P op t (.int k a) (.int k' (max b 0))))
    | .quo => bif decide (k = k') then .br (decide (b = 0)) .fail (.leaf (.int k (k.wrap (a.tdiv b)))) else .fail
    | .rem => bif decide (k = k') then .br (decide (b = 0)) .fail (.leaf (.int k (a.tmod b))) else .fail
    | _ => .of (binDV P op t (.int k a) (.int k' b))
  | .str a, .str b =>
    match op with
    | .add => .br (decide (a.length + b.length ≤ 9223372036854775807)) (.leaf (.str (a ++ b))) .fail
    | _ => .of (strBin op a b)
  | x, y => .of (binDV P op t x y)

def pureT (v : AV) (fr : Fr) (H : Hp) : Tr R := .leaf ⟨v, fr, H, ftOf v⟩

def convT (P : Program) (src dst : TypeId) (x : AV) : Tr AV :=
  match P.underlying src, P.underlying dst with
  | some (.slice e), some .string => match P.underlying e, elems x with
    | some (.int .u8), some (_, xs) => .opt (bytesOf xs) fun s => .leaf (.d (.str s))
    | _, _ => .fail
  | _, _ => .of (convA P src dst x)

def makeSliceT (P : Program) (t : TypeId) (l c : AV) : Tr AV :=
  match P.underlying t, l, c with
  | some (.slice e), .d (.int _ l), .d (.int _ c) =>
    match P.info? e, zeroDV P e with
    | some i, some z =>
      bif decide (0 < P.cellsOf e) then
        .br (decide (0 ≤ l ∧ l ≤ c ∧ c ≤ 140737488355328 ∧ i.bytes * c ≤ 140737488355328)) (.leaf (.osl (P.cellsOf e) (List.replicate l.toNat z))) .fail
      else .fail
    | _, _ => .fail
  | _, _, _ => .fail

def sliceT (P : Program) (t : TypeId) (x : AV) (lo hi mx : Option AV) : Tr AV :=
  match P.underlying t with
  | some .string => match x, mx with
    | .d (.str s), none => match bound lo 0, bound hi s.length with
      | some l, some h => .br (decide (0 ≤ l ∧ l ≤ h ∧ h ≤ s.length)) (.leaf (.d (.str ((s.take h.toNat).drop l.toNat)))) .fail
      | _, _ => .fail
    | _, _ => .fail
  | some (.slice e) => match elems x with
    | some (sz, xs) => match bound lo 0, bound hi xs.length with
      | some l, some h =>
        bif tyOK P e && decide (sz = P.cellsOf e) then
          .br (decide (0 ≤ l ∧ l ≤ h ∧ h ≤ xs.length))
            (match mx with
            | none => .leaf (.d (.sl sz ((xs.take h.toNat).drop l.toNat)))
            | some (.d (.int _ m)) => bif decide (0 < P.cellsOf e) && hi.isSome then .br (decide (m = h)) (.leaf (.osl sz ((xs.take h.toNat).drop l.toNat))) .fail else .fail
            | _ => .fail) .fail
        else .fail
      | _, _ => .fail
    | none => .fail
  | _ => .fail

/-- One of the numbers below 'n'. -/
def selT {α : Type} (i : Int) (f : Nat → Tr α) : Nat → Nat → Tr α
  | 0, _ => .fail
  | n + 1, j => .br (decide (i = j)) (f j) (selT i f n (j + 1))

def atT {α : Type} (ix : Operand) (i : Int) (n : Nat) (f : Nat → Tr α) : Tr α :=
  match ix with
  | .const _ => bif decide (0 ≤ i) && decide (i < n) then f i.toNat else .fail
  | _ => selT i f n 0

def indexAddrT (X : TX) (t : TypeId) (x ix : AV) (io : Operand) : Tr AV :=
  match ix with
  | .d (.int k i) =>
    match X.P.underlying t with
    | some (.slice e) => match elems x with
      | some (sz, xs) => bif tyOK X.P e && decide (sz = X.P.cellsOf e) then .br (decide (0 ≤ i)) (.opt ((xs[i.toNat]?).bind (X.vw e).un) fun y => .leaf (.vp ((X.vw e).enc y))) .fail else .fail
      | none => .fail
    | some (.array n _) => atT io i n fun j => .of (indexAddrA X.P t x (.d (.int k j)))
    | _ => .fail
  | _ => .fail

def indexT (X : TX) (t : TypeId) (x ix : AV) (io : Operand) : Tr AV :=
  match ix with
  | .d (.int k i) =>
    match X.P.underlying t, x with
    | some .string, .d (.str s) => .br (decide (0 ≤ i)) (.opt s[i.toNat]? fun b => .leaf (.d (.int .u8 b.toNat))) .fail
    | some (.array n _), _ => atT io i n fun j => .of (indexA X.P t x (.d (.int k j)))
    | _, _ => .fail
  | _ => .fail

def appendST (P : Program) (t : TypeId) (s x : AV) (t2 : Option TypeId) : Tr AV :=
  match P.underlying t, s with
  | some (.slice e), .osl sz xs =>
    match P.info? e, (zeroCells P e) with
    | some i, some _ =>
      match appended P t t2 x with
      | some (sz2, ys) =>
        bif decide (sz = i.size) && decide (sz2 = i.size) && decide (0 < i.size) && decide (0 < i.bytes) then
          .br (decide ((xs.length + ys.length) * i.bytes ≤ 70368744177664)) (.leaf (.osl sz (xs ++ ys))) .fail
        else .fail
      | none => .fail
    | _, _ => .fail
  | _, _ => .fail

def appendZT (P : Program) (t : TypeId) (s : AV) (n : Int) : Tr AV :=
  match P.underlying t, s with
  | some (.slice e), .osl sz xs =>
    match P.underlying e, P.info? e with
    | some (.int ik), some i =>
      bif decide (i.size = 1) && zIs ik i.zero && decide (0 < i.bytes) && decide (sz = 1) then
        .br (decide (0 < n ∧ (xs.length + n.toNat) * i.bytes ≤ 70368744177664)) (.leaf (.zsl ik xs n.toNat)) .fail
      else .fail
    | _, _ => .fail
  | _, _ => .fail

def appendT (P : Program) (t : TypeId) (s x : AV) (t2 : Option TypeId) : Tr AV :=
  match t2 with
  | some u => match P.underlying u, x with
    | some (.int _), .d (.int _ n) => appendZT P t s n
    | some (.int _), _ => .fail
    | _, _ => appendST P t s x t2
  | none => .fail

def callT (X : TX) (f : FuncId) (as : List AV) (fr : Fr) (H : Hp) : Tr R :=
  bif X.iso f then
    match toDV1s as with
    | some ds => (X.call f (ds.map of1) []).bind fun r => match toDV r.1 with
      | some x => .leaf ⟨ofDV x, fr, H, .non⟩
      | none => .fail
    | none => .fail
  else bif as.all plain then (X.call f as H).bind fun r => .leaf ⟨r.1, fr, gc H.length r.1 r.2, .wH⟩
  else .fail

/-- Plain data, as they lie in a map. -/
def deDs : List AV → Option (List DV)
  | [] => some []
  | .d x :: r => (deDs r).map (x :: ·)
  | _ => none

def deAV : AV → Option DV
  | .d (.agg _) => none
  | .d x => some x
  | .agg cs => (deDs cs).map .agg
  | _ => none

def lookupT (X : TX) (t : TypeId) (kd : KK) (k : DV) (ks : List DV) (vs : List AV) (ck : Bool) : Tr AV :=
  match mapTy X.P t with
  | some (kd', et) =>
    bif decide (kd' = kd) && kd.has k then
      .br (hasM k ks)
        (.opt ((findM k ks vs).bind fun a => (deAV a).bind (X.vw et).un) fun y => .leaf (bif ck then .tup [of1 ((X.vw et).enc y), .d (.bool true)] else of1 ((X.vw et).enc y)))
        (match zeroAV X.P et with
        | some z => .leaf (bif ck then .tup [dup z, .d (.bool false)] else dup z)
        | none => .fail)
    else .fail
  | none => .fail

def aopT (X : TX) (st hf : Bool) (fr : Fr) (H : Hp) (o : Op) : Tr R :=
  match o with
  | .binOp op t x y _ => match rd X.cx fr x, rd X.cx fr y with
    | some (.d a), some (.d b) => (binT X.P op t a b).bind fun z => .leaf ⟨.d z, fr, H, .non⟩
    | _, _ => .fail
  | .convert s t x => match rd X.cx fr x with
    | some v => (convT X.P s t v).bind fun v => pureT v fr H
    | none => .fail
  | .makeSlice t l c => match rd X.cx fr l, rd X.cx fr c with
    | some l, some c => (makeSliceT X.P t l c).bind fun v => pureT v fr H
    | _, _ => .fail
  | .slice t x lo hi mx => match rd X.cx fr x with
    | some v =>
      match rds X.cx fr lo.toList, rds X.cx fr hi.toList, rds X.cx fr mx.toList with
      | some l, some h, some m => (sliceT X.P t v l.head? h.head? m.head?).bind fun v => pureT v fr H
      | _, _, _ => .fail
    | none => .fail
  | .indexAddr t x i => match rd X.cx fr x, rd X.cx fr i with
    | some v, some j => (indexAddrT X t v j i).bind fun v => pureT v fr H
    | _, _ => .fail
  | .index t x i => match rd X.cx fr x, rd X.cx fr i with
    | some v, some j => (indexT X t v j i).bind fun v => pureT v fr H
    | _, _ => .fail
  | .lookup t x k ck => match rd X.cx fr x, rd X.cx fr k with
    | some (.mp b), some (.d k) => match H[b]? with
      | some [.mpb kd ks vs] => (lookupT X t kd k ks vs ck).bind fun v => .leaf ⟨v, fr, H, .rH⟩
      | _ => .fail
    | _, _ => .fail
  | .call c => match c.callee with
    | .builtin .append => match c.args.toList, c.argTypes.toList with
      | [s, x], [t, u] => match rdS X.cx st fr s, rd X.cx fr x with
        | some (s, fr), some x => (appendT X.P t s x (some u)).bind fun v => pureT v fr H
        | _, _ => .fail
      | _, _ => .fail
    | .value f => match rd X.cx fr f, rdsF X.cx fr c.argTypes.toList c.args.toList with
      | some (.fn g), some as => callT X g as fr H
      | _, _ => .fail
    | _ => .of (aop X.cx st hf fr H (.call c))
  | o => .of (aop X.cx st hf fr H o)

/-! ### Regions, compiled -/

inductive CG where
  | yes
  | no
  | on (t : Nat) (want : Bool)

structure CO where
  g : CG
  dst : Option Nat
  op : Op
  st : Bool
  hf : Bool
  fx : List (Option Nat)

def cgOf (ops : List Oper) (o : Oper) : CG :=
  match o.guard with
  | none => .yes
  | some (j, want) => match ops[j]? with
    | some oj => match oj.dst with
      | some d => .on d want
      | none => .no
    | none => .no

def compile (P : Program) (an : RA) (ops : List Oper) : Nat → List Oper → List CO
  | _, [] => []
  | i, o :: r => ⟨cgOf ops o, o.dst, o.op, an.st.contains i, an.hf.contains i, fxOf P o.type⟩ :: compile P an ops (i + 1) r

abbrev Kn := List (Nat × Bool)

structure SK where
  fr : Fr
  H : Hp
  kn : Kn

def kget : Kn → Nat → Option Bool
  | [], _ => none
  | (t, b) :: r, u => if t = u then some b else kget r u

def kdel (d : Nat) : Kn → Kn
  | [] => []
  | (t, b) :: r => if t = d then kdel d r else (t, b) :: kdel d r

def kput (d : Option Nat) (b : Option Bool) (kn : Kn) : Kn :=
  match d with
  | none => kn
  | some d => match b with
    | some b => (d, b) :: kdel d kn
    | none => kdel d kn

/-- A Boolean operand that is known. -/
def know (kn : Kn) : Operand → Option Bool
  | .tmp t => kget kn t
  | .const (.bool b) => some b
  | _ => none

/-- What is known of an operation's answer. -/
def knowOp (kn : Kn) : Op → Option Bool
  | .move x | .assign x => know kn x
  | .unOp .not _ x => match know kn x with
    | some b => some (!b)
    | none => none
  | _ => none

def goT (X : TX) (st hf : Bool) (dst : Option Nat) (op : Op) (fx : List (Option Nat)) (s : SK) : Tr SK :=
  (aopT X st hf s.fr s.H op).bind fun r => bif okV r.v r.ft then .leaf ⟨put dst (fixA fx r.v) r.fr, r.H, kput dst (knowOp s.kn op) s.kn⟩ else .fail

def skipT (dst : Option Nat) (s : SK) : SK := ⟨put dst .undef s.fr, s.H, kput dst none s.kn⟩

/-- A Boolean slot is decided. -/
def decT {α : Type} (t : Nat) (s : SK) (yes no : SK → Tr α) (un : SK → Tr α) : Tr α :=
  match kget s.kn t with
  | some true => yes s
  | some false => no s
  | none => match get s.fr t with
    | some (.d (.bool b)) => .br b (yes ⟨upd t (.d (.bool true)) s.fr, s.H, (t, true) :: s.kn⟩) (no ⟨upd t (.d (.bool false)) s.fr, s.H, (t, false) :: s.kn⟩)
    | some .undef => un s
    | _ => .fail

/-- A pick. -/
def pickT (X : TX) (dst : Option Nat) (fx : List (Option Nat)) (c a b : Operand) (s : SK) : Tr SK :=
  match c with
  | .tmp t => decT t s (fun s => pickGo X dst fx a b a s) (fun s => pickGo X dst fx a b b s) (fun _ => .fail)
  | _ => .fail
where
  pickGo (X : TX) (dst : Option Nat) (fx : List (Option Nat)) (a b x : Operand) (s : SK) : Tr SK :=
    match rd X.cx s.fr a, rd X.cx s.fr b, rd X.cx s.fr x with
    | some u, some v, some y => bif pickB u && pickB v then .leaf ⟨put dst (fixA fx y) s.fr, s.H, kput dst (know s.kn x) s.kn⟩ else .fail
    | _, _, _ => .fail

def opT (X : TX) (st hf : Bool) (dst : Option Nat) (op : Op) (fx : List (Option Nat)) (s : SK) : Tr SK :=
  match op with
  | .pick c a b => pickT X dst fx c a b s
  | op => goT X st hf dst op fx s

def stepT (X : TX) (c : CO) (s : SK) : Tr SK :=
  match c.g with
  | .yes => opT X c.st c.hf c.dst c.op c.fx s
  | .no => .leaf (skipT c.dst s)
  | .on d want => decT d s (fun s => bif want then opT X c.st c.hf c.dst c.op c.fx s else .leaf (skipT c.dst s)) (fun s => bif want then .leaf (skipT c.dst s) else opT X c.st c.hf c.dst c.op c.fx s) (fun s => .leaf (skipT c.dst s))

def runT (X : TX) : List CO → SK → Tr SK
  | [], s => .leaf s
  | c :: r, s => (stepT X c s).bind (runT X r)

def krestrict (kn : Kn) (lv : List Nat) : Kn := kn.filter fun p => lv.contains p.1

def SK.keep (lv : List Nat) (s : SK) : SK := ⟨restrict s.fr lv, s.H, krestrict s.kn lv⟩

/-! ### A region that draws its order: no branch but by guards -/

structure SF where
  s : SK
  fs : List Ft

def ftT (X : TX) (an : RA) (i : Nat) (g : CG) (o : Oper) (s : SK) : Tr SF :=
  match o.op with
  | .pick c a b => (pickT X o.dst (fxOf X.P o.type) c a b s).bind fun s => .leaf ⟨s, [⟨.non, o.dst⟩]⟩
  | op => (aopT X (an.st.contains i) (an.hf.contains i) s.fr s.H op).bind fun r => bif okV r.v r.ft then .leaf ⟨⟨put o.dst (fixA (fxOf X.P o.type) r.v) r.fr, r.H, kput o.dst (knowOp s.kn op) s.kn⟩, [⟨r.ft, o.dst⟩]⟩ else .fail

def stepFT (X : TX) (an : RA) (ops : List Oper) (i : Nat) (o : Oper) (s : SK) : Tr SF :=
  match cgOf ops o with
  | .yes => ftT X an i .yes o s
  | .no => .leaf ⟨skipT o.dst s, [⟨.non, o.dst⟩]⟩
  | .on d want => decT d s (fun s => bif want then ftT X an i .yes o s else .leaf ⟨skipT o.dst s, [⟨.non, o.dst⟩]⟩) (fun s => bif want then .leaf ⟨skipT o.dst s, [⟨.non, o.dst⟩]⟩ else ftT X an i .yes o s) (fun s => .leaf ⟨skipT o.dst s, [⟨.non, o.dst⟩]⟩)

def runFT (X : TX) (an : RA) (ops : List Oper) : Nat → List Oper → SK → Tr SF
  | _, [], s => .leaf ⟨s, []⟩
  | i, o :: r, s => (stepFT X an ops i o s).bind fun x => (runFT X an ops (i + 1) r x.s).bind fun y => .leaf ⟨y.s, x.fs ++ y.fs⟩

def drawnT (X : TX) (an : RA) (ops : List Oper) (s : SK) : Tr SK :=
  (runFT X an ops 0 ops s).bind fun x => bif Region.lexB .any ops.toArray && apartAll ops an.st 0 ops x.fs then .leaf (x.s.keep an.live) else .fail

/-! ### Code -/

inductive CC : Type 1 where
  | skip
  | region (cs : List CO) (live : List Nat)
  | drawn (an : RA) (ops : List Oper)
  | seq (a b : CC)
  | cond (c : Operand) (a b : CC)
  | block (id : Nat) (b : CC)
  | loop (b : CC)
  | exit (id : Nat)
  | ret
  | bad
  | keep (lv : List Nat) (b : CC)
  | sum (f : ST → Tr (Ex × ST)) (b : CC)

def comp (P : Program) (an : Ann) : Code → CC
  | .skip => .skip
  | .label _ => .skip
  | .region id ops false => .region (compile P (an id) ops.toList 0 ops.toList) (an id).live
  | .region id ops true => .drawn (an id) ops.toList
  | .seq a b => .seq (comp P an a) (comp P an b)
  | .cond c a b => .cond c (comp P an a) (comp P an b)
  | .block id b => .block id (comp P an b)
  | .loop b => .loop (comp P an b)
  | .exit id => .exit id
  | .scope b => comp P an b
  | .ret => .ret
  | _ => .bad

/-- Without what was laid in. -/
def erase : CC → CC
  | .seq a b => .seq (erase a) (erase b)
  | .cond c a b => .cond c (erase a) (erase b)
  | .block id b => .block id (erase b)
  | .loop b => .loop (erase b)
  | .keep _ b => erase b
  | .sum _ b => erase b
  | x => x

def exK (r : Ex × ST) : Ex × SK := (r.1, ⟨r.2.fr, r.2.H, []⟩)

def execT (X : TX) : CC → SK → Tr (Ex × SK)
  | .skip, s => .leaf (.nrm, s)
  | .region cs lv, s => (runT X cs s).bind fun s => .leaf (.nrm, s.keep lv)
  | .drawn an ops, s => (drawnT X an ops s).bind fun s => .leaf (.nrm, s)
  | .seq a b, s => (execT X a s).bind fun r => match r.1 with
    | .nrm => execT X b r.2
    | _ => .leaf r
  | .cond c a b, s => match c with
    | .tmp t => decT t s (execT X a) (execT X b) (fun _ => .fail)
    | .const (.bool true) => execT X a s
    | .const (.bool false) => execT X b s
    | _ => .fail
  | .block id b, s => (execT X b s).bind fun r => match r.1 with
    | .ext i => bif decide (i = id) then .leaf (.nrm, r.2) else .leaf r
    | _ => .leaf r
  | .loop _, _ => .fail
  | .exit id, s => .leaf (.ext id, s)
  | .ret, s => .leaf (.ret, s)
  | .bad, _ => .fail
  | .keep lv b, s => execT X b (s.keep lv)
  | .sum f _, s => (f ⟨s.fr, s.H⟩).bind fun r => .leaf (exK r)

def finishT (P : Program) (rs : List ResultVar) (r : Ex × SK) : Tr (AV × Hp) :=
  match r.1 with
  | .ext _ => .fail
  | _ => match resultsA P r.2.fr r.2.H rs with
    | some vs => bif vs.all plain then .leaf (retA (vs.map dup), r.2.H) else .fail
    | none => .fail

/-- A whole function. -/
def fnT (X : TX) (cc : CC) (rs : List ResultVar) (as : List AV) (H : Hp) : Tr (AV × Hp) := (execT X cc ⟨numbered 0 as, H, []⟩).bind (finishT X.P rs)

abbrev FT := List AV → Hp → Tr (AV × Hp)

def tbl : List (Nat × FT) → FuncId → FT
  | [], _ => fun _ _ => .fail
  | (f, g) :: r, u => if f = u then g else tbl r u

end Go.AI
