/- The interpreter's run as a tree of decisions: what hangs on data is a branch of the tree, all else is computed. -/
import Derived.Test.YtkkmdjkahdglhaaDoorAxCore
import Derived.Test.YtkkmdjkahdglhaaDoorAxLoc
import Derived.Below
namespace Go.AI
set_option linter.unusedVariables false

inductive Tr (α : Type) : Type 1 where
  | leaf (a : α)
  | fail
  | br (b : Bool) (t e : Tr α)
  | opt {β : Type} (o : Option β) (k : β → Tr α)

def Tr.run {α : Type} : Tr α → Option α
  | .leaf a => some a
  | .fail => none
  | .br b t e => bif b then t.run else e.run
  | .opt o k => match o with
    | some y => (k y).run
    | none => none

def Tr.bind {α β : Type} : Tr α → (α → Tr β) → Tr β
  | .leaf a, f => f a
  | .fail, _ => .fail
  | .br b t e, f => .br b (t.bind f) (e.bind f)
  | .opt o k, f => .opt o fun y => (k y).bind f

def Tr.of {α : Type} : Option α → Tr α
  | some a => .leaf a
  | none => .fail

/-- How the elements of a slice look. -/
structure View where
  ν : Type
  un : DV → Option ν
  enc : ν → DV
  ok : ∀ x y, un x = some y → x = enc y

def unInt (k : IntKind) : DV → Option Int
  | .int k' n => if k' = k then some n else none
  | _ => none
def unStr : DV → Option (List UInt8)
  | .str s => some s
  | _ => none
def unBool : DV → Option Bool
  | .bool s => some s
  | _ => none
def unSl (sz : Nat) : DV → Option (List DV)
  | .sl n xs => if n = sz then some xs else none
  | _ => none

def View.int (k : IntKind) : View where
  ν := Int
  un := unInt k
  enc := fun n => .int k n
  ok := fun x y h => by
    cases x <;> simp [unInt] at h
    obtain ⟨rfl, rfl⟩ := h; rfl

def View.str : View where
  ν := List UInt8
  un := unStr
  enc := .str
  ok := fun x y h => by cases x <;> simp [unStr] at h; rw [h]

def View.bool : View where
  ν := Bool
  un := unBool
  enc := .bool
  ok := fun x y h => by cases x <;> simp [unBool] at h; rw [h]

def View.any : View where
  ν := DV
  un := some
  enc := id
  ok := fun x y h => Option.some.inj h

def View.sl (sz : Nat) : View where
  ν := List DV
  un := unSl sz
  enc := fun xs => .sl sz xs
  ok := fun x y h => by
    cases x <;> simp [unSl] at h
    obtain ⟨rfl, rfl⟩ := h; rfl

structure TX where
  P : Program
  call : FuncId → List AV → Hp → Tr (AV × Hp)
  iso : FuncId → Bool
  glob : Nat → Option DV
  vw : TypeId → View

def TX.cx (X : TX) : Cx := ⟨X.P, fun f as H => (X.call f as H).run, X.iso, X.glob⟩

/-! ### Operations -/

def binT (P : Program) (op : BinOp) (t : TypeId) (x y : DV) : Tr DV :=
  match x, y with
  | .int k a, .int k' b =>
    match op with
    | .shl | .shr => .br (decide (b < 0)) .fail (.of (binDV P op t (.int k a) (.int k' (max b 0))))
    | .quo => bif decide (k = k') then .br (decide (b = 0)) .fail (.leaf (.int k (k.wrap (a.tdiv b)))) else .fail
    | .rem => bif decide (k = k') then .br (decide (b = 0)) .fail (.leaf (.int k (a.tmod b))) else .fail
    | _ => .of (binDV P op t (.int k a) (.int k' b))
  | .str a, .str b =>
    match op with
    | .add => .br (decide (a.length + b.length ≤ 9223372036854775807)) (.leaf (.str (a ++ b))) .fail
    | _ => .of (strBin op a b)
  | x, y => .of (binDV P op t x y)

def pureT (v : AV) (fr : Fr) (H : Hp) : Tr R := .leaf ⟨v, fr, H, ftOf v⟩

def convT (P : Program) (src dst : TypeId) (x : AV) : Tr AV :=
  match P.underlying src, P.underlying dst with
  | some (.slice e), some .string => match P.underlying e, elems x with
    | some (.int .u8), some (_, xs) => .opt (bytesOf xs) fun s => .leaf (.d (.str s))
    | _, _ => .fail
  | _, _ => .of (convA P src dst x)

def makeSliceT (P : Program) (t : TypeId) (l c : AV) : Tr AV :=
  match P.underlying t, l, c with
  | some (.slice e), .d (.int _ l), .d (.int _ c) =>
    match P.info? e, zeroDV P e with
    | some i, some z =>
      bif decide (0 < P.cellsOf e) then
        .br (decide (0 ≤ l ∧ l ≤ c ∧ c ≤ 140737488355328 ∧ i.bytes * c ≤ 140737488355328)) (.leaf (.osl (P.cellsOf e) (List.replicate l.toNat z))) .fail
      else .fail
    | _, _ => .fail
  | _, _, _ => .fail

def sliceT (P : Program) (t : TypeId) (x : AV) (lo hi mx : Option AV) : Tr AV :=
  match P.underlying t with
  | some .string => match x, mx with
    | .d (.str s), none => match bound lo 0, bound hi s.length with
      | some l, some h => .br (decide (0 ≤ l ∧ l ≤ h ∧ h ≤ s.length)) (.leaf (.d (.str ((s.take h.toNat).drop l.toNat)))) .fail
      | _, _ => .fail
    | _, _ => .fail
  | some (.slice e) => match elems x with
    | some (sz, xs) => match bound lo 0, bound hi xs.length with
      | some l, some h =>
        bif tyOK P e && decide (sz = P.cellsOf e) then
          .br (decide (0 ≤ l ∧ l ≤ h ∧ h ≤ xs.length))
            (match mx with
            | none => .leaf (.d (.sl sz ((xs.take h.toNat).drop l.toNat)))
            | some (.d (.int _ m)) => bif decide (0 < P.cellsOf e) && hi.isSome then .br (decide (m = h)) (.leaf (.d (.sl sz ((xs.take h.toNat).drop l.toNat)))) .fail else .fail
            | _ => .fail) .fail
        else .fail
      | _, _ => .fail
    | none => .fail
  | _ => .fail

/-- One of the numbers below 'n'. -/
def selT {α : Type} (i : Int) (f : Nat → Tr α) : Nat → Nat → Tr α
  | 0, _ => .fail
  | n + 1, j => .br (decide (i = j)) (f j) (selT i f n (j + 1))

def atT {α : Type} (ix : Operand) (i : Int) (n : Nat) (f : Nat → Tr α) : Tr α :=
  match ix with
  | .const _ => bif decide (0 ≤ i) && decide (i < n) then f i.toNat else .fail
  | _ => selT i f n 0

def indexAddrT (X : TX) (t : TypeId) (x ix : AV) (io : Operand) : Tr AV :=
  match ix with
  | .d (.int k i) =>
    match X.P.underlying t with
    | some (.slice e) => match elems x with
      | some (sz, xs) => bif tyOK X.P e && decide (sz = X.P.cellsOf e) then .br (decide (0 ≤ i)) (.opt ((xs[i.toNat]?).bind (X.vw e).un) fun y => .leaf (.vp ((X.vw e).enc y))) .fail else .fail
      | none => .fail
    | some (.array n _) => atT io i n fun j => .of (indexAddrA X.P t x (.d (.int k j)))
    | _ => .fail
  | _ => .fail

def indexT (X : TX) (t : TypeId) (x ix : AV) (io : Operand) : Tr AV :=
  match ix with
  | .d (.int k i) =>
    match X.P.underlying t, x with
    | some .string, .d (.str s) => .br (decide (0 ≤ i)) (.opt s[i.toNat]? fun b => .leaf (.d (.int .u8 b.toNat))) .fail
    | some (.array n _), _ => atT io i n fun j => .of (indexA X.P t x (.d (.int k j)))
    | _, _ => .fail
  | _ => .fail

def appendST (P : Program) (t : TypeId) (s x : AV) (t2 : Option TypeId) : Tr AV :=
  match P.underlying t, s with
  | some (.slice e), .osl sz xs =>
    match P.info? e, (zeroCells P e) with
    | some i, some _ =>
      match appended P t t2 x with
      | some (sz2, ys) =>
        bif decide (sz = i.size) && decide (sz2 = i.size) && decide (0 < i.size) && decide (0 < i.bytes) then
          .br (decide ((xs.length + ys.length) * i.bytes ≤ 70368744177664)) (.leaf (.osl sz (xs ++ ys))) .fail
        else .fail
      | none => .fail
    | _, _ => .fail
  | _, _ => .fail

def appendZT (P : Program) (t : TypeId) (s : AV) (n : Int) : Tr AV :=
  match P.underlying t, s with
  | some (.slice e), .osl sz xs =>
    match P.underlying e, P.info? e with
    | some (.int ik), some i =>
      bif decide (i.size = 1) && zIs ik i.zero && decide (0 < i.bytes) && decide (sz = 1) then
        .br (decide (0 < n ∧ (xs.length + n.toNat) * i.bytes ≤ 70368744177664)) (.leaf (.zsl ik xs n.toNat)) .fail
      else .fail
    | _, _ => .fail
  | _, _ => .fail

def appendT (P : Program) (t : TypeId) (s x : AV) (t2 : Option TypeId) : Tr AV :=
  match t2 with
  | some u => match P.underlying u, x with
    | some (.int _), .d (.int _ n) => appendZT P t s n
    | some (.int _), _ => .fail
    | _, _ => appendST P t s x t2
  | none => .fail

def callT (X : TX) (f : FuncId) (as : List AV) (fr : Fr) (H : Hp) : Tr R :=
  bif X.iso f then
    match toDV1s as with
    | some ds => (X.call f (ds.map of1) []).bind fun r => match toDV r.1 with
      | some x => .leaf ⟨ofDV x, fr, H, .non⟩
      | none => .fail
    | none => .fail
  else bif as.all plain then (X.call f as H).bind fun r => .leaf ⟨r.1, fr, gc H.length r.1 r.2, .wH⟩
  else .fail

/-- Plain data, as they lie in a map. -/
def deDs : List AV → Option (List DV)
  | [] => some []
  | .d x :: r => (deDs r).map (x :: ·)
  | _ => none

def deAV : AV → Option DV
  | .d (.agg _) => none
  | .d x => some x
  | .agg cs => (deDs cs).map .agg
  | _ => none

def lookupT (X : TX) (t : TypeId) (kd : KK) (k : DV) (ks : List DV) (vs : List AV) (ck : Bool) : Tr AV :=
  match mapTy X.P t with
  | some (kd', et) =>
    bif decide (kd' = kd) && kd.has k then
      .br (hasM k ks)
        (.opt ((findM k ks vs).bind fun a => (deAV a).bind (X.vw et).un) fun y => .leaf (bif ck then .tup [of1 ((X.vw et).enc y), .d (.bool true)] else of1 ((X.vw et).enc y)))
        (match zeroAV X.P et with
        | some z => .leaf (bif ck then .tup [dup z, .d (.bool false)] else dup z)
        | none => .fail)
    else .fail
  | none => .fail

def aopT (X : TX) (st hf : Bool) (fr : Fr) (H : Hp) (o : Op) : Tr R :=
  match o with
  | .binOp op t x y _ => match rd X.cx fr x, rd X.cx fr y with
    | some (.d a), some (.d b) => (binT X.P op t a b).bind fun z => .leaf ⟨.d z, fr, H, .non⟩
    | _, _ => .fail
  | .convert s t x => match rd X.cx fr x with
    | some v => (convT X.P s t v).bind fun v => pureT v fr H
    | none => .fail
  | .makeSlice t l c => match rd X.cx fr l, rd X.cx fr c with
    | some l, some c => (makeSliceT X.P t l c).bind fun v => pureT v fr H
    | _, _ => .fail
  | .slice t x lo hi mx => match rd X.cx fr x with
    | some v =>
      match rds X.cx fr lo.toList, rds X.cx fr hi.toList, rds X.cx fr mx.toList with
      | some l, some h, some m => (sliceT X.P t v l.head? h.head? m.head?).bind fun v => pureT v fr H
      | _, _, _ => .fail
    | none => .fail
  | .indexAddr t x i => match rd X.cx fr x, rd X.cx fr i with
    | some v, some j => (indexAddrT X t v j i).bind fun v => pureT v fr H
    | _, _ => .fail
  | .index t x i => match rd X.cx fr x, rd X.cx fr i with
    | some v, some j => (indexT X t v j i).bind fun v => pureT v fr H
    | _, _ => .fail
  | .lookup t x k ck => match rd X.cx fr x, rd X.cx fr k with
    | some (.mp b), some (.d k) => match H[b]? with
      | some [.mpb kd ks vs] => (lookupT X t kd k ks vs ck).bind fun v => .leaf ⟨v, fr, H, .rH⟩
      | _ => .fail
    | _, _ => .fail
  | .call c => match c.callee with
    | .builtin .append => match c.args.toList, c.argTypes.toList with
      | [s, x], [t, u] => match rdS X.cx st fr s, rd X.cx fr x with
        | some (s, fr), some x => (appendT X.P t s x (some u)).bind fun v => pureT v fr H
        | _, _ => .fail
      | _, _ => .fail
    | .value f => match rd X.cx fr f, rdsF X.cx fr c.argTypes.toList c.args.toList with
      | some (.fn g), some as => callT X g as fr H
      | _, _ => .fail
    | _ => .of (aop X.cx st hf fr H (.call c))
  | o => .of (aop X.cx st hf fr H o)

/-! ### Regions, compiled -/

inductive CG where
  | yes
  | no
  | on (t : Nat) (want : Bool)

structure CO where
  g : CG
  dst : Option Nat
  op : Op
  st : Bool
  hf : Bool
  fx : List (Option Nat)

def cgOf (ops : List Oper) (o : Oper) : CG :=
  match o.guard with
  | none => .yes
  | some (j, want) => match ops[j]? with
    | some oj => match oj.dst with
      | some d => .on d want
      | none => .no
    | none => .no

def compile (P : Program) (an : RA) (ops : List Oper) : Nat → List Oper → List CO
  | _, [] => []
  | i, o :: r => ⟨cgOf ops o, o.dst, o.op, an.st.contains i, an.hf.contains i, fxOf P o.type⟩ :: compile P an ops (i + 1) r

abbrev Kn := List (Nat × Bool)

structure SK where
  fr : Fr
  H : Hp
  kn : Kn

def kget : Kn → Nat → Option Bool
  | [], _ => none
  | (t, b) :: r, u => if t = u then some b else kget r u

def kdel (d : Nat) : Kn → Kn
  | [] => []
  | (t, b) :: r => if t = d then kdel d r else (t, b) :: kdel d r

def kput (d : Option Nat) (b : Option Bool) (kn : Kn) : Kn :=
  match d with
  | none => kn
  | some d => match b with
    | some b => (d, b) :: kdel d kn
    | none => kdel d kn

/-- A Boolean operand that is known. -/
def know (kn : Kn) : Operand → Option Bool
  | .tmp t => kget kn t
  | .const (.bool b) => some b
  | _ => none

/-- What is known of an operation's answer. -/
def knowOp (kn : Kn) : Op → Option Bool
  | .move x | .assign x => know kn x
  | .unOp .not _ x => match know kn x with
    | some b => some (!b)
    | none => none
  | _ => none

def goT (X : TX) (st hf : Bool) (dst : Option Nat) (op : Op) (fx : List (Option Nat)) (s : SK) : Tr SK :=
  (aopT X st hf s.fr s.H op).bind fun r => bif okV r.v r.ft then .leaf ⟨put dst (fixA fx r.v) r.fr, r.H, kput dst (knowOp s.kn op) s.kn⟩ else .fail

def skipT (dst : Option Nat) (s : SK) : SK := ⟨put dst .undef s.fr, s.H, kput dst none s.kn⟩

/-- A Boolean slot is decided. -/
def decT {α : Type} (t : Nat) (s : SK) (yes no : SK → Tr α) (un : SK → Tr α) : Tr α :=
  match kget s.kn t with
  | some true => yes s
  | some false => no s
  | none => match get s.fr t with
    | some (.d (.bool b)) => .br b (yes ⟨upd t (.d (.bool true)) s.fr, s.H, (t, true) :: s.kn⟩) (no ⟨upd t (.d (.bool false)) s.fr, s.H, (t, false) :: s.kn⟩)
    | some .undef => un s
    | _ => .fail

/-- A pick. -/
def pickT (X : TX) (dst : Option Nat) (fx : List (Option Nat)) (c a b : Operand) (s : SK) : Tr SK :=
  match c with
  | .tmp t => decT t s (fun s => pickGo X dst fx a b a s) (fun s => pickGo X dst fx a b b s) (fun _ => .fail)
  | _ => .fail
where
  pickGo (X : TX) (dst : Option Nat) (fx : List (Option Nat)) (a b x : Operand) (s : SK) : Tr SK :=
    match rd X.cx s.fr a, rd X.cx s.fr b, rd X.cx s.fr x with
    | some u, some v, some y => bif pickB u && pickB v then .leaf ⟨put dst (fixA fx y) s.fr, s.H, kput dst (know s.kn x) s.kn⟩ else .fail
    | _, _, _ => .fail

def opT (X : TX) (st hf : Bool) (dst : Option Nat) (op : Op) (fx : List (Option Nat)) (s : SK) : Tr SK :=
  match op with
  | .pick c a b => pickT X dst fx c a b s
  | op => goT X st hf dst op fx s

def stepT (X : TX) (c : CO) (s : SK) : Tr SK :=
  match c.g with
  | .yes => opT X c.st c.hf c.dst c.op c.fx s
  | .no => .leaf (skipT c.dst s)
  | .on d want => decT d s (fun s => bif want then opT X c.st c.hf c.dst c.op c.fx s else .leaf (skipT c.dst s)) (fun s => bif want then .leaf (skipT c.dst s) else opT X c.st c.hf c.dst c.op c.fx s) (fun s => .leaf (skipT c.dst s))

def runT (X : TX) : List CO → SK → Tr SK
  | [], s => .leaf s
  | c :: r, s => (stepT X c s).bind (runT X r)

def krestrict (kn : Kn) (lv : List Nat) : Kn := kn.filter fun p => lv.contains p.1

def SK.keep (lv : List Nat) (s : SK) : SK := ⟨restrict s.fr lv, s.H, krestrict s.kn lv⟩

/-! ### A region that draws its order: no branch but by guards -/

structure SF where
  s : SK
  fs : List Ft

def ftT (X : TX) (an : RA) (i : Nat) (g : CG) (o : Oper) (s : SK) : Tr SF :=
  match o.op with
  | .pick c a b => (pickT X o.dst (fxOf X.P o.type) c a b s).bind fun s => .leaf ⟨s, [⟨.non, o.dst⟩]⟩
  | op => (aopT X (an.st.contains i) (an.hf.contains i) s.fr s.H op).bind fun r => bif okV r.v r.ft then .leaf ⟨⟨put o.dst (fixA (fxOf X.P o.type) r.v) r.fr, r.H, kput o.dst (knowOp s.kn op) s.kn⟩, [⟨r.ft, o.dst⟩]⟩ else .fail

def stepFT (X : TX) (an : RA) (ops : List Oper) (i : Nat) (o : Oper) (s : SK) : Tr SF :=
  match cgOf ops o with
  | .yes => ftT X an i .yes o s
  | .no => .leaf ⟨skipT o.dst s, [⟨.non, o.dst⟩]⟩
  | .on d want => decT d s (fun s => bif want then ftT X an i .yes o s else .leaf ⟨skipT o.dst s, [⟨.non, o.dst⟩]⟩) (fun s => bif want then .leaf ⟨skipT o.dst s, [⟨.non, o.dst⟩]⟩ else ftT X an i .yes o s) (fun s => .leaf ⟨skipT o.dst s, [⟨.non, o.dst⟩]⟩)

def runFT (X : TX) (an : RA) (ops : List Oper) : Nat → List Oper → SK → Tr SF
  | _, [], s => .leaf ⟨s, []⟩
  | i, o :: r, s => (stepFT X an ops i o s).bind fun x => (runFT X an ops (i + 1) r x.s).bind fun y => .leaf ⟨y.s, x.fs ++ y.fs⟩

def drawnT (X : TX) (an : RA) (ops : List Oper) (s : SK) : Tr SK :=
  (runFT X an ops 0 ops s).bind fun x => bif Region.lexB .any ops.toArray && apartAll ops an.st 0 ops x.fs then .leaf (x.s.keep an.live) else .fail

/-! ### Code -/

inductive CC : Type 1 where
  | skip
  | region (cs : List CO) (live : List Nat)
  | drawn (an : RA) (ops : List Oper)
  | seq (a b : CC)
  | cond (c : Operand) (a b : CC)
  | block (id : Nat) (b : CC)
  | loop (b : CC)
  | exit (id : Nat)
  | ret
  | bad
  | keep (lv : List Nat) (b : CC)
  | sum (f : ST → Tr (Ex × ST)) (b : CC)

def comp (P : Program) (an : Ann) : Code → CC
  | .skip => .skip
  | .label _ => .skip
  | .region id ops false => .region (compile P (an id) ops.toList 0 ops.toList) (an id).live
  | .region id ops true => .drawn (an id) ops.toList
  | .seq a b => .seq (comp P an a) (comp P an b)
  | .cond c a b => .cond c (comp P an a) (comp P an b)
  | .block id b => .block id (comp P an b)
  | .loop b => .loop (comp P an b)
  | .exit id => .exit id
  | .scope b => comp P an b
  | .ret => .ret
  | _ => .bad

/-- Without what was laid in. -/
def erase : CC → CC
  | .seq a b => .seq (erase a) (erase b)
  | .cond c a b => .cond c (erase a) (erase b)
  | .block id b => .block id (erase b)
  | .loop b => .loop (erase b)
  | .keep _ b => erase b
  | .sum _ b => erase b
  | x => x

def exK (r : Ex × ST) : Ex × SK := (r.1, ⟨r.2.fr, r.2.H, []⟩)

def execT (X : TX) : CC → SK → Tr (Ex × SK)
  | .skip, s => .leaf (.nrm, s)
  | .region cs lv, s => (runT X cs s).bind fun s => .leaf (.nrm, s.keep lv)
  | .drawn an ops, s => (drawnT X an ops s).bind fun s => .leaf (.nrm, s)
  | .seq a b, s => (execT X a s).bind fun r => match r.1 with
    | .nrm => execT X b r.2
    | _ => .leaf r
  | .cond c a b, s => match c with
    | .tmp t => decT t s (execT X a) (execT X b) (fun _ => .fail)
    | .const (.bool true) => execT X a s
    | .const (.bool false) => execT X b s
    | _ => .fail
  | .block id b, s => (execT X b s).bind fun r => match r.1 with
    | .ext i => bif decide (i = id) then .leaf (.nrm, r.2) else .leaf r
    | _ => .leaf r
  | .loop _, _ => .fail
  | .exit id, s => .leaf (.ext id, s)
  | .ret, s => .leaf (.ret, s)
  | .bad, _ => .fail
  | .keep lv b, s => execT X b (s.keep lv)
  | .sum f _, s => (f ⟨s.fr, s.H⟩).bind fun r => .leaf (exK r)

def finishT (P : Program) (rs : List ResultVar) (r : Ex × SK) : Tr (AV × Hp) :=
  match r.1 with
  | .ext _ => .fail
  | _ => match resultsA P r.2.fr r.2.H rs with
    | some vs => bif vs.all plain then .leaf (retA (vs.map dup), r.2.H) else .fail
    | none => .fail

/-- A whole function. -/
def fnT (X : TX) (cc : CC) (rs : List ResultVar) (as : List AV) (H : Hp) : Tr (AV × Hp) := (execT X cc ⟨numbered 0 as, H, []⟩).bind (finishT X.P rs)

abbrev FT := List AV → Hp → Tr (AV × Hp)

def tbl : List (Nat × FT) → FuncId → FT
  | [], _ => fun _ _ => .fail
  | (f, g) :: r, u => if f = u then g else tbl r u

end Go.AI

/- What the tree of decisions says, the interpreter says. -/
namespace Go.AI
set_option linter.unusedVariables false
set_option linter.unusedSimpArgs false

theorem Tr.run_bind {α β : Type} {f : α → Tr β} : ∀ (t : Tr α), (t.bind f).run = t.run.bind fun a => (f a).run
  | .leaf a => rfl
  | .fail => rfl
  | .br b t e => by cases b <;> simp [Tr.bind, Tr.run, Tr.run_bind t, Tr.run_bind e]
  | .opt o k => by
    cases o with
    | none => rfl
    | some y => simp [Tr.bind, Tr.run, Tr.run_bind (k y)]

theorem Tr.bind_some {α β : Type} {f : α → Tr β} {t : Tr α} {x : β} (h : (t.bind f).run = some x) : ∃ a, t.run = some a ∧ (f a).run = some x := by
  rw [Tr.run_bind] at h
  cases ht : t.run with
  | none => rw [ht] at h; simp at h
  | some a => rw [ht] at h; exact ⟨a, rfl, h⟩

theorem Tr.of_run {α : Type} (o : Option α) : (Tr.of o).run = o := by cases o <;> rfl

theorem Tr.br_some {α : Type} {b : Bool} {t e : Tr α} {x : α} (h : (Tr.br b t e).run = some x) : (b = true ∧ t.run = some x) ∨ (b = false ∧ e.run = some x) := by
  cases b with
  | true => exact .inl ⟨rfl, h⟩
  | false => exact .inr ⟨rfl, h⟩

theorem Tr.cond_some {α : Type} {b : Bool} {t : Tr α} {x : α} (h : (bif b then t else Tr.fail).run = some x) : b = true ∧ t.run = some x := by
  cases b with
  | true => exact ⟨rfl, h⟩
  | false => simp [Tr.run] at h

theorem Tr.opt_some {α β : Type} {o : Option β} {k : β → Tr α} {x : α} (h : (Tr.opt o k).run = some x) : ∃ y, o = some y ∧ (k y).run = some x := by
  cases o with
  | none => simp [Tr.run] at h
  | some y => exact ⟨y, rfl, h⟩

theorem Tr.fail_some {α : Type} {x : α} {p : Prop} (h : (Tr.fail : Tr α).run = some x) : p := by simp [Tr.run] at h

theorem Tr.leaf_some {α : Type} {a x : α} (h : (Tr.leaf a).run = some x) : a = x := Option.some.inj h

section
variable {P : Program}

theorem binT_run {op : BinOp} {t : TypeId} {x y z : DV} (h : (binT P op t x y).run = some z) : binDV P op t x y = some z := by
  unfold binT at h
  split at h
  · rename_i k a k' b
    split at h
    all_goals first
      | (rcases Tr.br_some h with ⟨h1, h2⟩ | ⟨h1, h2⟩
         · exact Tr.fail_some h2
         · have hb : ¬ b < 0 := by simpa using h1
           rw [Tr.of_run, show max b 0 = b by omega] at h2
           exact h2)
      | (by_cases hk : k = k'
         · subst hk
           simp only [decide_true, cond_true] at h
           rcases Tr.br_some h with ⟨h1, h2⟩ | ⟨h1, h2⟩
           · exact Tr.fail_some h2
           · have hb : ¬ b = 0 := by simpa using h1
             have := Tr.leaf_some h2
             subst this
             simp [binDV, intBin, hb]
         · simp only [decide_eq_false hk, cond_false] at h
           exact Tr.fail_some h)
      | (rw [Tr.of_run] at h; exact h)
  · rename_i a b
    split at h
    · rcases Tr.br_some h with ⟨h1, h2⟩ | ⟨h1, h2⟩
      · have hb := of_decide_eq_true h1
        have := Tr.leaf_some h2
        subst this
        simp [binDV, strBin, hb]
      · exact Tr.fail_some h2
    · rw [Tr.of_run] at h
      exact h
  · rw [Tr.of_run] at h; exact h

theorem convT_run {s t : TypeId} {x v : AV} (h : (convT P s t x).run = some v) : convA P s t x = some v := by
  unfold convT at h
  split at h
  · rename_i e h1 h2
    split at h
    · rename_i sz xs h3 h4
      obtain ⟨y, h5, h6⟩ := Tr.opt_some h
      have := Tr.leaf_some h6
      subst this
      simp [convA, h1, h2, h3, h4, h5]
    · exact Tr.fail_some h
  · rw [Tr.of_run] at h; exact h

theorem makeSliceT_run {t : TypeId} {l c v : AV} (h : (makeSliceT P t l c).run = some v) : makeSliceA P t l c = some v := by
  unfold makeSliceT at h
  split at h
  · rename_i e k l k' c h1
    split at h
    · rename_i i z h2 h3
      obtain ⟨h4, h⟩ := Tr.cond_some h
      rcases Tr.br_some h with ⟨h5, h6⟩ | ⟨_, h6⟩
      · have := Tr.leaf_some h6
        subst this
        have h4 := of_decide_eq_true h4
        have h5 := of_decide_eq_true h5
        simp only [makeSliceA, h1, h2, h3]
        rw [if_pos ⟨h5.1, h5.2.1, h5.2.2.1, h5.2.2.2, h4⟩]
      · exact Tr.fail_some h6
    · exact Tr.fail_some h
  · exact Tr.fail_some h

theorem sliceT_run {t : TypeId} {x : AV} {lo hi mx : Option AV} {v : AV} (h : (sliceT P t x lo hi mx).run = some v) : sliceA P t x lo hi mx = some v := by
  unfold sliceT at h
  split at h
  · rename_i h0
    split at h
    · rename_i s
      split at h
      · rename_i l hh h1 h2
        rcases Tr.br_some h with ⟨h3, h4⟩ | ⟨_, h4⟩
        · have := Tr.leaf_some h4
          subst this
          have h3 := of_decide_eq_true h3
          simp only [sliceA, h0, h1, h2]
          rw [if_pos h3]
        · exact Tr.fail_some h4
      · exact Tr.fail_some h
    · exact Tr.fail_some h
  · rename_i e h0
    split at h
    · rename_i sz xs h1
      split at h
      · rename_i l hh h2 h3
        obtain ⟨h4, h⟩ := Tr.cond_some h
        simp only [Bool.and_eq_true, decide_eq_true_eq] at h4
        rcases Tr.br_some h with ⟨h5, h6⟩ | ⟨_, h6⟩
        · have h5 := of_decide_eq_true h5
          simp only [sliceA, h0, h1, h2, h3]
          rw [if_pos ⟨h4.1, h5.1, h5.2.1, h5.2.2, .inl h4.2⟩]
          split at h6
          · have := Tr.leaf_some h6
            subst this; rfl
          · rename_i k m
            obtain ⟨h7, h6⟩ := Tr.cond_some h6
            simp only [Bool.and_eq_true, decide_eq_true_eq] at h7
            rcases Tr.br_some h6 with ⟨h8, h9⟩ | ⟨_, h9⟩
            · have h8 := of_decide_eq_true h8
              have := Tr.leaf_some h9
              subst this
              simp only
              rw [if_pos ⟨h8, h7.1, h7.2⟩, h4.2]
            · exact Tr.fail_some h9
          · exact Tr.fail_some h6
        · exact Tr.fail_some h6
      · exact Tr.fail_some h
    · exact Tr.fail_some h
  · exact Tr.fail_some h

theorem selT_run {α : Type} {i : Int} {f : Nat → Tr α} {x : α} : ∀ (n j : Nat), (selT i f n j).run = some x → ∃ m : Nat, i = m ∧ (f m).run = some x
  | 0, j, h => Tr.fail_some h
  | n + 1, j, h => by
    unfold selT at h
    rcases Tr.br_some h with ⟨h1, h2⟩ | ⟨_, h2⟩
    · exact ⟨j, of_decide_eq_true h1, h2⟩
    · exact selT_run n (j + 1) h2

theorem atT_run {α : Type} {io : Operand} {i : Int} {n : Nat} {f : Nat → Tr α} {x : α} (h : (atT io i n f).run = some x) : ∃ m : Nat, i = m ∧ (f m).run = some x := by
  unfold atT at h
  split at h
  · obtain ⟨h1, h2⟩ := Tr.cond_some h
    simp only [Bool.and_eq_true, decide_eq_true_eq] at h1
    exact ⟨i.toNat, by omega, h2⟩
  · exact selT_run _ _ h

theorem appendST_run {t : TypeId} {s x v : AV} {u : Option TypeId} (h : (appendST P t s x u).run = some v) : appendS P t s x u = some v := by
  unfold appendST at h
  split at h
  · rename_i e sz xs h0
    split at h
    · rename_i i zc h1 h2
      split at h
      · rename_i sz2 ys h3
        obtain ⟨h4, h⟩ := Tr.cond_some h
        simp only [Bool.and_eq_true, decide_eq_true_eq] at h4
        obtain ⟨⟨⟨h5, h6⟩, h7⟩, h8⟩ := h4
        rcases Tr.br_some h with ⟨h9, h10⟩ | ⟨_, h10⟩
        · have h9 := of_decide_eq_true h9
          have := Tr.leaf_some h10
          subst this
          simp only [appendS, h0, h1, h2, h3]
          rw [if_pos ⟨.inl h5, .inl h6, h7, h8, h9⟩, h5]
        · exact Tr.fail_some h10
      · exact Tr.fail_some h
    · exact Tr.fail_some h
  · exact Tr.fail_some h
end

section
variable {X : TX}

theorem appendZT_run {P : Program} {t : TypeId} {s v : AV} {n : Int} (h : (appendZT P t s n).run = some v) : appendZ P t s n = some v := by
  unfold appendZT at h
  unfold appendZ
  split at h
  · rename_i e sz xs ht
    simp only [ht]
    split at h
    · rename_i ik i he hi
      simp only [he, hi]
      obtain ⟨hc, h⟩ := Tr.cond_some h
      simp only [Bool.and_eq_true, decide_eq_true_eq] at hc
      rcases Tr.br_some h with ⟨hb, h⟩ | ⟨hb, h⟩
      · simp only [decide_eq_true_eq] at hb
        rw [if_pos ⟨⟨hc.1.1.1, hc.1.1.2, hc.1.2, hc.2⟩, hb⟩, Tr.leaf_some h]
      · exact Tr.fail_some h
    · exact Tr.fail_some h
  · exact Tr.fail_some h

theorem appendT_run {P : Program} {t : TypeId} {s x v : AV} {u : Option TypeId} (h : (appendT P t s x u).run = some v) : appendA P t s x u = some v := by
  unfold appendT at h
  unfold appendA
  split at h
  · simp only
    split at h
    · rename_i hu; simp only [hu]; exact appendZT_run h
    · exact Tr.fail_some h
    · rename_i h1 h2
      split
      · exact (h1 _ (by assumption)).elim
      · exact (h1 _ (by assumption)).elim
      · exact appendST_run h
  · exact Tr.fail_some h

theorem indexAddrT_run {t : TypeId} {x ix v : AV} {io : Operand} (h : (indexAddrT X t x ix io).run = some v) : indexAddrA X.P t x ix = some v := by
  unfold indexAddrT at h
  split at h
  · rename_i k i
    split at h
    · rename_i e h0
      split at h
      · rename_i sz xs h1
        obtain ⟨h2, h⟩ := Tr.cond_some h
        simp only [Bool.and_eq_true, decide_eq_true_eq] at h2
        rcases Tr.br_some h with ⟨h3, h4⟩ | ⟨_, h4⟩
        · have h3 := of_decide_eq_true h3
          obtain ⟨y, h5, h6⟩ := Tr.opt_some h4
          have := Tr.leaf_some h6
          subst this
          cases hx : xs[i.toNat]? with
          | none => rw [hx] at h5; simp at h5
          | some z =>
            rw [hx] at h5
            have := (X.vw e).ok z y h5
            simp only [indexAddrA, h0, h1]
            rw [if_pos ⟨h2.1, h3, h2.2⟩, hx, this]; rfl
        · exact Tr.fail_some h4
      · exact Tr.fail_some h
    · obtain ⟨m, rfl, h1⟩ := atT_run h
      rw [Tr.of_run] at h1; exact h1
    · exact Tr.fail_some h
  · exact Tr.fail_some h

theorem indexT_run {t : TypeId} {x ix v : AV} {io : Operand} (h : (indexT X t x ix io).run = some v) : indexA X.P t x ix = some v := by
  unfold indexT at h
  split at h
  · rename_i k i
    split at h
    · rename_i s h0
      rcases Tr.br_some h with ⟨h3, h4⟩ | ⟨_, h4⟩
      · have h3 := of_decide_eq_true h3
        obtain ⟨y, h5, h6⟩ := Tr.opt_some h4
        have := Tr.leaf_some h6
        subst this
        simp only [indexA, h0]
        rw [if_pos h3, h5]; rfl
      · exact Tr.fail_some h4
    · obtain ⟨m, rfl, h1⟩ := atT_run h
      rw [Tr.of_run] at h1; exact h1
    · exact Tr.fail_some h
  · exact Tr.fail_some h

theorem deDs_some : ∀ {cs : List AV} {xs : List DV}, deDs cs = some xs → cs = xs.map .d
  | [], _, h => by simp [deDs] at h; subst h; rfl
  | a :: r, xs, h => by
    cases a <;> simp [deDs] at h
    obtain ⟨ys, h1, rfl⟩ := h
    rw [deDs_some h1]; rfl

theorem deAV_some {v : AV} {x : DV} (h : deAV v = some x) : v = of1 x := by
  cases v <;> simp [deAV] at h
  case d y =>
    cases y <;> simp [deAV] at h <;> subst h <;> rfl
  case agg cs =>
    obtain ⟨xs, h1, rfl⟩ := h
    rw [deDs_some h1]; rfl

theorem has_find {k : DV} : ∀ {ks : List DV} {vs : List AV}, hasM k ks = false → findM k ks vs = none
  | [], _, _ => rfl
  | _ :: _, [], _ => rfl
  | x :: ks, v :: vs, h => by
    simp only [hasM, Bool.or_eq_false_iff] at h
    simp only [findM, h.1, cond_false, has_find h.2]

theorem lookupT_run {t : TypeId} {kd : KK} {k : DV} {ks : List DV} {vs : List AV} {ck : Bool} {v : AV} (h : (lookupT X t kd k ks vs ck).run = some v) : lookupA X.P t kd k ks vs ck = some v := by
  unfold lookupT at h
  unfold lookupA
  split at h
  · rename_i kd' et hty
    obtain ⟨hc, h⟩ := Tr.cond_some h
    simp only [Bool.and_eq_true, decide_eq_true_eq] at hc
    simp only [hty, if_pos hc]
    rcases Tr.br_some h with ⟨hb, h⟩ | ⟨hb, h⟩
    · obtain ⟨y, h1, h2⟩ := Tr.opt_some h
      cases hf : findM k ks vs with
      | none => rw [hf] at h1; simp at h1
      | some a =>
        rw [hf] at h1
        simp only [Option.bind_some] at h1
        cases hd : deAV a with
        | none => rw [hd] at h1; simp at h1
        | some x =>
          rw [hd] at h1
          have hx := (X.vw et).ok x y h1
          have ha := deAV_some hd
          rw [hx] at ha
          have := Tr.leaf_some h2
          rw [← this, ha]
    · rw [has_find hb]
      split at h
      · rename_i z hz
        have := Tr.leaf_some h
        simp only [hz, this]
      · exact Tr.fail_some h
  · exact Tr.fail_some h

theorem callT_run {f : FuncId} {as : List AV} {fr : Fr} {H : Hp} {r : R} (h : (callT X f as fr H).run = some r) : ∃ v H' ft, callA X.cx f as H = some (v, H', ft) ∧ r = ⟨v, fr, H', ft⟩ := by
  unfold callT at h
  unfold callA
  cases hi : X.iso f with
  | true =>
    rw [hi, cond_true] at h
    rw [show X.cx.iso f = true from hi, cond_true]
    split at h
    · rename_i ds h1
      obtain ⟨⟨v, H0⟩, h2, h3⟩ := Tr.bind_some h
      have h2' : X.cx.call f (ds.map of1) [] = some (v, H0) := h2
      simp only at h3
      split at h3
      · rename_i x h4
        have := Tr.leaf_some h3
        exact ⟨_, _, _, by simp only [h1, h2', h4], this.symm⟩
      · exact Tr.fail_some h3
    · exact Tr.fail_some h
  | false =>
    rw [hi, cond_false] at h
    rw [show X.cx.iso f = false from hi, cond_false]
    obtain ⟨h1, h⟩ := Tr.cond_some h
    obtain ⟨⟨v, H0⟩, h2, h3⟩ := Tr.bind_some h
    have h2' : X.cx.call f as H = some (v, H0) := h2
    rw [if_pos h1, h2']
    exact ⟨_, _, _, rfl, (Tr.leaf_some h3).symm⟩

theorem pureT_run {t : Tr AV} {fr : Fr} {H : Hp} {r : R} (h : (t.bind fun v => pureT v fr H).run = some r) : ∃ v, t.run = some v ∧ r = ⟨v, fr, H, ftOf v⟩ := by
  obtain ⟨v, h1, h2⟩ := Tr.bind_some h
  exact ⟨v, h1, (Tr.leaf_some h2).symm⟩

theorem aopT_run {st hf : Bool} {fr : Fr} {H : Hp} {op : Op} {r : R} (h : (aopT X st hf fr H op).run = some r) : aop X.cx st hf fr H op = some r := by
  unfold aopT at h
  split at h
  · split at h
    · rename_i a b h1 h2
      obtain ⟨z, h3, h4⟩ := Tr.bind_some h
      have := Tr.leaf_some h4
      subst this
      have h5 : binDV X.cx.P _ _ a b = some z := binT_run h3
      simp only [aop, h1, h2, h5]; rfl
    · exact Tr.fail_some h
  · split at h
    · rename_i v h1
      obtain ⟨z, h3, rfl⟩ := pureT_run h
      have h5 : convA X.cx.P _ _ v = some z := convT_run h3
      simp only [aop, h1, h5]; rfl
    · exact Tr.fail_some h
  · split at h
    · rename_i l c h1 h2
      obtain ⟨z, h3, rfl⟩ := pureT_run h
      have h5 : makeSliceA X.cx.P _ l c = some z := makeSliceT_run h3
      simp only [aop, h1, h2, h5]; rfl
    · exact Tr.fail_some h
  · split at h
    · rename_i v h1
      split at h
      · rename_i l hh m h2 h3 h4
        obtain ⟨z, h5, rfl⟩ := pureT_run h
        have h6 : sliceA X.cx.P _ v _ _ _ = some z := sliceT_run h5
        simp only [aop, h1, h2, h3, h4, h6]; rfl
      · exact Tr.fail_some h
    · exact Tr.fail_some h
  · split at h
    · rename_i v j h1 h2
      obtain ⟨z, h5, rfl⟩ := pureT_run h
      have h6 : indexAddrA X.cx.P _ v j = some z := indexAddrT_run h5
      simp only [aop, h1, h2, h6]; rfl
    · exact Tr.fail_some h
  · split at h
    · rename_i v j h1 h2
      obtain ⟨z, h5, rfl⟩ := pureT_run h
      have h6 : indexA X.cx.P _ v j = some z := indexT_run h5
      simp only [aop, h1, h2, h6]; rfl
    · exact Tr.fail_some h
  · split at h
    · rename_i b k h1 h2
      split at h
      · rename_i kd ks vs hg
        obtain ⟨v, h3, h4⟩ := Tr.bind_some h
        have := Tr.leaf_some h4
        subst this
        have h5 : lookupA X.cx.P _ kd k ks vs _ = some v := lookupT_run h3
        simp only [aop, h1, h2, hg, h5]
      · exact Tr.fail_some h
    · exact Tr.fail_some h
  · rename_i c
    split at h
    · rename_i hc
      split at h
      · rename_i s x t u h1 h2
        split at h
        · rename_i s' fr' x' h3 h4
          obtain ⟨z, h5, rfl⟩ := pureT_run h
          have h6 : appendA X.cx.P t s' x' (some u) = some z := appendT_run h5
          simp only [aop, hc, h1, h2, h3, h4, h6]; rfl
        · exact Tr.fail_some h
      · exact Tr.fail_some h
    · rename_i f hc
      split at h
      · rename_i g as h1 h2
        obtain ⟨v, H', ft, h3, rfl⟩ := callT_run h
        simp only [aop, hc, h1, h2, h3]
      · exact Tr.fail_some h
    · rw [Tr.of_run] at h; exact h
  · rw [Tr.of_run] at h; exact h

/-! ### What is known -/

def KnOK (s : SK) : Prop := ∀ t b, kget s.kn t = some b → get s.fr t = some (.d (.bool b))

theorem upd_same {t : Nat} {a : AV} : ∀ {fr : Fr}, get fr t = some a → upd t a fr = fr
  | [], h => by simp [get] at h
  | (u, c) :: r, h => by
    by_cases hu : u = t
    · simp only [get, hu, if_true, Option.some.injEq] at h
      simp [upd, hu, h]
    · simp only [get, if_neg hu] at h
      simp [upd, hu, upd_same h]

theorem decT_run {α : Type} {t : Nat} {s : SK} {yes no un : SK → Tr α} {x : α} (hk : KnOK s) (h : (decT t s yes no un).run = some x) :
    (∃ b s', get s.fr t = some (.d (.bool b)) ∧ s'.fr = s.fr ∧ s'.H = s.H ∧ KnOK s' ∧ ((bif b then yes s' else no s').run = some x)) ∨ (get s.fr t = some .undef ∧ (un s).run = some x) := by
  have cons : ∀ b, get s.fr t = some (.d (.bool b)) → KnOK ⟨s.fr, s.H, (t, b) :: s.kn⟩ := fun b hg u c hu => by
    simp only [kget] at hu
    by_cases htu : t = u
    · subst htu; simp at hu; subst hu; exact hg
    · rw [if_neg htu] at hu; exact hk u c hu
  unfold decT at h
  split at h
  · rename_i hg; exact .inl ⟨true, s, hk _ _ hg, rfl, rfl, hk, h⟩
  · rename_i hg; exact .inl ⟨false, s, hk _ _ hg, rfl, rfl, hk, h⟩
  · split at h
    · rename_i b hg
      rcases Tr.br_some h with ⟨rfl, h2⟩ | ⟨rfl, h2⟩
      · rw [upd_same hg] at h2; exact .inl ⟨true, ⟨s.fr, s.H, (t, true) :: s.kn⟩, hg, rfl, rfl, cons _ hg, h2⟩
      · rw [upd_same hg] at h2; exact .inl ⟨false, ⟨s.fr, s.H, (t, false) :: s.kn⟩, hg, rfl, rfl, cons _ hg, h2⟩
    · rename_i hg; exact .inr ⟨hg, h⟩
    · exact Tr.fail_some h

theorem kget_kdel {d t : Nat} {b : Bool} : ∀ {kn : Kn}, kget (kdel d kn) t = some b → t ≠ d ∧ kget kn t = some b
  | [], h => by simp [kdel, kget] at h
  | (u, c) :: r, h => by
    by_cases hu : u = d
    · simp only [kdel, hu, if_true] at h
      obtain ⟨h1, h2⟩ := kget_kdel h
      exact ⟨h1, by simp [kget, hu, Ne.symm h1, h2]⟩
    · simp only [kdel, if_neg hu, kget] at h
      by_cases hut : u = t
      · rw [if_pos hut] at h
        exact ⟨by rw [← hut]; exact hu, by simp [kget, hut, h]⟩
      · rw [if_neg hut] at h
        obtain ⟨h1, h2⟩ := kget_kdel h
        exact ⟨h1, by simp [kget, hut, h2]⟩

theorem KnOK.put {fr fr' : Fr} {H H' : Hp} {kn : Kn} {dst : Option Nat} {v : AV} {kb : Option Bool} (hk : KnOK ⟨fr, H, kn⟩) (hf : ∀ t b, get fr t = some (.d (.bool b)) → get fr' t = some (.d (.bool b)))
    (hv : ∀ b, kb = some b → v = .d (.bool b)) : KnOK ⟨Go.AI.put dst v fr', H', kput dst kb kn⟩ := by
  intro t b h
  cases dst with
  | none => exact hf _ _ (hk t b h)
  | some d =>
    have old : kget (kdel d kn) t = some b → get (Go.AI.put (some d) v fr') t = some (.d (.bool b)) := fun h => by
      obtain ⟨h1, h2⟩ := kget_kdel h
      rw [get_put, if_neg h1, hf t b (hk t b h2)]; rfl
    cases kb with
    | none => exact old h
    | some c =>
      simp only [kput, kget] at h
      by_cases htd : d = t
      · subst htd
        simp at h; subst h
        rw [get_put, if_pos rfl, hv _ rfl]; rfl
      · rw [if_neg htd] at h; exact old h

theorem aop_bools {cx : Cx} {st hf : Bool} {fr : Fr} {H : Hp} {op : Op} {r : R} (h : aop cx st hf fr H op = some r) (t : Nat) (b : Bool) (hg : get fr t = some (.d (.bool b))) : get r.fr t = some (.d (.bool b)) := by
  obtain ⟨e, h1, _, _, h4, _⟩ := aop_loc h
  rw [h1]
  have hd : get (disL e.ds fr) t = some (.d (.bool b)) := by rw [get_disL, hg]; split <;> rfl
  unfold Eff.app
  cases hb : e.bx with
  | none => exact hd
  | some p =>
    obtain ⟨u, lo, cs⟩ := p
    simp only [boxApp]
    split
    · rename_i bb hu
      rw [get_upd]
      split
      · rename_i htu; subst htu; rw [hd] at hu; simp at hu
      · exact hd
    · exact hd

theorem know_rd {cx : Cx} {fr : Fr} {H : Hp} {kn : Kn} {o : Operand} {b : Bool} (hk : KnOK ⟨fr, H, kn⟩) (h : know kn o = some b) : rd cx fr o = some (.d (.bool b)) := by
  cases o with
  | tmp t => simp only [rd, hk t b h]; rfl
  | const v =>
    cases v <;> simp [know] at h
    subst h; rfl
  | global g => simp [know] at h
  | func f => simp [know] at h

theorem know_rdS {cx : Cx} {st : Bool} {fr fr' : Fr} {H : Hp} {kn : Kn} {o : Operand} {b : Bool} {v : AV} (hk : KnOK ⟨fr, H, kn⟩) (h : know kn o = some b) (hr : rdS cx st fr o = some (v, fr')) : v = .d (.bool b) := by
  have h1 := know_rd (cx := cx) hk h
  cases st with
  | false => simp only [rdS, cond_false, h1, Option.map_some] at hr; exact (Prod.mk.inj (Option.some.inj hr)).1.symm
  | true =>
    cases o with
    | tmp t => simp only [rdS, cond_true, hk t b h] at hr; exact (Prod.mk.inj (Option.some.inj hr)).1.symm
    | const v' => simp only [rdS, cond_true, h1, Option.map_some] at hr; exact (Prod.mk.inj (Option.some.inj hr)).1.symm
    | global g => simp [know] at h
    | func f => simp [know] at h

theorem knowOp_v {cx : Cx} {st hf : Bool} {fr : Fr} {H : Hp} {kn : Kn} {op : Op} {r : R} {b : Bool} (hk : KnOK ⟨fr, H, kn⟩) (hb : knowOp kn op = some b) (h : aop cx st hf fr H op = some r) : r.v = .d (.bool b) := by
  unfold knowOp at hb
  split at hb
  · simp only [aop] at h
    split at h
    · rename_i h1; obtain rfl := Option.some.inj h; exact know_rdS hk hb h1
    · simp at h
  · simp only [aop] at h
    split at h
    · rename_i h1; obtain rfl := Option.some.inj h; exact know_rdS hk hb h1
    · simp at h
  · split at hb
    · rename_i c h1
      obtain rfl := Option.some.inj hb
      simp only [aop, know_rd (cx := cx) hk h1, unDV] at h
      obtain rfl := Option.some.inj h
      rfl
    · simp at hb
  · simp at hb

theorem fixA_bool {fx : List (Option Nat)} {b : Bool} : fixA fx (.d (.bool b)) = .d (.bool b) := by
  cases fx with
  | nil => rfl
  | cons f fx => cases f <;> rfl

/-- What an operation leaves. -/
def OpDid (X : TX) (st hf : Bool) (dst : Option Nat) (op : Op) (fx : List (Option Nat)) (s s' : SK) (ft : Foot) : Prop :=
  ∃ r, aop X.cx st hf s.fr s.H op = some r ∧ okV r.v r.ft = true ∧ s'.fr = put dst (fixA fx r.v) r.fr ∧ s'.H = r.H ∧ KnOK s' ∧ ft = r.ft

theorem goDid {st hf : Bool} {dst : Option Nat} {op : Op} {fx : List (Option Nat)} {s s' : SK} {r : R} (hk : KnOK s) (h1 : aop X.cx st hf s.fr s.H op = some r) (h2 : okV r.v r.ft = true)
    (h3 : s' = ⟨put dst (fixA fx r.v) r.fr, r.H, kput dst (knowOp s.kn op) s.kn⟩) : OpDid X st hf dst op fx s s' r.ft := by
  subst h3
  refine ⟨r, h1, h2, rfl, rfl, KnOK.put hk (aop_bools h1) fun b hb => ?_, rfl⟩
  rw [knowOp_v hk hb h1, fixA_bool]

theorem pickDid {st hf : Bool} {dst : Option Nat} {c a b : Operand} {fx : List (Option Nat)} {s s' : SK} (hk : KnOK s) (h : (pickT X dst fx c a b s).run = some s') : OpDid X st hf dst (.pick c a b) fx s s' .non := by
  unfold pickT at h
  split at h
  · rename_i t
    have go : ∀ (v : Bool) (s1 : SK) (x : Operand), get s.fr t = some (.d (.bool v)) → s1.fr = s.fr → s1.H = s.H → KnOK s1 → x = (bif v then a else b) → (pickT.pickGo X dst fx a b x s1).run = some s' → OpDid X st hf dst (.pick (.tmp t) a b) fx s s' .non := by
      intro v s1 x hg hf1 hH1 hk1 hx h
      unfold pickT.pickGo at h
      rw [hf1] at h
      split at h
      · rename_i u w y h1 h2 h3
        obtain ⟨h4, h⟩ := Tr.cond_some h
        have := Tr.leaf_some h
        subst this
        have hy : y = bif v then u else w := by
          subst hx
          cases v with
          | true => rw [cond_true] at h3 ⊢; rw [h1] at h3; exact (Option.some.inj h3).symm
          | false => rw [cond_false] at h3 ⊢; rw [h2] at h3; exact (Option.some.inj h3).symm
        have hp : pickB y = true := by
          simp only [Bool.and_eq_true] at h4
          rw [hy]; cases v
          · exact h4.2
          · exact h4.1
        have hft : ftOf y = .non := by cases y <;> first | rfl | simp [pickB] at hp
        have hok : okV y .non = true := by cases y <;> first | rfl | simp [pickB] at hp
        have hrt : rd X.cx s.fr (.tmp t) = some (.d (.bool v)) := by simp only [rd, hg]; rfl
        refine ⟨⟨y, s.fr, s.H, .non⟩, ?_, hok, rfl, hH1, ?_, rfl⟩
        · simp only [aop, hrt, h1, h2, h4, cond_true, ← hy, pureR, hft]
        · have hk2 : KnOK ⟨s.fr, s1.H, s1.kn⟩ := by rw [← hf1]; exact hk1
          refine KnOK.put (fr' := s.fr) hk2 (fun _ _ h => h) fun bb hb => ?_
          have := know_rd (cx := X.cx) hk2 hb
          rw [h3] at this
          rw [Option.some.inj this, fixA_bool]
      · exact Tr.fail_some h
    rcases decT_run hk h with ⟨v, s1, h1, h2, h3, h4, h5⟩ | ⟨_, h5⟩
    · cases v with
      | true => exact go true s1 a h1 h2 h3 h4 rfl h5
      | false => exact go false s1 b h1 h2 h3 h4 rfl h5
    · exact Tr.fail_some h5
  · exact Tr.fail_some h

theorem opDid {st hf : Bool} {dst : Option Nat} {op : Op} {fx : List (Option Nat)} {s s' : SK} (hk : KnOK s) (h : (opT X st hf dst op fx s).run = some s') : ∃ ft, OpDid X st hf dst op fx s s' ft := by
  unfold opT at h
  split at h
  · exact ⟨_, pickDid hk h⟩
  · unfold goT at h
    obtain ⟨r, h1, h2⟩ := Tr.bind_some h
    obtain ⟨h3, h4⟩ := Tr.cond_some h2
    exact ⟨_, goDid hk (aopT_run h1) h3 (Tr.leaf_some h4).symm⟩

theorem skip_ok {dst : Option Nat} {s : SK} (hk : KnOK s) : KnOK (skipT dst s) := KnOK.put hk (fun _ _ h => h) fun _ h => by simp at h

theorem guard_cg {ops : List Oper} {o : Oper} {fr : Fr} : guardOf ops fr o = match cgOf ops o with
    | .yes => some true
    | .no => some false
    | .on d want => match get fr d with
      | some (.d (.bool b)) => some (b == want)
      | some .undef => some false
      | _ => none := by
  unfold guardOf cgOf
  cases o.guard with
  | none => rfl
  | some jw =>
    obtain ⟨j, want⟩ := jw
    simp only
    cases ops[j]? with
    | none => rfl
    | some oj =>
      simp only
      cases oj.dst with
      | none => rfl
      | some d => rfl

theorem step_of_did {an : RA} {ops : List Oper} {i : Nat} {o : Oper} {s s1 s' : SK} {ft : Foot} (hg : guardOf ops s.fr o = some true) (hf1 : s1.fr = s.fr) (hH1 : s1.H = s.H) (h : OpDid X (an.st.contains i) (an.hf.contains i) o.dst o.op (fxOf X.P o.type) s1 s' ft) :
    stepOp X.cx an ops i o ⟨s.fr, s.H⟩ = some ⟨s'.fr, s'.H⟩ ∧ KnOK s' ∧ stepFt X.cx an ops i o ⟨s.fr, s.H⟩ = ⟨ft, o.dst⟩ := by
  obtain ⟨r, h1, h2, h3, h4, h5, rfl⟩ := h
  rw [hf1, hH1] at h1
  refine ⟨?_, h5, ?_⟩
  · simp only [stepOp, hg, h1, h2, cond_true, h3, h4]; rfl
  · simp only [stepFt, hg, h1]

theorem step_of_skip {an : RA} {ops : List Oper} {i : Nat} {o : Oper} {s s1 : SK} (hg : guardOf ops s.fr o = some false) (hf1 : s1.fr = s.fr) (hH1 : s1.H = s.H) (hk : KnOK s1) :
    stepOp X.cx an ops i o ⟨s.fr, s.H⟩ = some ⟨(skipT o.dst s1).fr, (skipT o.dst s1).H⟩ ∧ KnOK (skipT o.dst s1) ∧ stepFt X.cx an ops i o ⟨s.fr, s.H⟩ = ⟨.non, o.dst⟩ := by
  refine ⟨?_, skip_ok hk, ?_⟩
  · simp only [stepOp, hg, skipT, hf1, hH1]
  · simp only [stepFt, hg]

theorem stepT_run {an : RA} {ops : List Oper} {i : Nat} {o : Oper} {s s' : SK} (hk : KnOK s) (h : (stepT X ⟨cgOf ops o, o.dst, o.op, an.st.contains i, an.hf.contains i, fxOf X.P o.type⟩ s).run = some s') :
    stepOp X.cx an ops i o ⟨s.fr, s.H⟩ = some ⟨s'.fr, s'.H⟩ ∧ KnOK s' := by
  unfold stepT at h
  simp only at h
  have hgd := guard_cg (ops := ops) (o := o) (fr := s.fr)
  cases hc : cgOf ops o with
  | yes =>
    rw [hc] at h hgd
    obtain ⟨ft, h1⟩ := opDid hk h
    obtain ⟨h2, h3, _⟩ := step_of_did hgd rfl rfl h1
    exact ⟨h2, h3⟩
  | no =>
    rw [hc] at h hgd
    have := Tr.leaf_some h
    subst this
    obtain ⟨h2, h3, _⟩ := step_of_skip (an := an) (i := i) (X := X) hgd rfl rfl hk
    exact ⟨h2, h3⟩
  | on d want =>
    rw [hc] at h hgd
    simp only at h hgd
    have skip : ∀ (s1 : SK), guardOf ops s.fr o = some false → s1.fr = s.fr → s1.H = s.H → KnOK s1 → (Tr.leaf (skipT o.dst s1)).run = some s' → stepOp X.cx an ops i o ⟨s.fr, s.H⟩ = some ⟨s'.fr, s'.H⟩ ∧ KnOK s' := by
      intro s1 hg hf1 hH1 hk1 h
      have := Tr.leaf_some h
      subst this
      obtain ⟨h2, h3, _⟩ := step_of_skip (an := an) (i := i) (X := X) hg hf1 hH1 hk1
      exact ⟨h2, h3⟩
    have go : ∀ (s1 : SK), guardOf ops s.fr o = some true → s1.fr = s.fr → s1.H = s.H → KnOK s1 → (opT X (an.st.contains i) (an.hf.contains i) o.dst o.op (fxOf X.P o.type) s1).run = some s' → stepOp X.cx an ops i o ⟨s.fr, s.H⟩ = some ⟨s'.fr, s'.H⟩ ∧ KnOK s' := by
      intro s1 hg hf1 hH1 hk1 h
      obtain ⟨ft, h1⟩ := opDid hk1 h
      obtain ⟨h2, h3, _⟩ := step_of_did hg hf1 hH1 h1
      exact ⟨h2, h3⟩
    rcases decT_run hk h with ⟨b, s1, h1, h2, h3, h4, h5⟩ | ⟨h1, h5⟩
    · rw [h1] at hgd
      simp only at hgd
      cases b <;> cases want
      · exact go s1 hgd h2 h3 h4 h5
      · exact skip s1 hgd h2 h3 h4 h5
      · exact skip s1 hgd h2 h3 h4 h5
      · exact go s1 hgd h2 h3 h4 h5
    · rw [h1] at hgd
      exact skip s hgd rfl rfl hk h5

theorem runT_run {an : RA} {ops : List Oper} : ∀ (l : List Oper) (i : Nat) {s s' : SK}, KnOK s → (runT X (compile X.P an ops i l) s).run = some s' → runOps X.cx an ops i l ⟨s.fr, s.H⟩ = some ⟨s'.fr, s'.H⟩ ∧ KnOK s'
  | [], i, s, s', hk, h => by
    have := Tr.leaf_some h
    subst this
    exact ⟨rfl, hk⟩
  | o :: l, i, s, s', hk, h => by
    simp only [compile, runT] at h
    obtain ⟨s1, h1, h2⟩ := Tr.bind_some h
    obtain ⟨h3, h4⟩ := stepT_run hk h1
    obtain ⟨h5, h6⟩ := runT_run l (i + 1) h4 h2
    exact ⟨by simp only [runOps, h3, h5], h6⟩

theorem ftDid {an : RA} {i : Nat} {g : CG} {o : Oper} {s : SK} {x : SF} (hk : KnOK s) (h : (ftT X an i g o s).run = some x) : ∃ ft, OpDid X (an.st.contains i) (an.hf.contains i) o.dst o.op (fxOf X.P o.type) s x.s ft ∧ x.fs = [⟨ft, o.dst⟩] := by
  unfold ftT at h
  split at h
  · rename_i c a b hop
    obtain ⟨s1, h1, h2⟩ := Tr.bind_some h
    have := Tr.leaf_some h2
    subst this
    rw [hop]
    exact ⟨.non, pickDid hk h1, rfl⟩
  · obtain ⟨r, h1, h2⟩ := Tr.bind_some h
    obtain ⟨h3, h4⟩ := Tr.cond_some h2
    have := Tr.leaf_some h4
    subst this
    exact ⟨r.ft, goDid hk (aopT_run h1) h3 rfl, rfl⟩

theorem stepFT_run {an : RA} {ops : List Oper} {i : Nat} {o : Oper} {s : SK} {x : SF} (hk : KnOK s) (h : (stepFT X an ops i o s).run = some x) :
    stepOp X.cx an ops i o ⟨s.fr, s.H⟩ = some ⟨x.s.fr, x.s.H⟩ ∧ KnOK x.s ∧ x.fs = [stepFt X.cx an ops i o ⟨s.fr, s.H⟩] := by
  unfold stepFT at h
  have hgd := guard_cg (ops := ops) (o := o) (fr := s.fr)
  have skip : ∀ (s1 : SK), guardOf ops s.fr o = some false → s1.fr = s.fr → s1.H = s.H → KnOK s1 → (Tr.leaf (SF.mk (skipT o.dst s1) [⟨.non, o.dst⟩])).run = some x →
      stepOp X.cx an ops i o ⟨s.fr, s.H⟩ = some ⟨x.s.fr, x.s.H⟩ ∧ KnOK x.s ∧ x.fs = [stepFt X.cx an ops i o ⟨s.fr, s.H⟩] := by
    intro s1 hg hf1 hH1 hk1 h
    have := Tr.leaf_some h
    subst this
    obtain ⟨h2, h3, h4⟩ := step_of_skip (an := an) (i := i) (X := X) hg hf1 hH1 hk1
    exact ⟨h2, h3, by rw [h4]⟩
  have go : ∀ (s1 : SK) (g : CG), guardOf ops s.fr o = some true → s1.fr = s.fr → s1.H = s.H → KnOK s1 → (ftT X an i g o s1).run = some x →
      stepOp X.cx an ops i o ⟨s.fr, s.H⟩ = some ⟨x.s.fr, x.s.H⟩ ∧ KnOK x.s ∧ x.fs = [stepFt X.cx an ops i o ⟨s.fr, s.H⟩] := by
    intro s1 g hg hf1 hH1 hk1 h
    obtain ⟨ft, h1, h2⟩ := ftDid hk1 h
    obtain ⟨h3, h4, h5⟩ := step_of_did (ops := ops) hg hf1 hH1 h1
    exact ⟨h3, h4, by rw [h2, h5]⟩
  cases hc : cgOf ops o with
  | yes => rw [hc] at h hgd; exact go s .yes hgd rfl rfl hk h
  | no => rw [hc] at h hgd; exact skip s hgd rfl rfl hk h
  | on d want =>
    rw [hc] at h hgd
    simp only at h hgd
    rcases decT_run hk h with ⟨b, s1, h1, h2, h3, h4, h5⟩ | ⟨h1, h5⟩
    · rw [h1] at hgd
      simp only at hgd
      cases b <;> cases want
      · exact go s1 .yes hgd h2 h3 h4 h5
      · exact skip s1 hgd h2 h3 h4 h5
      · exact skip s1 hgd h2 h3 h4 h5
      · exact go s1 .yes hgd h2 h3 h4 h5
    · rw [h1] at hgd
      exact skip s hgd rfl rfl hk h5

theorem runFT_run {an : RA} {ops : List Oper} : ∀ (l : List Oper) (i : Nat) {s : SK} {x : SF}, KnOK s → (runFT X an ops i l s).run = some x →
    runOps X.cx an ops i l ⟨s.fr, s.H⟩ = some ⟨x.s.fr, x.s.H⟩ ∧ KnOK x.s ∧ x.fs = runFts X.cx an ops i l ⟨s.fr, s.H⟩
  | [], i, s, x, hk, h => by
    have := Tr.leaf_some h
    subst this
    exact ⟨rfl, hk, rfl⟩
  | o :: l, i, s, x, hk, h => by
    simp only [runFT] at h
    obtain ⟨x1, h1, h2⟩ := Tr.bind_some h
    obtain ⟨x2, h3, h4⟩ := Tr.bind_some h2
    have := Tr.leaf_some h4
    subst this
    obtain ⟨h5, h6, h7⟩ := stepFT_run hk h1
    obtain ⟨h8, h9, h10⟩ := runFT_run l (i + 1) h6 h3
    exact ⟨by simp only [runOps, h5, h8], h9, by simp only [runFts, h5, h7, h10]; rfl⟩

theorem keep_ok {s : SK} {lv : List Nat} (hk : KnOK s) : KnOK (s.keep lv) := by
  intro t b h
  have hkg : ∀ (kn : Kn), kget (krestrict kn lv) t = some b → t ∈ lv ∧ kget kn t = some b := by
    intro kn
    induction kn with
    | nil => intro h; simp [krestrict, kget] at h
    | cons p r ih =>
      obtain ⟨u, c⟩ := p
      intro h
      by_cases hu : u ∈ lv
      · have e : krestrict ((u, c) :: r) lv = (u, c) :: krestrict r lv := by simp [krestrict, hu]
        rw [e] at h
        simp only [kget] at h ⊢
        by_cases hut : u = t
        · rw [if_pos hut] at h ⊢; exact ⟨by rw [← hut]; exact hu, h⟩
        · rw [if_neg hut] at h ⊢; exact ih h
      · have e : krestrict ((u, c) :: r) lv = krestrict r lv := by simp [krestrict, hu]
        rw [e] at h
        obtain ⟨h1, h2⟩ := ih h
        have hut : u ≠ t := fun he => hu (he ▸ h1)
        exact ⟨h1, by simp only [kget, if_neg hut, h2]⟩
  obtain ⟨h1, h2⟩ := hkg s.kn h
  have hg := hk t b h2
  show get (restrict s.fr lv) t = _
  have : ∀ (l : List Nat), t ∈ l → get (restrict s.fr l) t = some (.d (.bool b)) := by
    intro l
    induction l with
    | nil => intro h; simp at h
    | cons u l ih =>
      intro hm
      by_cases hut : u = t
      · subst hut
        simp only [restrict, hg, keepB, cond_true, get, if_true]
      · have := ih (by rcases List.mem_cons.1 hm with h | h; exact absurd h.symm hut; exact h)
        simp only [restrict]
        split
        · rename_i a _
          cases keepB a with
          | true => simp only [cond_true, get, if_neg hut]; exact this
          | false => exact this
        · exact this
  exact this lv h1
end

section
variable {X : TX}

/-- What code does. -/
def Tri (P : Program) (gl : Nat → Option DV) (c : Code) (s : ST) (r : Ex × ST) : Prop :=
  ∀ (E : Ent) (a : Act) (w : World) (Q : Exit → Act → World → Prop), GOKH gl E.Φ E.w.heap E.X → codeOK a.tmps.size c = true → SR E s a.tmps w → Upon E a.tmps.size a.defers r Q → c.wp P Q a w

/-- What a piece of code does, in sum. -/
def SumOK (P : Program) (gl : Nat → Option DV) (an : Ann) (f : ST → Tr (Ex × ST)) (b : CC) : Prop :=
  ∀ c, comp P an c = erase b → ∀ s r, (f s).run = some r → Tri P gl c s r

def Sums (P : Program) (gl : Nat → Option DV) (an : Ann) : CC → Prop
  | .seq a b => Sums P gl an a ∧ Sums P gl an b
  | .cond _ a b => Sums P gl an a ∧ Sums P gl an b
  | .block _ b => Sums P gl an b
  | .keep _ b => Sums P gl an b
  | .sum f b => SumOK P gl an f b
  | .region _ lv => True
  | _ => True

def keepsOK : CC → Bool
  | .seq a b => keepsOK a && keepsOK b
  | .cond _ a b => keepsOK a && keepsOK b
  | .block _ b => keepsOK b
  | .keep lv b => decide lv.Nodup && keepsOK b
  | _ => true

/-- What a function does, in sum. -/
def FnOK (P : Program) (gl : Nat → Option DV) (f : FuncId) (g : FT) : Prop :=
  (∃ fn : Func, P.funcs[f]? = some fn ∧ fn.body.isSome) ∧
  ∀ as H v H', (g as H).run = some (v, H') → ∀ (w : World) (Φ : Mem) (μ BH : List Nat) (vals : List Value), WOK Φ w.heap → GOKH gl Φ w.heap BH →
    All2 (fun a x => AR1 ⟨Φ, w.heap, μ⟩ a x []) as vals → HR ⟨Φ, w.heap, μ⟩ H μ BH → BH.Nodup →
    Calls P f vals.toArray w fun e w' => ∃ x, e = .returned x ∧ Post w Φ μ BH v H' x w'

def TblOK (P : Program) (gl : Nat → Option DV) : List (Nat × FT) → Prop
  | [] => True
  | (f, g) :: r => FnOK P gl f g ∧ TblOK P gl r

theorem tbl_ok {P : Program} {gl : Nat → Option DV} : ∀ {l : List (Nat × FT)}, TblOK P gl l → ∀ f as H r, (tbl l f as H).run = some r → ∃ g, FnOK P gl f g ∧ (g as H).run = some r
  | [], _, f, as, H, r, h => Tr.fail_some h
  | (f', g) :: l, hT, f, as, H, r, h => by
    unfold tbl at h
    split at h
    · rename_i hf; subst hf; exact ⟨g, hT.1, h⟩
    · exact tbl_ok hT.2 f as H r h

structure XOK (X : TX) (an : Ann) (gl : Nat → Option DV) : Prop where
  prog : ProgOK X.P
  mixed : X.P.follows .mixedOrders = true
  live : ∀ id, (an id).live.Nodup
  glob : X.glob = gl
  call : ∀ f as H r, (X.call f as H).run = some r → ∃ g, FnOK X.P gl f g ∧ (g as H).run = some r

theorem XOK.cxok {an : Ann} {gl : Nat → Option DV} (hX : XOK X an gl) {E : Ent} (hg : GOKH gl E.Φ E.w.heap E.X) : CxOK X.P E X.cx := by
  refine ⟨?_, ?_, hX.prog, rfl, by show GOKH X.glob E.Φ E.w.heap E.X; rw [hX.glob]; exact hg⟩
  · intro f as H v H' h w Φ μ BH vals h1 h2 h3 h4 h5
    obtain ⟨g, h6, h7⟩ := hX.call f as H _ h
    exact h6.2 as H v H' h7 w Φ μ BH vals h1 (by rw [← hX.glob]; exact h2) h3 h4 h5
  · intro f as H r h
    obtain ⟨g, h6, h7⟩ := hX.call f as H _ h
    exact h6.1

theorem Tri.of_exec {an : Ann} {gl : Nat → Option DV} (hX : XOK X an gl) {k : Nat} {c : Code} {s : ST} {r : Ex × ST} (h : exec X.cx an k c s = some r) : Tri X.P gl c s r :=
  fun E a w Q hg hok hs hQ => exec_sound (an := an) (hX.cxok hg) hX.mixed hX.live (n := a.tmps.size) c hok s a w r Q hs rfl h hQ

theorem Tri.keep {P : Program} {gl : Nat → Option DV} {c : Code} {s : ST} {r : Ex × ST} {lv : List Nat} (hl : lv.Nodup) (h : Tri P gl c ⟨restrict s.fr lv, s.H⟩ r) : Tri P gl c s r :=
  fun E a w Q hg hok hs hQ => h E a w Q hg hok (hs.restrict hl) hQ

theorem Tri.seq {P : Program} {gl : Nat → Option DV} {x y : Code} {s s1 : ST} {r : Ex × ST} (h1 : Tri P gl x s (.nrm, s1)) (h2 : Tri P gl y s1 r) : Tri P gl (.seq x y) s r := fun E a w Q hg hok hs hQ => by
  simp only [codeOK, Bool.and_eq_true] at hok
  refine wp_seq (h1 E a w _ hg hok.1 hs fun a' w' h3 h4 h5 => ?_)
  exact h2 E a' w' Q hg (by rw [h4]; exact hok.2) h3 (by rw [h4, h5]; exact hQ)

theorem Tri.seq_out {P : Program} {gl : Nat → Option DV} {x y : Code} {s s1 : ST} {ex : Ex} (hne : ex ≠ .nrm) (h1 : Tri P gl x s (ex, s1)) : Tri P gl (.seq x y) s (ex, s1) := fun E a w Q hg hok hs hQ => by
  simp only [codeOK, Bool.and_eq_true] at hok
  refine wp_seq (h1 E a w _ hg hok.1 hs fun a' w' h3 h4 h5 => ?_)
  have := hQ a' w' h3 h4 h5
  cases ex with
  | nrm => exact absurd rfl hne
  | ext i => exact this
  | ret => exact this

theorem Tri.cond {P : Program} {gl : Nat → Option DV} {c : Operand} {x y : Code} {s : ST} {r : Ex × ST} {t : Bool} {cx : Cx} (hcx : cx.glob = gl) (h0 : rd cx s.fr c = some (.d (.bool t))) (h : Tri P gl (bif t then x else y) s r) :
    Tri P gl (.cond c x y) s r := fun E a w Q hg hok hs hQ => by
  simp only [codeOK, Bool.and_eq_true] at hok
  obtain ⟨Φ, μ, BF, BH, hF, _, _, hI⟩ := id hs
  have hv := rd_sound (a := a) hF rfl (fun g x hx => (hg.1 g x (by rw [← hcx]; exact hx)).mono hI.sub) h0
  have he : a.eval c = .bool t := by
    have := hv.1
    generalize a.eval c = v at this
    cases this; rfl
  refine wp_cond he ?_
  cases t with
  | true => rw [if_pos rfl]; exact h E a w Q hg hok.1 hs hQ
  | false => rw [if_neg (by decide)]; exact h E a w Q hg hok.2 hs hQ

theorem Tri.block {P : Program} {gl : Nat → Option DV} {id : Nat} {b : Code} {s s1 : ST} {ex : Ex} (h : Tri P gl b s (ex, s1)) : Tri P gl (.block id b) s (match ex with | .ext i => if i = id then (.nrm, s1) else (.ext i, s1) | e => (e, s1)) := fun E a w Q hg hok hs hQ => by
  refine wp_block (h E a w _ hg hok hs fun a' w' h3 h4 h5 => ?_)
  cases ex with
  | nrm => exact hQ a' w' h3 h4 h5
  | ret => exact hQ a' w' h3 h4 h5
  | ext i =>
    show Exit.inBlock id Q (.exit i) a' w'
    simp only [Exit.inBlock]
    simp only at hQ
    split
    · rename_i hi; rw [if_pos hi] at hQ; exact hQ a' w' h3 h4 h5
    · rename_i hi; rw [if_neg hi] at hQ; exact hQ a' w' h3 h4 h5

theorem Tri.scope {P : Program} {gl : Nat → Option DV} {b : Code} {s : ST} {r : Ex × ST} (h : Tri P gl b s r) : Tri P gl (.scope b) s r := fun E a w Q hg hok hs hQ => by
  refine wp_scope_straight (h E a w _ hg hok hs fun a' w' h3 h4 h5 => ?_)
  have := hQ a' w' h3 h4 h5
  obtain ⟨ex, s'⟩ := r
  cases ex <;> exact this

/-- A loop: how many rounds there are is not said. -/
def LoopTri (P : Program) (gl : Nat → Option DV) (b : Code) (s : ST) (r : Ex × ST) : Prop :=
  ∃ k, ∀ (E : Ent) (a : Act) (w : World) (Q : Exit → Act → World → Prop), GOKH gl E.Φ E.w.heap E.X → codeOK a.tmps.size b = true → SR E s a.tmps w → Upon E a.tmps.size a.defers r Q → Code.rounds P b Q k a w

theorem LoopTri.tri {P : Program} {gl : Nat → Option DV} {b : Code} {s : ST} {r : Ex × ST} (h : LoopTri P gl b s r) : Tri P gl (.loop b) s r := by
  obtain ⟨k, h⟩ := h
  exact fun E a w Q hg hok hs hQ => wp_loop_rounds k (h E a w Q hg hok hs hQ)

theorem LoopTri.go {P : Program} {gl : Nat → Option DV} {b : Code} {s s1 : ST} {r : Ex × ST} (h1 : Tri P gl b s (.nrm, s1)) (h2 : LoopTri P gl b s1 r) : LoopTri P gl b s r := by
  obtain ⟨k, h⟩ := h2
  refine ⟨k + 1, fun E a w Q hg hok hs hQ => ?_⟩
  rw [rounds_succ]
  refine h1 E a w _ hg hok hs fun a' w' h3 h4 h5 => ?_
  exact h E a' w' Q hg (by rw [h4]; exact hok) h3 (by rw [h4, h5]; exact hQ)

theorem LoopTri.out {P : Program} {gl : Nat → Option DV} {b : Code} {s s1 : ST} {ex : Ex} (hne : ex ≠ .nrm) (h1 : Tri P gl b s (ex, s1)) : LoopTri P gl b s (ex, s1) := by
  refine ⟨1, fun E a w Q hg hok hs hQ => ?_⟩
  rw [rounds_succ]
  refine h1 E a w _ hg hok hs fun a' w' h3 h4 h5 => ?_
  have := hQ a' w' h3 h4 h5
  cases ex with
  | nrm => exact absurd rfl hne
  | ext i => exact this
  | ret => exact this

theorem LoopTri.keep {P : Program} {gl : Nat → Option DV} {b : Code} {s : ST} {r : Ex × ST} {lv : List Nat} (hl : lv.Nodup) (h : LoopTri P gl b ⟨restrict s.fr lv, s.H⟩ r) : LoopTri P gl b s r := by
  obtain ⟨k, h⟩ := h
  exact ⟨k, fun E a w Q hg hok hs hQ => h E a w Q hg hok (hs.restrict hl) hQ⟩

theorem execT_sound {an : Ann} {gl : Nat → Option DV} (hX : XOK X an gl) : ∀ (c : Code) (cc : CC), comp X.P an c = erase cc → Sums X.P gl an cc → keepsOK cc = true → ∀ (s s' : SK) (ex : Ex), KnOK s → (execT X cc s).run = some (ex, s') →
    Tri X.P gl c ⟨s.fr, s.H⟩ (ex, ⟨s'.fr, s'.H⟩) ∧ KnOK s'
  | c, .keep lv b, hc, hs, hkk, s, s', ex, hk, h => by
    simp only [keepsOK, Bool.and_eq_true, decide_eq_true_eq] at hkk
    obtain ⟨h1, h2⟩ := execT_sound hX c b hc hs hkk.2 (s.keep lv) s' ex (keep_ok hk) h
    exact ⟨Tri.keep hkk.1 h1, h2⟩
  | c, .sum f b, hc, hs, _, s, s', ex, hk, h => by
    simp only [execT] at h
    obtain ⟨r, h1, h2⟩ := Tr.bind_some h
    have := Tr.leaf_some h2
    obtain ⟨rfl, rfl⟩ := Prod.mk.inj this
    exact ⟨hs c hc _ r h1, fun t b hb => by simp [exK, kget] at hb⟩
  | .scope c, cc, hc, hs, hkk, s, s', ex, hk, h => by
    obtain ⟨h1, h2⟩ := execT_sound hX c cc hc hs hkk s s' ex hk h
    exact ⟨h1.scope, h2⟩
  | .skip, .skip, _, _, _, s, s', ex, hk, h => by
    obtain ⟨rfl, rfl⟩ := Prod.mk.inj (Tr.leaf_some h)
    exact ⟨Tri.of_exec hX (k := 0) rfl, hk⟩
  | .label l, .skip, _, _, _, s, s', ex, hk, h => by
    obtain ⟨rfl, rfl⟩ := Prod.mk.inj (Tr.leaf_some h)
    exact ⟨Tri.of_exec hX (k := 0) rfl, hk⟩
  | .region id ops false, .region cs lv, hc, _, _, s, s', ex, hk, h => by
    simp only [comp, erase] at hc
    obtain ⟨rfl, rfl⟩ := CC.region.inj hc
    simp only [execT] at h
    obtain ⟨s1, h1, h2⟩ := Tr.bind_some h
    obtain ⟨rfl, rfl⟩ := Prod.mk.inj (Tr.leaf_some h2)
    obtain ⟨h3, h4⟩ := runT_run ops.toList 0 hk h1
    refine ⟨Tri.of_exec hX (k := 0) ?_, keep_ok h4⟩
    simp only [exec, runRegion, h3, cond_false]; rfl
  | .region id ops true, .drawn an' ops', hc, _, _, s, s', ex, hk, h => by
    simp only [comp, erase] at hc
    obtain ⟨rfl, rfl⟩ := CC.drawn.inj hc
    simp only [execT, drawnT] at h
    obtain ⟨s1, h1, h2⟩ := Tr.bind_some h
    obtain ⟨rfl, rfl⟩ := Prod.mk.inj (Tr.leaf_some h2)
    obtain ⟨x, h3, h4⟩ := Tr.bind_some h1
    obtain ⟨h5, h6⟩ := Tr.cond_some h4
    have := Tr.leaf_some h6
    subst this
    obtain ⟨h7, h8, h9⟩ := runFT_run ops.toList 0 hk h3
    refine ⟨Tri.of_exec hX (k := 0) ?_, keep_ok h8⟩
    rw [h9] at h5
    simp only [exec, runRegion, h7, cond_true]
    rw [show Region.lexB .any ops = Region.lexB .any ops.toList.toArray by simp, h5, cond_true]; rfl
  | .seq x y, .seq a b, hc, hs, hkk, s, s', ex, hk, h => by
    simp only [comp, erase] at hc
    obtain ⟨hc1, hc2⟩ := CC.seq.inj hc
    simp only [keepsOK, Bool.and_eq_true] at hkk
    simp only [execT] at h
    obtain ⟨⟨e1, s1⟩, h1, h2⟩ := Tr.bind_some h
    obtain ⟨h3, h4⟩ := execT_sound hX x a hc1 hs.1 hkk.1 s s1 e1 hk h1
    cases e1 with
    | nrm =>
      obtain ⟨h5, h6⟩ := execT_sound hX y b hc2 hs.2 hkk.2 s1 s' ex h4 h2
      exact ⟨Tri.seq h3 h5, h6⟩
    | ext i => obtain ⟨rfl, rfl⟩ := Prod.mk.inj (Tr.leaf_some h2); exact ⟨Tri.seq_out (by simp) h3, h4⟩
    | ret => obtain ⟨rfl, rfl⟩ := Prod.mk.inj (Tr.leaf_some h2); exact ⟨Tri.seq_out (by simp) h3, h4⟩
  | .cond o x y, .cond o' a b, hc, hs, hkk, s, s', ex, hk, h => by
    simp only [comp, erase] at hc
    obtain ⟨rfl, hc1, hc2⟩ := CC.cond.inj hc
    simp only [keepsOK, Bool.and_eq_true] at hkk
    simp only [execT] at h
    split at h
    · rename_i t
      rcases decT_run hk h with ⟨v, s1, h1, h2, h3, h4, h5⟩ | ⟨_, h5⟩
      · have hrt : rd X.cx s.fr (.tmp t) = some (.d (.bool v)) := by simp only [rd, h1]; rfl
        cases v with
        | true =>
          obtain ⟨h6, h7⟩ := execT_sound hX x a hc1 hs.1 hkk.1 s1 s' ex h4 h5
          rw [h2, h3] at h6
          exact ⟨Tri.cond (cx := X.cx) hX.glob hrt h6, h7⟩
        | false =>
          obtain ⟨h6, h7⟩ := execT_sound hX y b hc2 hs.2 hkk.2 s1 s' ex h4 h5
          rw [h2, h3] at h6
          exact ⟨Tri.cond (cx := X.cx) hX.glob hrt h6, h7⟩
      · exact Tr.fail_some h5
    · obtain ⟨h6, h7⟩ := execT_sound hX x a hc1 hs.1 hkk.1 s s' ex hk h
      exact ⟨Tri.cond (cx := X.cx) (t := true) hX.glob rfl h6, h7⟩
    · obtain ⟨h6, h7⟩ := execT_sound hX y b hc2 hs.2 hkk.2 s s' ex hk h
      exact ⟨Tri.cond (cx := X.cx) (t := false) hX.glob rfl h6, h7⟩
    · exact Tr.fail_some h
  | .block id x, .block id' b, hc, hs, hkk, s, s', ex, hk, h => by
    simp only [comp, erase] at hc
    obtain ⟨rfl, hc1⟩ := CC.block.inj hc
    simp only [execT] at h
    obtain ⟨⟨e1, s1⟩, h1, h2⟩ := Tr.bind_some h
    obtain ⟨h3, h4⟩ := execT_sound hX x b hc1 hs hkk s s1 e1 hk h1
    have h5 := Tri.block (id := id) h3
    cases e1 with
    | nrm => obtain ⟨rfl, rfl⟩ := Prod.mk.inj (Tr.leaf_some h2); exact ⟨h5, h4⟩
    | ret => obtain ⟨rfl, rfl⟩ := Prod.mk.inj (Tr.leaf_some h2); exact ⟨h5, h4⟩
    | ext i =>
      simp only at h2 h5
      by_cases hi : i = id
      · rw [if_pos hi] at h5
        rw [decide_eq_true hi, cond_true] at h2
        obtain ⟨rfl, rfl⟩ := Prod.mk.inj (Tr.leaf_some h2)
        exact ⟨h5, h4⟩
      · rw [if_neg hi] at h5
        rw [decide_eq_false hi, cond_false] at h2
        obtain ⟨rfl, rfl⟩ := Prod.mk.inj (Tr.leaf_some h2)
        exact ⟨h5, h4⟩
  | .exit id, .exit id', hc, _, _, s, s', ex, hk, h => by
    simp only [comp, erase] at hc
    obtain rfl := CC.exit.inj hc
    obtain ⟨rfl, rfl⟩ := Prod.mk.inj (Tr.leaf_some h)
    exact ⟨Tri.of_exec hX (k := 0) rfl, hk⟩
  | .ret, .ret, _, _, _, s, s', ex, hk, h => by
    obtain ⟨rfl, rfl⟩ := Prod.mk.inj (Tr.leaf_some h)
    exact ⟨Tri.of_exec hX (k := 0) rfl, hk⟩
  | _, .loop _, _, _, _, s, s', ex, hk, h => Tr.fail_some h
  | _, .bad, _, _, _, s, s', ex, hk, h => Tr.fail_some h
  | .region _ _ false, .skip, hc, _, _, _, _, _, _, _ => by simp [comp, erase] at hc
  | .region _ _ true, .skip, hc, _, _, _, _, _, _, _ => by simp [comp, erase] at hc
  | .seq _ _, .skip, hc, _, _, _, _, _, _, _ => by simp [comp, erase] at hc
  | .cond _ _ _, .skip, hc, _, _, _, _, _, _, _ => by simp [comp, erase] at hc
  | .block _ _, .skip, hc, _, _, _, _, _, _, _ => by simp [comp, erase] at hc
  | .loop _, .skip, hc, _, _, _, _, _, _, _ => by simp [comp, erase] at hc
  | .rangeFunc _ _ _ _, .skip, hc, _, _, _, _, _, _, _ => by simp [comp, erase] at hc
  | .exit _, .skip, hc, _, _, _, _, _, _, _ => by simp [comp, erase] at hc
  | .goto _, .skip, hc, _, _, _, _, _, _, _ => by simp [comp, erase] at hc
  | .ret, .skip, hc, _, _, _, _, _, _, _ => by simp [comp, erase] at hc
  | .refuse _, .skip, hc, _, _, _, _, _, _, _ => by simp [comp, erase] at hc
  | .skip, .region _ _, hc, _, _, _, _, _, _, _ => by simp [comp, erase] at hc
  | .region _ _ true, .region _ _, hc, _, _, _, _, _, _, _ => by simp [comp, erase] at hc
  | .seq _ _, .region _ _, hc, _, _, _, _, _, _, _ => by simp [comp, erase] at hc
  | .cond _ _ _, .region _ _, hc, _, _, _, _, _, _, _ => by simp [comp, erase] at hc
  | .block _ _, .region _ _, hc, _, _, _, _, _, _, _ => by simp [comp, erase] at hc
  | .loop _, .region _ _, hc, _, _, _, _, _, _, _ => by simp [comp, erase] at hc
  | .rangeFunc _ _ _ _, .region _ _, hc, _, _, _, _, _, _, _ => by simp [comp, erase] at hc
  | .exit _, .region _ _, hc, _, _, _, _, _, _, _ => by simp [comp, erase] at hc
  | .label _, .region _ _, hc, _, _, _, _, _, _, _ => by simp [comp, erase] at hc
  | .goto _, .region _ _, hc, _, _, _, _, _, _, _ => by simp [comp, erase] at hc
  | .ret, .region _ _, hc, _, _, _, _, _, _, _ => by simp [comp, erase] at hc
  | .refuse _, .region _ _, hc, _, _, _, _, _, _, _ => by simp [comp, erase] at hc
  | .skip, .drawn _ _, hc, _, _, _, _, _, _, _ => by simp [comp, erase] at hc
  | .region _ _ false, .drawn _ _, hc, _, _, _, _, _, _, _ => by simp [comp, erase] at hc
  | .seq _ _, .drawn _ _, hc, _, _, _, _, _, _, _ => by simp [comp, erase] at hc
  | .cond _ _ _, .drawn _ _, hc, _, _, _, _, _, _, _ => by simp [comp, erase] at hc
  | .block _ _, .drawn _ _, hc, _, _, _, _, _, _, _ => by simp [comp, erase] at hc
  | .loop _, .drawn _ _, hc, _, _, _, _, _, _, _ => by simp [comp, erase] at hc
  | .rangeFunc _ _ _ _, .drawn _ _, hc, _, _, _, _, _, _, _ => by simp [comp, erase] at hc
  | .exit _, .drawn _ _, hc, _, _, _, _, _, _, _ => by simp [comp, erase] at hc
  | .label _, .drawn _ _, hc, _, _, _, _, _, _, _ => by simp [comp, erase] at hc
  | .goto _, .drawn _ _, hc, _, _, _, _, _, _, _ => by simp [comp, erase] at hc
  | .ret, .drawn _ _, hc, _, _, _, _, _, _, _ => by simp [comp, erase] at hc
  | .refuse _, .drawn _ _, hc, _, _, _, _, _, _, _ => by simp [comp, erase] at hc
  | .skip, .seq _ _, hc, _, _, _, _, _, _, _ => by simp [comp, erase] at hc
  | .region _ _ false, .seq _ _, hc, _, _, _, _, _, _, _ => by simp [comp, erase] at hc
  | .region _ _ true, .seq _ _, hc, _, _, _, _, _, _, _ => by simp [comp, erase] at hc
  | .cond _ _ _, .seq _ _, hc, _, _, _, _, _, _, _ => by simp [comp, erase] at hc
  | .block _ _, .seq _ _, hc, _, _, _, _, _, _, _ => by simp [comp, erase] at hc
  | .loop _, .seq _ _, hc, _, _, _, _, _, _, _ => by simp [comp, erase] at hc
  | .rangeFunc _ _ _ _, .seq _ _, hc, _, _, _, _, _, _, _ => by simp [comp, erase] at hc
  | .exit _, .seq _ _, hc, _, _, _, _, _, _, _ => by simp [comp, erase] at hc
  | .label _, .seq _ _, hc, _, _, _, _, _, _, _ => by simp [comp, erase] at hc
  | .goto _, .seq _ _, hc, _, _, _, _, _, _, _ => by simp [comp, erase] at hc
  | .ret, .seq _ _, hc, _, _, _, _, _, _, _ => by simp [comp, erase] at hc
  | .refuse _, .seq _ _, hc, _, _, _, _, _, _, _ => by simp [comp, erase] at hc
  | .skip, .cond _ _ _, hc, _, _, _, _, _, _, _ => by simp [comp, erase] at hc
  | .region _ _ false, .cond _ _ _, hc, _, _, _, _, _, _, _ => by simp [comp, erase] at hc
  | .region _ _ true, .cond _ _ _, hc, _, _, _, _, _, _, _ => by simp [comp, erase] at hc
  | .seq _ _, .cond _ _ _, hc, _, _, _, _, _, _, _ => by simp [comp, erase] at hc
  | .block _ _, .cond _ _ _, hc, _, _, _, _, _, _, _ => by simp [comp, erase] at hc
  | .loop _, .cond _ _ _, hc, _, _, _, _, _, _, _ => by simp [comp, erase] at hc
  | .rangeFunc _ _ _ _, .cond _ _ _, hc, _, _, _, _, _, _, _ => by simp [comp, erase] at hc
  | .exit _, .cond _ _ _, hc, _, _, _, _, _, _, _ => by simp [comp, erase] at hc
  | .label _, .cond _ _ _, hc, _, _, _, _, _, _, _ => by simp [comp, erase] at hc
  | .goto _, .cond _ _ _, hc, _, _, _, _, _, _, _ => by simp [comp, erase] at hc
  | .ret, .cond _ _ _, hc, _, _, _, _, _, _, _ => by simp [comp, erase] at hc
  | .refuse _, .cond _ _ _, hc, _, _, _, _, _, _, _ => by simp [comp, erase] at hc
  | .skip, .block _ _, hc, _, _, _, _, _, _, _ => by simp [comp, erase] at hc
  | .region _ _ false, .block _ _, hc, _, _, _, _, _, _, _ => by simp [comp, erase] at hc
  | .region _ _ true, .block _ _, hc, _, _, _, _, _, _, _ => by simp [comp, erase] at hc
  | .seq _ _, .block _ _, hc, _, _, _, _, _, _, _ => by simp [comp, erase] at hc
  | .cond _ _ _, .block _ _, hc, _, _, _, _, _, _, _ => by simp [comp, erase] at hc
  | .loop _, .block _ _, hc, _, _, _, _, _, _, _ => by simp [comp, erase] at hc
  | .rangeFunc _ _ _ _, .block _ _, hc, _, _, _, _, _, _, _ => by simp [comp, erase] at hc
  | .exit _, .block _ _, hc, _, _, _, _, _, _, _ => by simp [comp, erase] at hc
  | .label _, .block _ _, hc, _, _, _, _, _, _, _ => by simp [comp, erase] at hc
  | .goto _, .block _ _, hc, _, _, _, _, _, _, _ => by simp [comp, erase] at hc
  | .ret, .block _ _, hc, _, _, _, _, _, _, _ => by simp [comp, erase] at hc
  | .refuse _, .block _ _, hc, _, _, _, _, _, _, _ => by simp [comp, erase] at hc
  | .skip, .exit _, hc, _, _, _, _, _, _, _ => by simp [comp, erase] at hc
  | .region _ _ false, .exit _, hc, _, _, _, _, _, _, _ => by simp [comp, erase] at hc
  | .region _ _ true, .exit _, hc, _, _, _, _, _, _, _ => by simp [comp, erase] at hc
  | .seq _ _, .exit _, hc, _, _, _, _, _, _, _ => by simp [comp, erase] at hc
  | .cond _ _ _, .exit _, hc, _, _, _, _, _, _, _ => by simp [comp, erase] at hc
  | .block _ _, .exit _, hc, _, _, _, _, _, _, _ => by simp [comp, erase] at hc
  | .loop _, .exit _, hc, _, _, _, _, _, _, _ => by simp [comp, erase] at hc
  | .rangeFunc _ _ _ _, .exit _, hc, _, _, _, _, _, _, _ => by simp [comp, erase] at hc
  | .label _, .exit _, hc, _, _, _, _, _, _, _ => by simp [comp, erase] at hc
  | .goto _, .exit _, hc, _, _, _, _, _, _, _ => by simp [comp, erase] at hc
  | .ret, .exit _, hc, _, _, _, _, _, _, _ => by simp [comp, erase] at hc
  | .refuse _, .exit _, hc, _, _, _, _, _, _, _ => by simp [comp, erase] at hc
  | .skip, .ret, hc, _, _, _, _, _, _, _ => by simp [comp, erase] at hc
  | .region _ _ false, .ret, hc, _, _, _, _, _, _, _ => by simp [comp, erase] at hc
  | .region _ _ true, .ret, hc, _, _, _, _, _, _, _ => by simp [comp, erase] at hc
  | .seq _ _, .ret, hc, _, _, _, _, _, _, _ => by simp [comp, erase] at hc
  | .cond _ _ _, .ret, hc, _, _, _, _, _, _, _ => by simp [comp, erase] at hc
  | .block _ _, .ret, hc, _, _, _, _, _, _, _ => by simp [comp, erase] at hc
  | .loop _, .ret, hc, _, _, _, _, _, _, _ => by simp [comp, erase] at hc
  | .rangeFunc _ _ _ _, .ret, hc, _, _, _, _, _, _, _ => by simp [comp, erase] at hc
  | .exit _, .ret, hc, _, _, _, _, _, _, _ => by simp [comp, erase] at hc
  | .label _, .ret, hc, _, _, _, _, _, _, _ => by simp [comp, erase] at hc
  | .goto _, .ret, hc, _, _, _, _, _, _, _ => by simp [comp, erase] at hc
  | .refuse _, .ret, hc, _, _, _, _, _, _, _ => by simp [comp, erase] at hc
termination_by c cc => SizeOf.sizeOf c + SizeOf.sizeOf cc
end
end Go.AI

/- Functions: what the tree of decisions says of a function's text, the machine does. -/
namespace Go.AI
set_option linter.unusedVariables false
set_option linter.unusedSimpArgs false

section
variable {P : Program} {w : World} {e : Env} {tm : Array Value} {fr : Fr} {H : Hp} {BF BH : List Nat}

theorem dup_AR1 {a : AV} {v : Value} {B : List Nat} (h : AR1 e a v B) (hp : plain a = true) : AR1 e (dup a) v [] := by
  have h1 : AR e #[] (dup a) v [] := AR.dup (AR.of_AR1 h) (by rintro cs rfl; simp [plain, plainC] at hp)
  refine AR.to_AR1 h1 ?_
  cases a
  case agg cs =>
    show (cs.map dupC).all plainC = true
    simp only [plain] at hp
    rw [List.all_map]
    refine List.all_eq_true.2 fun x hx => ?_
    have := (List.all_eq_true.1 hp) x hx
    cases x
    case osl sz xs => show plainC (dupC (.osl sz xs)) = true; rw [dupC_osl]; split <;> rfl
    all_goals first | exact this | simp [plainC] at this
  case osl sz xs => show plain (dupC (.osl sz xs)) = true; rw [dupC_osl]; split <;> rfl
  all_goals first | exact hp | simp [plain, plainC] at hp

def resultRun (tmps : Array Value) : ResultVar → Sem Value
  | .tmp t => pure (tmps.getD t undef)
  | .cell a t => do loadVar t (← asAddr (tmps.getD a undef))

theorem result_sound (hw : w.heap = e.heap) (hF : FR e tm fr BF) (hH : HR e H e.μ BH) {r : ResultVar} {a : AV} (h : resultA P fr H r = some a) (hp : plain a = true) :
    ∃ x, (resultRun tm r).run P w = .ok x w ∧ AR1 e (dup a) x [] := by
  cases r with
  | tmp t =>
    simp only [resultA] at h
    obtain ⟨v, B1, h1, h2, _⟩ := hF.get h
    exact ⟨v, by simp [resultRun, h1], dup_AR1 (AR.to_AR1 h2 hp) hp⟩
  | cell t ty =>
    simp only [resultA] at h
    have go : ∀ {cs : List AV} {r off : Nat} {B : List Nat}, tm[t]? = some (.pointer (some ⟨r, off, none⟩)) → BlkR e cs r B → (loadA P ty cs off).map (fixA (fxOf P ty)) = some a → ∃ x, (resultRun tm (.cell t ty)).run P w = .ok x w ∧ AR1 e (dup a) x [] := by
      intro cs r off B h1 h2 h3
      cases hld : loadA P ty cs off with
      | none => rw [hld] at h3; simp at h3
      | some a0 =>
      rw [hld] at h3
      have h3 := Option.some.inj h3
      obtain ⟨x, B1, B2, h4, h5, _⟩ := blk_load hw h2 hld
      have h5 := h5.fixA (fx := fxOf P ty)
      rw [h3] at h5
      refine ⟨x, ?_, dup_AR1 h5 hp⟩
      simp only [Instr.loadAt, Instr.sureAddr, Sem.run_bind, Sem.run_pure, Result.andThen_ok] at h4
      simp [resultRun, h1, asAddr, h4]
    split at h
    · rename_i cs hg
      obtain ⟨v, B1, h1, ⟨r, rfl, h2⟩, _⟩ := hF.get hg
      exact go h1 h2 h
    · rename_i b off hg
      split at h
      · rename_i cs hb
        obtain ⟨v, B1, h1, h2, _⟩ := hF.get hg
        obtain ⟨r, h3, rfl, _⟩ := h2
        obtain ⟨r', C1, C2, h4, h5, _⟩ := hH.split hb
        rw [h3] at h4
        obtain rfl := Option.some.inj h4
        cases hld : loadH P ty cs off with
        | none => rw [hld] at h; simp at h
        | some a0 =>
          have hl := loadH_some hld
          exact go h1 (h5.cells hl.1) (by rw [hl.2]; rw [hld] at h; exact h)
      · simp at h
    · simp at h

theorem results_list (hw : w.heap = e.heap) (hF : FR e tm fr BF) (hH : HR e H e.μ BH) : ∀ {rs : List ResultVar} {vs : List AV}, resultsA P fr H rs = some vs → vs.all plain = true →
    ∃ xs, (rs.mapM (resultRun tm)).run P w = .ok xs w ∧ All2 (fun a x => AR1 e a x []) (vs.map dup) xs
  | [], vs, h, _ => by simp [resultsA] at h; subst h; exact ⟨[], rfl, .nil⟩
  | r :: rs, vs, h, hp => by
    simp only [resultsA] at h
    split at h
    · rename_i a as h1 h2
      obtain rfl := Option.some.inj h
      simp only [List.all_cons, Bool.and_eq_true] at hp
      obtain ⟨x, h3, h4⟩ := result_sound hw hF hH h1 hp.1
      obtain ⟨xs, h5, h6⟩ := results_list hw hF hH h2 hp.2
      exact ⟨x :: xs, by simp [List.mapM_cons, h3, h5], .cons h4 h6⟩
    · simp at h

theorem results_sound (hw : w.heap = e.heap) (hF : FR e tm fr BF) (hH : HR e H e.μ BH) {fn : Func} {vs : List AV} (h : resultsA P fr H fn.results.toList = some vs) (hp : vs.all plain = true) :
    ∃ x, (results fn tm).run P w = .ok x w ∧ AR e #[] (retA (vs.map dup)) x [] := by
  obtain ⟨xs, h1, h2⟩ := results_list hw hF hH h hp
  have hm : (fn.results.mapM (resultRun tm)).run P w = .ok xs.toArray w := by
    rw [Array.mapM_eq_mapM_toList]
    simp [h1]
  have hr : results fn tm = (do let vs ← fn.results.mapM (resultRun tm); pure (if h : vs.size = 1 then vs[0] else .tuple vs)) := by
    unfold results
    congr 1
  rw [hr]
  simp only [Sem.run_bind, hm, Result.andThen_ok, Sem.run_pure]
  refine ⟨_, rfl, ?_⟩
  generalize vs.map dup = us at h2
  cases h2 with
  | nil => exact ⟨#[], by simp, .nil, rfl⟩
  | cons ha hr =>
    cases hr with
    | nil => simp only [retA]; exact AR.of_AR1 (by simpa using ha)
    | cons hb hr => exact ⟨_, by simp, .cons ha (.cons hb hr), rfl⟩

theorem numbered_FR : ∀ {as : List AV} {vals : List Value} {n : Nat}, All2 (fun a x => AR1 e a x []) as vals → (∀ j, vals[j]? ≠ none → tm[n + j]? = vals[j]?) → FR e tm (numbered n as) []
  | [], _, _, _, _ => rfl
  | a :: as, _, n, .cons (b := v) (bs := vals) ha hr, h => by
    refine ⟨v, [], [], ?_, AR.of_AR1 ha, numbered_FR hr fun j hj => ?_, rfl⟩
    · have := h 0 (by simp); simpa using this
    · have := h (j + 1) (by simpa using hj)
      rw [show n + 1 + j = n + (j + 1) by omega]
      simpa using this

theorem dstsOK_mono {m n : Nat} (h : m ≤ n) {ops : List Oper} (hd : dstsOK m ops = true) : dstsOK n ops = true := by
  unfold dstsOK at *
  rw [List.all_eq_true] at *
  intro o ho
  have := hd o ho
  cases hdst : o.dst with
  | none => rfl
  | some d => rw [hdst] at this; exact decide_eq_true (Nat.lt_of_lt_of_le (of_decide_eq_true this) h)

theorem codeOK_mono {m n : Nat} (h : m ≤ n) : ∀ {c : Code}, codeOK m c = true → codeOK n c = true := by
  intro c
  induction c with
  | region id ops draw => exact dstsOK_mono h
  | seq a b iha ihb => intro hc; simp only [codeOK, Bool.and_eq_true] at *; exact ⟨iha hc.1, ihb hc.2⟩
  | cond c a b iha ihb => intro hc; simp only [codeOK, Bool.and_eq_true] at *; exact ⟨iha hc.1, ihb hc.2⟩
  | block id b ih => exact ih
  | loop b ih => exact ih
  | scope b ih => exact ih
  | _ => intro _; rfl

end


/-- A function, in sum: from its text's tree. -/
theorem fnOK_of {X : TX} {an : Ann} {gl : Nat → Option DV} (hX : XOK X an gl) {f : FuncId} {fn : Func} {c : Code} {cc : CC} (hf : X.P.funcs[f]? = some fn) (hb : fn.body = some c) (hok : codeOK fn.ntmps c = true)
    (hc : comp X.P an c = erase cc) (hk : keepsOK cc = true) (hs : Sums X.P gl an cc) {g : FT} (hg : ∀ as H o, (g as H).run = some o → (fnT X cc fn.results.toList as H).run = some o) : FnOK X.P gl f g := by
  refine ⟨⟨fn, hf, by rw [hb]; rfl⟩, fun as H v H' h w Φ μ BH vals hwok hgl ha hH hN => ?_⟩
  have h := hg as H _ h
  unfold fnT at h
  obtain ⟨⟨ex, s'⟩, h1, h2⟩ := Tr.bind_some h
  obtain ⟨h3, _⟩ := execT_sound hX c cc hc hs hk ⟨numbered 0 as, H, []⟩ s' ex (fun t b hb => by simp [kget] at hb) h1
  refine calls_of_wp hf hb ?_
  have hI0 : Inv ⟨w, Φ, BH, μ⟩ w Φ μ ([] ++ BH) := ⟨hwok, Nat.le_refl _, Sub.refl _, fun _ _ h => h, fun _ _ _ => ⟨rfl, fun _ => rfl⟩, fun r hr => .inl (by simpa using hr), ⟨rfl, rfl, rfl⟩⟩
  have hsr : SR ⟨w, Φ, BH, μ⟩ ⟨numbered 0 as, H⟩ (vals.toArray ++ Array.replicate (fn.ntmps - vals.toArray.size) undef) w := by
    refine ⟨Φ, μ, [], BH, numbered_FR ha fun j hj => ?_, hH, by simpa using hN, hI0⟩
    have hlt : j < vals.length := by
      rcases Nat.lt_or_ge j vals.length with h | h
      · exact h
      · exact absurd (List.getElem?_eq_none h) hj
    rw [Nat.zero_add, Array.getElem?_append_left (by simpa using hlt)]
    simp
  refine h3 ⟨w, Φ, BH, μ⟩ { tmps := vals.toArray ++ Array.replicate (fn.ntmps - vals.toArray.size) undef, defers := [] } w _ hgl (codeOK_mono (by simp; omega) hok) hsr fun a' w' h4 h5 h6 => ?_
  obtain ⟨Φ', μ', BF', BH', h7, h8, h9, h10⟩ := h4
  have hend : (∀ i, ex ≠ .ext i) → (match resultsA X.P s'.fr s'.H fn.results.toList with
      | some vs => bif vs.all plain then Tr.leaf (retA (vs.map dup), s'.H) else .fail
      | none => (.fail : Tr (AV × Hp))).run = some (v, H') → bodyPost X.P fn (fun e w' => ∃ x, e = .returned x ∧ Post w Φ μ BH v H' x w') ex.exit a' w' := by
    intro hne hres
    split at hres
    · rename_i vs hvs
      obtain ⟨hpl, hres⟩ := Tr.cond_some hres
      obtain ⟨rfl, rfl⟩ := Prod.mk.inj (Tr.leaf_some hres)
      obtain ⟨x, h11, h12⟩ := results_sound (w := w') (e := ⟨Φ', w'.heap, μ'⟩) rfl h7 h8 hvs hpl
      have hfin : a'.defers = [] ∧ ∃ v', (results fn a'.tmps).run X.P w' = .ok v' w' ∧ ∃ x', Ending.returned v' = .returned x' ∧ Post w Φ μ BH (retA (vs.map dup)) s'.H x' w' :=
        ⟨h6, x, h11, x, rfl, Φ', μ', BH', h12, h8, (List.nodup_append.1 h9).2.1, h10.perm fun r hr => List.mem_append_right _ hr⟩
      cases ex with
      | nrm => exact hfin
      | ret => exact hfin
      | ext i => exact absurd rfl (hne i)
    · exact Tr.fail_some hres
  unfold finishT at h2
  split at h2
  · exact Tr.fail_some h2
  · rename_i hne
    exact hend (fun i hi => hne i hi) h2

/-- A sum that is sound for the loop of a body. -/
theorem SumOK.loop {P : Program} {gl : Nat → Option DV} {an : Ann} {f : ST → Tr (Ex × ST)} {b : CC} (h : ∀ c, comp P an c = erase b → ∀ s r, (f s).run = some r → LoopTri P gl c s r) : SumOK P gl an f (.loop b) := by
  intro c
  induction c with
  | loop c ih => intro hc s r hr; exact (h c (CC.loop.inj hc) s r hr).tri
  | scope c ih => intro hc s r hr; exact (ih hc s r hr).scope
  | region id ops draw => intro hc; cases draw <;> simp [comp, erase] at hc
  | _ => intro hc; simp [comp, erase] at hc

/-- One round, from the body's tree. -/
theorem round_of {X : TX} {an : Ann} {gl : Nat → Option DV} (hX : XOK X an gl) {c : Code} {b : CC} (hc : comp X.P an c = erase b) (hs : Sums X.P gl an b) (hk : keepsOK b = true) {s : ST} {ex : Ex} {s' : SK}
    (h : (execT X b ⟨s.fr, s.H, []⟩).run = some (ex, s')) : Tri X.P gl c s (ex, ⟨s'.fr, s'.H⟩) :=
  (execT_sound hX c b hc hs hk ⟨s.fr, s.H, []⟩ s' ex (fun t b hb => by simp [kget] at hb) h).1

/-- From a sum to a row: a law that is true. -/
theorem law_of {P : Program} {gl : Nat → Option DV} {f : FuncId} {g : FT} (hP : FnOK P gl f g) {xs : List AV} {H : Hp} {Φ : Mem} {W : World} (h : (g xs []).run = some (.d (.bool true), H))
    (hw : WOK Φ W.heap) (hgl : GOKH gl Φ W.heap []) {vals : List Value} (ha : All2 (fun a x => AR1 ⟨Φ, W.heap, []⟩ a x []) xs vals) :
    Calls P f vals.toArray W fun e W' => e = .returned (.bool true) ∧ RowKit.Below W.heap.size W W' := by
  refine (hP.2 xs [] _ _ h W Φ [] [] vals hw hgl ha rfl List.nodup_nil).mono ?_
  rintro e W' ⟨x, rfl, Φ', μ', BH', hv, _, _, hI⟩
  have hx : x = .bool true := by
    have := hv.1
    cases this; rfl
  refine ⟨by rw [hx], hI.io.os, hI.io.tape, hI.io.output, hI.size, fun r hr => ?_⟩
  exact (hI.keep r hr (by simp)).1

theorem wok_none (heap : Array Obj) : WOK (fun _ _ => none) heap := fun r o v h => by simp at h


/-! ### The tables -/

universe u
def lookA {α : Type u} (d : α) : List (Nat × α) → Nat → α
  | [], _ => d
  | (t, a) :: r, u => bif t == u then a else lookA d r u

def annOf (tab : List (Nat × List (Nat × RA))) : FuncId → Ann := fun f r => lookA ⟨[], [], []⟩ (lookA [] tab f) r

def nodupB : List Nat → Bool
  | [] => true
  | a :: r => !r.contains a && nodupB r

theorem nodupB_spec : ∀ {l : List Nat}, nodupB l = true → l.Nodup
  | [], _ => List.nodup_nil
  | a :: r, h => by
    simp only [nodupB, Bool.and_eq_true, Bool.not_eq_true'] at h
    exact List.nodup_cons.2 ⟨by simpa using h.1, nodupB_spec h.2⟩

theorem lookA_spec {α : Type u} {d : α} {p : α → Prop} (hd : p d) : ∀ {l : List (Nat × α)} (_ : ∀ x ∈ l, p x.2) (u : Nat), p (lookA d l u)
  | [], _, _ => hd
  | (t, a) :: r, h, u => by
    unfold lookA
    cases t == u with
    | true => exact h (t, a) (by simp)
    | false => exact lookA_spec hd (fun x hx => h x (List.mem_cons_of_mem _ hx)) u

def tabOK (tab : List (Nat × List (Nat × RA))) : Bool := tab.all fun x => x.2.all fun y => nodupB y.2.live

theorem annOf_live {tab : List (Nat × List (Nat × RA))} (h : tabOK tab = true) (f id : Nat) : (annOf tab f id).live.Nodup := by
  unfold annOf
  refine lookA_spec (p := fun a : RA => a.live.Nodup) List.nodup_nil ?_ id
  refine lookA_spec (p := fun l : List (Nat × RA) => ∀ x ∈ l, x.2.live.Nodup) (by simp) ?_ f
  intro x hx y hy
  exact nodupB_spec ((List.all_eq_true.1 ((List.all_eq_true.1 h) x hx)) y hy)

def nameOK (fn : Func) : Bool := fn.name != "runtime.NumGoroutine"

theorem progOK_of {P : Program} (h1 : P.funcs.toList.all nameOK = true) : ProgOK P := fun f fn hf => by
  have : fn ∈ P.funcs.toList := by
    have h := Array.getElem?_toList (xs := P.funcs) (i := f)
    rw [hf] at h
    exact List.mem_of_getElem? h
  have := (List.all_eq_true.1 h1) fn this
  simpa [nameOK] using this

structure Base (P : Program) (tab : List (Nat × List (Nat × RA))) : Prop where
  prog : ProgOK P
  mixed : P.follows .mixedOrders = true
  tab : tabOK tab = true

theorem XOK.of {P : Program} {tab : List (Nat × List (Nat × RA))} (hb : Base P tab) {l : List (Nat × FT)} {iso : FuncId → Bool} {gl : Nat → Option DV} {vw : TypeId → View} (hT : TblOK P gl l) (f : FuncId) :
    XOK ⟨P, tbl l, iso, gl, vw⟩ (annOf tab f) gl :=
  ⟨hb.prog, hb.mixed, annOf_live hb.tab f, rfl, fun f as H r h => tbl_ok hT f as H r h⟩

/-! ### One round of a loop -/

def keepX (lv rt : List Nat) (xs : List (Nat × List Nat)) : Ex → List Nat
  | .nrm => lv
  | .ret => rt
  | .ext i => lookA [] xs i

def bodyT (X : TX) (lv rt : List Nat) (xs : List (Nat × List Nat)) (cc : CC) (s : ST) : Tr (Ex × ST) :=
  (execT X cc ⟨s.fr, s.H, []⟩).bind fun r => .leaf (r.1, ⟨restrict r.2.fr (keepX lv rt xs r.1), r.2.H⟩)

theorem Tri.post {P : Program} {gl : Nat → Option DV} {c : Code} {s s1 : ST} {ex : Ex} {l : List Nat} (hl : l.Nodup) (h : Tri P gl c s (ex, s1)) : Tri P gl c s (ex, ⟨restrict s1.fr l, s1.H⟩) :=
  fun E a w Q hg hok hs hQ => h E a w Q hg hok hs fun a' w' h1 h2 h3 => hQ a' w' (h1.restrict hl) h2 h3

def keepsB (lv rt : List Nat) (xs : List (Nat × List Nat)) : Bool := nodupB lv && nodupB rt && xs.all fun x => nodupB x.2

theorem keepsB_spec {lv rt : List Nat} {xs : List (Nat × List Nat)} (h : keepsB lv rt xs = true) (ex : Ex) : (keepX lv rt xs ex).Nodup := by
  simp only [keepsB, Bool.and_eq_true] at h
  cases ex with
  | nrm => exact nodupB_spec h.1.1
  | ret => exact nodupB_spec h.1.2
  | ext i => exact lookA_spec (p := fun l : List Nat => l.Nodup) List.nodup_nil (fun x hx => nodupB_spec ((List.all_eq_true.1 h.2) x hx)) i

/-- A loop, by what holds at its head. -/
theorem SumOK.of_inv {X : TX} {an : Ann} {gl : Nat → Option DV} (hX : XOK X an gl) {b : CC} (hs : Sums X.P gl an b) (hk : keepsOK b = true) {lv rt : List Nat} {xs : List (Nat × List Nat)} (hn : keepsB lv rt xs = true) {f : ST → Tr (Ex × ST)}
    (I : Nat → ST → Ex × ST → Prop) (h0 : ∀ s r, (f s).run = some r → ∃ n, I n s r)
    (h1 : ∀ n s r, I n s r → ∃ ex s', (bodyT X lv rt xs b s).run = some (ex, s') ∧ ((ex ≠ .nrm ∧ (ex, s') = r) ∨ (ex = .nrm ∧ ∃ n', n' < n ∧ I n' s' r))) : SumOK X.P gl an f (.loop b) := by
  refine SumOK.loop fun c hc s r hr => ?_
  obtain ⟨n, hI⟩ := h0 s r hr
  have key : ∀ n s r, I n s r → LoopTri X.P gl c s r := by
    intro n
    induction n using Nat.strongRecOn with
    | _ n ih =>
      intro s r hI
      obtain ⟨ex, s', h2, h3⟩ := h1 n s r hI
      unfold bodyT at h2
      obtain ⟨⟨ex1, s1⟩, h4, h5⟩ := Tr.bind_some h2
      obtain ⟨rfl, rfl⟩ := Prod.mk.inj (Tr.leaf_some h5)
      have h6 := round_of hX hc hs hk h4
      rcases h3 with ⟨hne, rfl⟩ | ⟨rfl, n', hlt, hI'⟩
      · exact LoopTri.out hne (Tri.post (keepsB_spec hn ex1) h6)
      · exact LoopTri.go h6 (LoopTri.keep (keepsB_spec hn .nrm) (ih n' hlt _ _ hI'))
  exact key n s r hI

theorem fn_of {X : TX} {an : Ann} {gl : Nat → Option DV} (hX : XOK X an gl) {f : FuncId} {fn : Func} {cc : CC} (hf : X.P.funcs[f]? = some fn) (hc : ∃ c, fn.body = some c ∧ codeOK fn.ntmps c = true ∧ comp X.P an c = erase cc)
    (hk : keepsOK cc = true) (hs : Sums X.P gl an cc) {g : FT} (hg : ∀ as H o, (g as H).run = some o → (fnT X cc fn.results.toList as H).run = some o) : FnOK X.P gl f g :=
  let ⟨_, h1, h2, h3⟩ := hc
  fnOK_of hX hf h1 h2 h3 hk hs hg

/-- What a function leaves in the shared heap may be forgotten, where nothing leads to it. -/
theorem FnOK.drop {P : Program} {gl : Nat → Option DV} {f : FuncId} {g g' : FT} (h : FnOK P gl f g)
    (hd : ∀ as H v H', (g' as H).run = some (v, H') → H = [] ∧ H' = [] ∧ belowV 0 v = true ∧ ∃ H1, (g as H).run = some (v, H1)) : FnOK P gl f g' := by
  refine ⟨h.1, fun as H v H' hr w Φ μ BH vals hwok hgl ha hH hN => ?_⟩
  obtain ⟨rfl, rfl, hb, H1, h1⟩ := hd as H v H' hr
  refine (h.2 as [] v H1 h1 w Φ μ BH vals hwok hgl ha hH hN).mono ?_
  rintro e w' ⟨x, rfl, Φ', μ', BH', h2, h3, h4, h5⟩
  refine ⟨x, rfl, Φ', [], [], ?_, rfl, List.nodup_nil, ?_⟩
  · have := h2.cut (n := 0) hb
    simpa using this
  · have hμ : μ = [] := by
      cases μ with
      | nil => rfl
      | cons => exact hH.elim
    subst hμ
    exact ⟨h5.wok, h5.size, h5.sub, fun b r hb => by simp at hb, h5.keep, fun r hr => by simp at hr, h5.io⟩

/-! ### Trees, run -/

section
variable {α β : Type} {a : α} {b : Bool} {t e : Tr α} {o : Option β} {k : β → Tr α}
theorem Tr.run_leaf : (Tr.leaf a).run = some a := rfl
theorem Tr.run_fail : (Tr.fail : Tr α).run = none := rfl
theorem Tr.run_br : (Tr.br b t e).run = if b = true then t.run else e.run := by cases b <;> rfl
theorem Tr.run_yes (h : b = true) : (Tr.br b t e).run = t.run := by subst h; rfl
theorem Tr.run_no (h : b = false) : (Tr.br b t e).run = e.run := by subst h; rfl
theorem Tr.run_opt {y : β} (h : o = some y) : (Tr.opt o k).run = (k y).run := by subst h; rfl
theorem Tr.run_opt_ : (Tr.opt o k).run = match o with | some y => (k y).run | none => none := by cases o <;> rfl
end

theorem ite_to {α : Type} {p : Prop} [Decidable p] {a b c : α} (h1 : p → a = c) (h2 : ¬p → b = c) : (if p then a else b) = c := by
  by_cases h : p
  · rw [if_pos h]; exact h1 h
  · rw [if_neg h]; exact h2 h

section
variable {α : Type} {t e : Tr α} {c : Option α}
theorem Tr.dec_to {p : Prop} [Decidable p] (h1 : p → t.run = c) (h2 : ¬p → e.run = c) : (Tr.br (decide p) t e).run = c := by
  rw [Tr.run_br]; by_cases h : p
  · rw [if_pos (decide_eq_true h)]; exact h1 h
  · rw [if_neg (by rw [decide_eq_false h]; decide)]; exact h2 h
theorem Tr.ndec_to {p : Prop} [Decidable p] (h1 : ¬p → t.run = c) (h2 : p → e.run = c) : (Tr.br (!decide p) t e).run = c := by
  rw [Tr.run_br]; by_cases h : p
  · rw [if_neg (by rw [decide_eq_true h]; decide)]; exact h2 h
  · rw [if_pos (by rw [decide_eq_false h]; decide)]; exact h1 h
theorem Tr.br_to {b : Bool} (h1 : b = true → t.run = c) (h2 : b = false → e.run = c) : (Tr.br b t e).run = c := by
  cases b with
  | true => exact h1 rfl
  | false => exact h2 rfl
/-- The way on which a check holds. -/
theorem Tr.dec_yes {p : Prop} [Decidable p] (h : p) (h1 : t.run = c) : (Tr.br (decide p) t e).run = c := by rw [Tr.run_yes (decide_eq_true h)]; exact h1
theorem Tr.dec_no {p : Prop} [Decidable p] (h : ¬p) (h1 : e.run = c) : (Tr.br (decide p) t e).run = c := by rw [Tr.run_no (decide_eq_false h)]; exact h1
theorem Tr.opt_to {β : Type} {o : Option β} {k : β → Tr α} {y : β} (h : o = some y) (h1 : (k y).run = c) : (Tr.opt o k).run = c := by subst h; exact h1
end

/-! ### Lists of things that look alike -/

def unL {α : Type} (un : DV → Option α) : List DV → Option (List α)
  | [] => some []
  | x :: r => match un x, unL un r with
    | some y, some l => some (y :: l)
    | _, _ => none

section
variable {α : Type} {un : DV → Option α} {enc : α → DV}
theorem unL_map (h : ∀ y, un (enc y) = some y) : ∀ (l : List α), unL un (l.map enc) = some l
  | [] => rfl
  | y :: l => by simp [unL, h, unL_map h l]
theorem unL_inv (h : ∀ x y, un x = some y → x = enc y) : ∀ {xs : List DV} {l : List α}, unL un xs = some l → xs = l.map enc
  | [], l, hl => by simp [unL] at hl; subst hl; rfl
  | x :: r, l, hl => by
    unfold unL at hl
    split at hl
    · rename_i y l' h1 h2
      obtain rfl := Option.some.inj hl
      rw [h x y h1, unL_inv h h2]; rfl
    · simp at hl
theorem at_map (h : ∀ y, un (enc y) = some y) (l : List α) (i : Nat) : ((l.map enc)[i]?).bind un = l[i]? := by
  rw [List.getElem?_map]
  cases l[i]? with
  | none => rfl
  | some y => exact h y
end

end Go.AI
