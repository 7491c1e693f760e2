/- The abstract interpreter: its values, its frames, what each operation does, the run of code and of calls. Definitions alone. -/
import Derived.Still
import Derived.Scope
import Derived.Calls
import GoSem.Dispatch
namespace Go.AI
set_option linter.unusedVariables false

/-- Plain data: a slice is the list of its elements, 'sz' cells each; a struct is the list of its cells. -/
inductive DV where
  | bool (b : Bool)
  | int (k : IntKind) (n : Int)
  | str (s : List UInt8)
  | agg (cs : List DV)
  | sl (sz : Nat) (xs : List DV)
  | iface (t : TypeId) (x : DV)
  | nilI
  | tup (vs : List DV)
  deriving Inhabited

def DV.cells : DV → List DV
  | .agg cs => cs
  | x => [x]

/-- What the keys of a map are. -/
inductive KK where
  | str
  | int (k : IntKind)
  deriving DecidableEq, Inhabited

/-- What a slot may hold. 'mp': a map of the shared heap, whose block is one 'mpb'. 'zsl': a slice of numbers whose last 'k' are zeros that may yet be written; 'sref': some slice. 'osl': a slice that alone may be appended to; 'box': a variable of this frame's own; 'lp': a pointer into one;
'hp': a pointer into the shared heap; 'vp': a pointer to memory that nobody writes. -/
inductive AV where
  | d (x : DV)
  | osl (sz : Nat) (xs : List DV)
  | agg (cs : List AV)
  | tup (vs : List AV)
  | box (cs : List AV)
  | lp (t off : Nat)
  | hp (b off : Nat)
  | vp (x : DV)
  | fn (f : FuncId)
  | nilp
  | nilf
  | undef
  | junk
  | nilm
  | mp (b : Nat)
  | mpb (kd : KK) (ks : List DV) (vs : List AV)
  | zsl (ik : IntKind) (xs : List DV) (k : Nat)
  | sref
  | bself (t : TypeId)
  deriving Inhabited

def isAggD : DV → Bool
  | .agg _ => true
  | _ => false

def AV.cells : AV → List AV
  | .agg cs => cs
  | x => [x]

def of1 : DV → AV
  | .agg cs => .agg (cs.map .d)
  | x => .d x

def ofDV : DV → AV
  | .tup vs => .tup (vs.map of1)
  | x => of1 x

def toD0 : AV → Option DV
  | .d x => some x
  | .osl s xs => some (.sl s xs)
  | _ => none

def toDs : List AV → Option (List DV)
  | [] => some []
  | a :: r => match toD0 a, toDs r with
    | some x, some xs => some (x :: xs)
    | _, _ => none

def toDV1 : AV → Option DV
  | .agg cs => (toDs cs).map .agg
  | x => toD0 x

def toDV1s : List AV → Option (List DV)
  | [] => some []
  | a :: r => match toDV1 a, toDV1s r with
    | some x, some xs => some (x :: xs)
    | _, _ => none

def toDV : AV → Option DV
  | .tup vs => (toDV1s vs).map .tup
  | x => toDV1 x

/-- A cell, handed on without what it may be appended to. -/
def dupC : AV → AV
  | .osl s xs => match s, xs with
    | 0, [] => .osl 0 []
    | s, xs => .d (.sl s xs)
  | .zsl _ _ _ => .sref
  | x => x

def dup : AV → AV
  | .agg cs => .agg (cs.map dupC)
  | x => dupC x

abbrev Fr := List (Nat × AV)
abbrev Hp := List (List AV)

def get : Fr → Nat → Option AV
  | [], _ => none
  | (t, a) :: r, u => if t = u then some a else get r u

def isLp (d : Nat) : AV → Bool
  | .lp t _ => t == d
  | _ => false

def kill (d : Nat) (a : AV) : AV := bif isLp d a then .junk else a

/-- Slot 'd' falls away, and what leads into it is no more. -/
def del (d : Nat) : Fr → Fr
  | [] => []
  | (t, a) :: r => if t = d then del d r else (t, kill d a) :: del d r

def put (d : Option Nat) (a : AV) (fr : Fr) : Fr :=
  match d with
  | none => fr
  | some d => (d, kill d a) :: del d fr

/-- Slot 't' gives away what may be appended to. -/
def disown (t : Nat) : Fr → Fr
  | [] => []
  | (u, a) :: r => if u = t then (u, dup a) :: r else (u, a) :: disown t r

/-- Slot 't' holds another value. -/
def upd (t : Nat) (b : AV) : Fr → Fr
  | [] => []
  | (u, a) :: r => if u = t then (u, b) :: r else (u, a) :: upd t b r

/-- May it be kept behind a region? No pointer into a variable of the frame's own is. -/
def keepB : AV → Bool
  | .lp _ _ | .junk => false
  | _ => true

def restrict (fr : Fr) : List Nat → Fr
  | [] => []
  | t :: r => match get fr t with
    | some a => bif keepB a then (t, a) :: restrict fr r else restrict fr r
    | none => restrict fr r

def ofConst0 : Value → Option AV
  | .bool b => some (.d (.bool b))
  | .int k n => some (.d (.int k n))
  | .string s => some (.d (.str s.data.toList))
  | .slice none 0 0 => some (.osl 0 [])
  | .pointer none => some .nilp
  | .nilFunc => some .nilf
  | .nilIface => some (.d .nilI)
  | .map none => some .nilm
  | _ => none

def ofConsts : List Value → Option (List AV)
  | [] => some []
  | v :: r => match ofConst0 v, ofConsts r with
    | some a, some as => some (a :: as)
    | _, _ => none

def ofConst : Value → Option AV
  | .agg cs => (ofConsts cs.toList).map .agg
  | v => ofConst0 v

structure Cx where
  P : Program
  call : FuncId → List AV → Hp → Option (AV × Hp)
  iso : FuncId → Bool
  glob : Nat → Option DV

/-- An operand's value, without what it may be appended to. -/
def rd (cx : Cx) (fr : Fr) : Operand → Option AV
  | .tmp t => match get fr t with
    | some (.box _) => some (.lp t 0)
    | some .junk => none
    | some a => some (dup a)
    | none => none
  | .const v => ofConst v
  | .global g => (cx.glob g).map .vp
  | .func f => some (.fn f)

def rds (cx : Cx) (fr : Fr) : List Operand → Option (List AV)
  | [] => some []
  | o :: r => match rd cx fr o, rds cx fr r with
    | some a, some as => some (a :: as)
    | _, _ => none

/-- The same, with what it may be appended to, if 'st'. -/
def rdS (cx : Cx) (st : Bool) (fr : Fr) (o : Operand) : Option (AV × Fr) :=
  bif st then
    match o with
    | .tmp t => match get fr t with
      | some (.box _) => some (.lp t 0, fr)
      | some .junk => none
      | some a => some (a, disown t fr)
      | none => none
    | o => (rd cx fr o).map fun a => (a, fr)
  else (rd cx fr o).map fun a => (a, fr)

def rdsS (cx : Cx) (st : Bool) : Fr → List Operand → Option (List AV × Fr)
  | fr, [] => some ([], fr)
  | fr, o :: r => match rdS cx st fr o with
    | some (a, fr1) => match rdsS cx st fr1 r with
      | some (as, fr2) => some (a :: as, fr2)
      | none => none
    | none => none

/-! ### Nil slices bear their elements' size -/

def fixC : Option Nat → AV → AV
  | some n, .osl 0 [] => .osl n []
  | some n, .d (.sl 0 []) => .d (.sl n [])
  | _, a => a

def fixCs : List (Option Nat) → List AV → List AV
  | f :: fs, a :: as => fixC f a :: fixCs fs as
  | _, as => as

def fixA (fx : List (Option Nat)) : AV → AV
  | .agg cs => .agg (fixCs fx cs)
  | a => match fx with
    | f :: _ => fixC f a
    | [] => a

def cellFx (P : Program) : Nat → TypeId → List (Option Nat)
  | 0, _ => []
  | k + 1, t => match P.underlying t with
    | some (.slice e) => [some (P.cellsOf e)]
    | some (.struct fs) => (fs.toList.map fun f => cellFx P k f.type).flatten
    | some (.array n e) => (List.replicate n (cellFx P k e)).flatten
    | _ => [none]

/-- Where a type's cells are slices, and how wide their elements are. -/
def fxOf (P : Program) (t : TypeId) : List (Option Nat) := bif (cellFx P 8 t).all Option.isNone then [] else cellFx P 8 t

def fixArgs (P : Program) : List TypeId → List AV → List AV
  | t :: ts, a :: as => fixA (fxOf P t) a :: fixArgs P ts as
  | _, as => as

/-- An operand's value, its nil slices fixed. -/
def rdF (cx : Cx) (fx : List (Option Nat)) (st : Bool) (fr : Fr) (o : Operand) : Option (AV × Fr) :=
  match rdS cx st fr o with
  | some (a, fr) => some (fixA fx a, fr)
  | none => none

def rdsF (cx : Cx) (fr : Fr) (ts : List TypeId) (os : List Operand) : Option (List AV) :=
  match rds cx fr os with
  | some as => some (fixArgs cx.P ts as)
  | none => none

def isAggB (P : Program) (t : TypeId) : Bool :=
  match P.underlying t with
  | some (.struct _) | some (.array _ _) => true
  | _ => false

/-- May it stand in a struct's cell, a tuple, an argument? -/
def plainC : AV → Bool
  | .d _ | .osl _ _ | .hp _ _ | .vp _ | .fn _ | .nilp | .nilf | .nilm | .mp _ | .zsl _ _ _ | .sref => true
  | _ => false

def plain : AV → Bool
  | .agg cs => cs.all plainC
  | x => plainC x

def tyOK (P : Program) (t : TypeId) : Bool := (P.underlying t).isSome

def partA (P : Program) (t : TypeId) (cs : List AV) (off : Nat) : Option AV :=
  bif isAggB P t then
    if off + P.cellsOf t ≤ cs.length then some (.agg ((cs.drop off).take (P.cellsOf t))) else none
  else match cs[off]? with
    | some (.agg _) => none
    | r => r

def partD (P : Program) (t : TypeId) (cs : List DV) (off : Nat) : Option DV :=
  bif isAggB P t then
    if off + P.cellsOf t ≤ cs.length then some (.agg ((cs.drop off).take (P.cellsOf t))) else none
  else cs[off]?

/-- What a variable of type 't' holds that begins at cell 'off'. -/
def loadA (P : Program) (t : TypeId) (cs : List AV) (off : Nat) : Option AV :=
  bif tyOK P t then partA P t cs off else none

def setRange (cs : List AV) (off : Nat) (vs : List AV) : List AV := cs.take off ++ (vs ++ cs.drop (off + vs.length))

def storeA (P : Program) (t : TypeId) (cs : List AV) (off : Nat) (v : AV) : Option (List AV) :=
  if tyOK P t = true ∧ v.cells.length = P.cellsOf t ∧ off + v.cells.length ≤ cs.length ∧ plain v = true then some (setRange cs off v.cells) else none

/-- Are they cells? -/
def noMap : List AV → Bool
  | [.mpb _ _ _] => false
  | _ => true

/-- A variable whose first cell is empty or leads to the variable itself: strings.Builder, or what begins with one. -/
def bselfC (t : TypeId) : List AV → List AV
  | .nilp :: r => .bself t :: r
  | cs => cs
def headB : List AV → Bool
  | .bself _ :: _ => true
  | _ => false
def bldTy (P : Program) (t : TypeId) : Bool :=
  match P.info? t with
  | some i => match i.desc with
    | .named n _ => n == "strings.Builder" || n == "rollbacknet/syntax.writer"
    | _ => false
  | none => false

def loadH (P : Program) (t : TypeId) (cs : List AV) (off : Nat) : Option AV := bif noMap cs then loadA P t cs off else none
def storeH (P : Program) (t : TypeId) (cs : List AV) (off : Nat) (v : AV) : Option (List AV) := bif noMap cs then storeA P t cs off v else none

/-- What an operation reads or writes besides its operands: cells of a variable of the frame's, the shared heap; 'adr': it hands on a pointer into a variable. -/
inductive Foot where
  | non
  | adr (t : Nat)
  | rL (t lo n : Nat)
  | wL (t lo n : Nat)
  | rH
  | wH
  deriving DecidableEq

def Foot.clash : Foot → Foot → Bool
  | .rL t lo n, .wL u mo m | .wL t lo n, .rL u mo m | .wL t lo n, .wL u mo m => t == u && decide (lo < mo + m) && decide (mo < lo + n)
  | .rH, .wH | .wH, .rH | .wH, .wH => true
  | _, _ => false

def Foot.touches (d : Nat) : Foot → Bool
  | .adr t | .rL t _ _ | .wL t _ _ => t == d
  | _ => false

def ftOf : AV → Foot
  | .lp u _ => .adr u
  | _ => .non

structure R where
  v : AV
  fr : Fr
  H : Hp
  ft : Foot

def pureR (v : Option AV) (fr : Fr) (H : Hp) : Option R :=
  match v with
  | some v => some ⟨v, fr, H, ftOf v⟩
  | none => none

/-! ### Operations on data -/

def intBin (op : BinOp) (k : IntKind) (a b : Int) : Option DV :=
  match op with
  | .add => some (.int k (k.wrap (a + b)))
  | .sub => some (.int k (k.wrap (a - b)))
  | .mul => some (.int k (k.wrap (a * b)))
  | .quo => if b = 0 then none else some (.int k (k.wrap (a.tdiv b)))
  | .rem => if b = 0 then none else some (.int k (a.tmod b))
  | .and => some (.int k (k.wrap (BitVec.ofInt k.bits a &&& BitVec.ofInt k.bits b).toNat))
  | .or => some (.int k (k.wrap (BitVec.ofInt k.bits a ||| BitVec.ofInt k.bits b).toNat))
  | .xor => some (.int k (k.wrap (BitVec.ofInt k.bits a ^^^ BitVec.ofInt k.bits b).toNat))
  | .andNot => some (.int k (k.wrap (BitVec.ofInt k.bits a &&& ~~~(BitVec.ofInt k.bits b)).toNat))
  | .eql => some (.bool (decide (a = b)))
  | .neq => some (.bool (!decide (a = b)))
  | .lss => some (.bool (decide (a < b)))
  | .leq => some (.bool (decide (a ≤ b)))
  | .gtr => some (.bool (decide (b < a)))
  | .geq => some (.bool (decide (b ≤ a)))
  | .shl => if b < 0 then none else some (.int k (k.wrap (a * 2 ^ (min b.toNat k.bits))))
  | .shr => if b < 0 then none else some (.int k (a.fdiv (2 ^ (min b.toNat k.bits))))

def strBin (op : BinOp) (a b : List UInt8) : Option DV :=
  match op with
  | .add => if a.length + b.length ≤ 9223372036854775807 then some (.str (a ++ b)) else none
  | .eql => some (.bool (decide (a = b)))
  | .neq => some (.bool (!decide (a = b)))
  | .lss => some (.bool (Op.bytesLess a b))
  | .leq => some (.bool (Op.bytesLess a b || decide (a = b)))
  | .gtr => some (.bool (!(Op.bytesLess a b || decide (a = b))))
  | .geq => some (.bool (!Op.bytesLess a b))
  | _ => none

def binDV (P : Program) (op : BinOp) (t : TypeId) (x y : DV) : Option DV :=
  match x, y with
  | .int k a, .int k' b =>
    match op with
    | .shl | .shr => intBin op k a b
    | _ => if k = k' then intBin op k a b else none
  | .str a, .str b => strBin op a b
  | .bool a, .bool b =>
    match op, P.underlying t with
    | .eql, some .bool => some (.bool (a == b))
    | .neq, some .bool => some (.bool (!(a == b)))
    | _, _ => none
  | _, _ => none

def unDV (op : UnOp) (x : DV) : Option DV :=
  match op, x with
  | .neg, .int k n => some (.int k (k.wrap (0 - n)))
  | .not, .bool b => some (.bool (!b))
  | .xor, .int k n => some (.int k (k.wrap (BitVec.ofInt k.bits (if k.signed then -1 else k.max) ^^^ BitVec.ofInt k.bits n).toNat))
  | _, _ => none

def bytesOf : List DV → Option (List UInt8)
  | [] => some []
  | .int .u8 n :: r => (bytesOf r).map (UInt8.ofNat n.toNat :: ·)
  | _ => none

def ofBytes (s : List UInt8) : List DV := s.map fun b => .int .u8 b.toNat

/-- A slice's elements. -/
def elems : AV → Option (Nat × List DV)
  | .d (.sl sz xs) => some (sz, xs)
  | .osl sz xs => some (sz, xs)
  | _ => none

def convA (P : Program) (src dst : TypeId) (x : AV) : Option AV :=
  match P.underlying src, P.underlying dst with
  | some _, some (.int k) => match x with
    | .d (.int _ n) => some (.d (.int k (k.wrap n)))
    | _ => none
  | some .string, some .string => match x with
    | .d (.str s) => some (.d (.str s))
    | _ => none
  | some .string, some (.slice e) => match P.underlying e, x with
    | some (.int .u8), .d (.str s) => some (.d (.sl 1 (ofBytes s)))
    | _, _ => none
  | some (.slice e), some .string => match P.underlying e, elems x with
    | some (.int .u8), some (_, xs) => (bytesOf xs).map fun s => .d (.str s)
    | _, _ => none
  | _, _ => none

def lenA (P : Program) (t : TypeId) (x : AV) : Option DV :=
  match P.underlying t, x with
  | some .string, .d (.str s) => some (.int .i64 s.length)
  | some (.slice _), .d (.sl _ xs) => some (.int .i64 xs.length)
  | some (.slice _), .osl _ xs => some (.int .i64 xs.length)
  | some (.array _ _), .lp _ _ => none
  | some (.array n _), _ => some (.int .i64 n)
  | _, _ => none

def min2D : DV → DV → Option DV
  | .int k x, .int _ y => some (.int k (if y < x then y else x))
  | _, _ => none

def max2D : DV → DV → Option DV
  | .int k x, .int _ y => some (.int k (if x < y then y else x))
  | _, _ => none

def foldD (f : DV → DV → Option DV) : DV → List AV → Option DV
  | x, [] => some x
  | x, .d y :: r => match f x y with
    | some z => foldD f z r
    | none => none
  | _, _ => none

def indexA (P : Program) (t : TypeId) (x ix : AV) : Option AV :=
  match ix with
  | .d (.int _ i) =>
    match P.underlying t, x with
    | some .string, .d (.str s) => if 0 ≤ i then (s[i.toNat]?).map fun b => .d (.int .u8 b.toNat) else none
    | some (.array n e), .agg cs => if 0 ≤ i ∧ i < n then loadA P e cs (i.toNat * P.cellsOf e) else none
    | _, _ => none
  | _ => none

def bound (o : Option AV) (d : Int) : Option Int :=
  match o with
  | none => some d
  | some (.d (.int _ i)) => some i
  | _ => none

def sliceA (P : Program) (t : TypeId) (x : AV) (lo hi mx : Option AV) : Option AV :=
  match P.underlying t with
  | some .string => match x, mx with
    | .d (.str s), none => match bound lo 0, bound hi s.length with
      | some l, some h => if 0 ≤ l ∧ l ≤ h ∧ h ≤ s.length then some (.d (.str ((s.take h.toNat).drop l.toNat))) else none
      | _, _ => none
    | _, _ => none
  | some (.slice e) => match elems x with
    | some (sz, xs) => match bound lo 0, bound hi xs.length with
      | some l, some h =>
        if tyOK P e = true ∧ 0 ≤ l ∧ l ≤ h ∧ h ≤ xs.length ∧ (sz = P.cellsOf e ∨ xs = []) then
          match mx with
          | none => some (.d (.sl sz ((xs.take h.toNat).drop l.toNat)))
          | some (.d (.int _ m)) => if m = h ∧ 0 < P.cellsOf e ∧ hi.isSome = true then some (.d (.sl (P.cellsOf e) ((xs.take h.toNat).drop l.toNat))) else none
          | _ => none
        else none
      | _, _ => none
    | none => none
  | _ => none

/-- Where field number 'i' of a struct type lies, and its type. -/
def fieldOf (P : Program) (t : TypeId) (i : Nat) : Option (Nat × TypeId) :=
  match P.underlying t with
  | some (.struct fs) => match fs[i]? with
    | some f => some (f.offset, f.type)
    | none => none
  | _ => none

def fieldA (P : Program) (t : TypeId) (x : AV) (i : Nat) : Option AV :=
  match fieldOf P t i, x with
  | some (off, ft), .agg cs => loadA P ft cs off
  | _, _ => none

def fieldAddrA (P : Program) (t : TypeId) (x : AV) (i : Nat) : Option AV :=
  match fieldOf P t i with
  | some (off, ft) =>
    if tyOK P ft = true ∧ 0 < P.cellsOf ft then
      match x with
      | .lp u o => some (.lp u (o + off))
      | .hp b o => some (.hp b (o + off))
      | .vp (.agg cs) => (partD P ft cs off).map .vp
      | _ => none
    else none
  | none => none

def indexAddrA (P : Program) (t : TypeId) (x ix : AV) : Option AV :=
  match ix with
  | .d (.int _ i) =>
    match P.underlying t with
    | some (.slice e) => match elems x with
      | some (sz, xs) => if tyOK P e = true ∧ 0 ≤ i ∧ sz = P.cellsOf e then (xs[i.toNat]?).map .vp else none
      | none => none
    | some (.array n e) =>
        if tyOK P e = true ∧ 0 ≤ i ∧ i < n then
          match x with
          | .lp u o => some (.lp u (o + i.toNat * P.cellsOf e))
          | .hp b o => some (.hp b (o + i.toNat * P.cellsOf e))
          | .vp (.agg cs) => (partD P e cs (i.toNat * P.cellsOf e)).map .vp
          | _ => none
        else none
    | _ => none
  | _ => none

def zeroCells (P : Program) (t : TypeId) : Option (List AV) :=
  match P.info? t with
  | some i => match i.zero with
    | some z => if z.cells.size = i.size then (ofConsts z.cells.toList).map (fixCs (cellFx P 8 t)) else none
    | none => none
  | none => none

def zeroDV (P : Program) (t : TypeId) : Option DV :=
  match zeroCells P t with
  | some cs => match toDs cs with
    | some ds => bif isAggB P t then some (.agg ds) else match ds with | [x] => some x | _ => none
    | none => none
  | none => none

def fillA (place : Nat → Option (Nat × Nat)) : List AV → List (Nat × AV) → Option (List AV)
  | cells, [] => some cells
  | cells, (i, v) :: rest =>
    match place i with
    | none => none
    | some (off, size) =>
      if v.cells.length = size ∧ off + size ≤ cells.length ∧ plain v = true then fillA place (setRange cells off v.cells) rest else none

def buildA (P : Program) (t : TypeId) (parts : List (Nat × AV)) : Option AV :=
  match zeroCells P t, P.underlying t with
  | some z, some (.struct fs) =>
    if fs.toList.all (fun f => tyOK P f.type) = true then
      (fillA (fun i => (fs[i]?).map fun f => (f.offset, P.cellsOf f.type)) z parts).map .agg
    else none
  | some z, some (.array _ e) =>
    bif tyOK P e then (fillA (fun i => some (i * P.cellsOf e, P.cellsOf e)) z parts).map .agg else none
  | _, _ => none

def fillD : List DV → List (Nat × DV) → Option (List DV)
  | xs, [] => some xs
  | xs, (i, v) :: rest => if i < xs.length then fillD (xs.set i v) rest else none

def dparts : List (Nat × AV) → Option (List (Nat × DV))
  | [] => some []
  | (i, a) :: r => match toDV1 a, dparts r with
    | some x, some xs => some ((i, x) :: xs)
    | _, _ => none

def buildSliceA (P : Program) (t : TypeId) (len : Nat) (parts : List (Nat × AV)) : Option AV :=
  match P.underlying t with
  | some (.slice e) =>
    match zeroDV P e, dparts parts with
    | some z, some ps =>
      if tyOK P e = true ∧ len * P.cellsOf e ≤ 16777216 ∧ 0 < P.cellsOf e ∧ ps.all (fun p => p.2.cells.length == P.cellsOf e && (isAggB P e == isAggD p.2)) = true then
        (fillD (List.replicate len z) ps).map (.osl (P.cellsOf e))
      else none
    | _, _ => none
  | _ => none

def makeSliceA (P : Program) (t : TypeId) (l c : AV) : Option AV :=
  match P.underlying t, l, c with
  | some (.slice e), .d (.int _ l), .d (.int _ c) =>
    match P.info? e, zeroDV P e with
    | some i, some z =>
      if 0 ≤ l ∧ l ≤ c ∧ c ≤ 140737488355328 ∧ i.bytes * c ≤ 140737488355328 ∧ 0 < P.cellsOf e then some (.osl (P.cellsOf e) (List.replicate l.toNat z)) else none
    | _, _ => none
  | _, _, _ => none

/-- What is appended: a slice of the same type, or a string's bytes. -/
def appended (P : Program) (t : TypeId) (t2 : Option TypeId) (x : AV) : Option (Nat × List DV) :=
  match t2 with
  | none => none
  | some u =>
    if u = t then elems x else
    match P.underlying u, x with
    | some .string, .d (.str b) => some (1, ofBytes b)
    | _, _ => none

def appendS (P : Program) (t : TypeId) (s x : AV) (t2 : Option TypeId) : Option AV :=
  match P.underlying t, s with
  | some (.slice e), .osl sz xs =>
    match P.info? e, (zeroCells P e) with
    | some i, some _ =>
      match appended P t t2 x with
      | some (sz2, ys) =>
        if (sz = i.size ∨ sz = 0 ∧ xs = []) ∧ (sz2 = i.size ∨ ys = []) ∧ 0 < i.size ∧ 0 < i.bytes ∧ (xs.length + ys.length) * i.bytes ≤ 70368744177664 then some (.osl i.size (xs ++ ys)) else none
      | none => none
    | _, _ => none
  | _, _ => none

def zIs (ik : IntKind) : Option Value → Bool
  | some (.int k z) => decide (k = ik) && decide (z = 0)
  | _ => false

/-- So many zeros are appended. -/
def appendZ (P : Program) (t : TypeId) (s : AV) (n : Int) : Option AV :=
  match P.underlying t, s with
  | some (.slice e), .osl sz xs =>
    match P.underlying e, P.info? e with
    | some (.int ik), some i =>
      if (i.size = 1 ∧ zIs ik i.zero = true ∧ 0 < i.bytes ∧ sz = 1) ∧ 0 < n ∧ (xs.length + n.toNat) * i.bytes ≤ 70368744177664 then some (.zsl ik xs n.toNat) else none
    | _, _ => none
  | _, _ => none

def appendA (P : Program) (t : TypeId) (s x : AV) (t2 : Option TypeId) : Option AV :=
  match t2 with
  | some u => match P.underlying u, x with
    | some (.int _), .d (.int _ n) => appendZ P t s n
    | some (.int _), _ => none
    | _, _ => appendS P t s x t2
  | none => none

def builtinA (P : Program) (b : Builtin) (ts : List TypeId) (as : List AV) : Option AV :=
  match b, ts, as with
  | .len, t :: _, [x] => (lenA P t x).map .d
  | .min, _, .d x :: r => (foldD min2D x r).map .d
  | .max, _, .d x :: r => (foldD max2D x r).map .d
  | _, _, _ => none

def below0 (n : Nat) : AV → Bool
  | .hp b _ | .mp b => b < n
  | .d _ | .osl _ _ | .vp _ | .fn _ | .nilp | .nilf | .nilm => true
  | _ => false

/-- A block falls away behind a call, if nothing leads to it any more. -/
def below (n : Nat) : AV → Bool
  | .hp b _ | .mp b => b < n
  | .mpb _ _ vs => vs.all fun v => v.cells.all (below0 n)
  | .agg _ | .tup _ | .box _ | .lp _ _ => false
  | _ => true

def belowV1 (n : Nat) : AV → Bool
  | .agg cs => cs.all (below n)
  | x => below n x

def belowV (n : Nat) : AV → Bool
  | .tup vs => vs.all (belowV1 n)
  | x => belowV1 n x

def gc (n : Nat) (v : AV) (H : Hp) : Hp :=
  if n < H.length ∧ belowV n v = true ∧ (H.take n).all (fun cs => cs.all (below n)) = true then H.take n else H

def callA (cx : Cx) (f : FuncId) (as : List AV) (H : Hp) : Option (AV × Hp × Foot) :=
  bif cx.iso f then
    match toDV1s as with
    | some ds => match cx.call f (ds.map of1) [] with
      | some (v, _) => match toDV v with
        | some x => some (ofDV x, H, .non)
        | none => none
      | none => none
    | none => none
  else if as.all plain then
    match cx.call f as H with
    | some (v, H') => some (v, gc H.length v H', .wH)
    | none => none
  else none

/-! ### Maps -/

def kkOf (P : Program) (t : TypeId) : Option KK :=
  match P.underlying t with
  | some .string => some .str
  | some (.int k) => some (.int k)
  | _ => none

def KK.has : KK → DV → Bool
  | .str, .str _ => true
  | .int k, .int k' _ => k == k'
  | _, _ => false

/-- Are two keys alike? -/
def eqK : DV → DV → Bool
  | .str a, .str b => decide (a = b)
  | .int _ a, .int _ b => decide (a = b)
  | _, _ => false

def findM (k : DV) : List DV → List AV → Option AV
  | x :: ks, v :: vs => bif eqK k x then some v else findM k ks vs
  | _, _ => none

def hasM (k : DV) : List DV → Bool
  | x :: ks => eqK k x || hasM k ks
  | [] => false

/-- A map's keys and values with one more. -/
def setK (k : DV) : List DV → List DV
  | x :: ks => bif eqK k x then k :: ks else x :: setK k ks
  | [] => [k]

def setV (k : DV) (v : AV) : List DV → List AV → List AV
  | x :: ks, y :: vs => bif eqK k x then v :: vs else y :: setV k v ks vs
  | _, _ => [v]

def mapTy (P : Program) (t : TypeId) : Option (KK × TypeId) :=
  match P.underlying t with
  | some (.map kt et) => match kkOf P kt with
    | some kd => some (kd, et)
    | none => none
  | _ => none

def zeroAV (P : Program) (t : TypeId) : Option AV :=
  match P.info? t with
  | some i => match i.zero with
    | some (.agg cs) => (ofConsts cs.toList).map fun l => .agg (fixCs (cellFx P 8 t) l)
    | some z => ofConst0 z
    | none => none
  | none => none

def lookupA (P : Program) (t : TypeId) (kd : KK) (k : DV) (ks : List DV) (vs : List AV) (ck : Bool) : Option AV :=
  match mapTy P t with
  | some (kd', et) =>
    if kd' = kd ∧ kd.has k = true then
      match findM k ks vs with
      | some v => some (bif ck then .tup [v, .d (.bool true)] else v)
      | none => match zeroAV P et with
        | some z => some (bif ck then .tup [dup z, .d (.bool false)] else dup z)
        | none => none
    else none
  | none => none

def pickB : AV → Bool
  | .d _ | .undef => true
  | _ => false

/-- One operation. 'st': its operands are handed on with what may be appended to; 'hf': what it makes goes into the shared heap. -/
def aop (cx : Cx) (st hf : Bool) (fr : Fr) (H : Hp) (o : Op) : Option R :=
  match o with
  | .move x | .assign x => match rdS cx st fr x with
    | some (a, fr) => some ⟨a, fr, H, ftOf a⟩
    | none => none
  | .pick c a b => match rd cx fr c with
    | some (.d (.bool t)) => match rd cx fr a, rd cx fr b with
      | some x, some y => bif pickB x && pickB y then pureR (some (bif t then x else y)) fr H else none
      | _, _ => none
    | _ => none
  | .alloc e => match zeroCells cx.P e with
    | some cs => bif hf then (bif headB cs then none else some ⟨.hp H.length 0, fr, H ++ [bif bldTy cx.P e then bselfC e cs else cs], .wH⟩) else some ⟨.box cs, fr, H, .non⟩
    | none => none
  | .box e x => match rdF cx (fxOf cx.P e) st fr x with
    | some (v, fr) => if plain v = true then (bif hf then some ⟨.hp H.length 0, fr, H ++ [v.cells], .wH⟩ else some ⟨.box v.cells, fr, H, .non⟩) else none
    | none => none
  | .build t ps => match rdsS cx st fr (ps.toList.map (·.2)) with
    | some (as, fr) => pureR (buildA cx.P t ((ps.toList.map (·.1)).zip as)) fr H
    | none => none
  | .buildSlice t n ps => match rds cx fr (ps.toList.map (·.2)) with
    | some as => pureR (buildSliceA cx.P t n ((ps.toList.map (·.1)).zip as)) fr H
    | none => none
  | .load t a => match rd cx fr a with
    | some (.vp x) =>
      if tyOK cx.P t = true ∧ x.cells.length = cx.P.cellsOf t ∧ isAggB cx.P t = isAggD x then some ⟨of1 x, fr, H, .non⟩ else none
    | some (.lp u off) => match get fr u with
      | some (.box cs) => match loadA cx.P t cs off with
        | some v => bif st then some ⟨v, upd u (.box (setRange cs off (v.cells.map dupC))) fr, H, .wL u off (max 1 v.cells.length)⟩ else some ⟨dup v, fr, H, .rL u off (max 1 v.cells.length)⟩
        | none => none
      | _ => none
    | some (.hp b off) => match H[b]? with
      | some cs => match loadH cx.P t cs off with
        | some v => bif st then some ⟨v, fr, H.set b (setRange cs off (v.cells.map dupC)), .wH⟩ else some ⟨dup v, fr, H, .rH⟩
        | none => none
      | none => none
    | _ => none
  | .store t a x => match rd cx fr a, rdF cx (fxOf cx.P t) st fr x with
    | some (.lp u off), some (v, fr) => match get fr u with
      | some (.box cs) => match storeA cx.P t cs off v with
        | some cs' => some ⟨.undef, upd u (.box cs') fr, H, .wL u off v.cells.length⟩
        | none => none
      | _ => none
    | some (.hp b off), some (v, fr) => match H[b]? with
      | some cs => match storeH cx.P t cs off v with
        | some cs' => some ⟨.undef, fr, H.set b cs', .wH⟩
        | none => none
      | none => none
    | _, _ => none
  | .nilCheck x => match rd cx fr x with
    | some (.hp b o) => some ⟨.hp b o, fr, H, .non⟩
    | some (.lp b o) => some ⟨.lp b o, fr, H, .adr b⟩
    | some (.vp x) => some ⟨.vp x, fr, H, .non⟩
    | _ => none
  | .binOp op t x y _ => match rd cx fr x, rd cx fr y with
    | some (.d a), some (.d b) => pureR ((binDV cx.P op t a b).map .d) fr H
    | _, _ => none
  | .unOp op _ x => match rd cx fr x with
    | some (.d a) => pureR ((unDV op a).map .d) fr H
    | _ => none
  | .convert s t x => match rd cx fr x with
    | some v => pureR (convA cx.P s t v) fr H
    | none => none
  | .makeSlice t l c => match rd cx fr l, rd cx fr c with
    | some l, some c => pureR (makeSliceA cx.P t l c) fr H
    | _, _ => none
  | .slice t x lo hi mx => match rd cx fr x with
    | some v =>
      match rds cx fr lo.toList, rds cx fr hi.toList, rds cx fr mx.toList with
      | some l, some h, some m => pureR (sliceA cx.P t v l.head? h.head? m.head?) fr H
      | _, _, _ => none
    | none => none
  | .fieldAddr t x i => match rd cx fr x with
    | some v => pureR (fieldAddrA cx.P t v i) fr H
    | none => none
  | .field t x i => match rd cx fr x with
    | some v => pureR (fieldA cx.P t v i) fr H
    | none => none
  | .indexAddr t x i => match rd cx fr x, rd cx fr i with
    | some v, some i => pureR (indexAddrA cx.P t v i) fr H
    | _, _ => none
  | .index t x i => match rd cx fr x, rd cx fr i with
    | some v, some i => pureR (indexA cx.P t v i) fr H
    | _, _ => none
  | .extract x i => match rd cx fr x with
    | some (.tup vs) => pureR vs[i]? fr H
    | _ => none
  | .makeMap t r => match mapTy cx.P t, r with
    | some (kd, _), none => some ⟨.mp H.length, fr, H ++ [[.mpb kd [] []]], .wH⟩
    | _, _ => none
  | .lookup t x k ck => match rd cx fr x, rd cx fr k with
    | some (.mp b), some (.d k) => match H[b]? with
      | some [.mpb kd ks vs] => match lookupA cx.P t kd k ks vs ck with
        | some v => some ⟨v, fr, H, .rH⟩
        | none => none
      | _ => none
    | _, _ => none
  | .mapUpdate t x k v => match rd cx fr x, rd cx fr k, rd cx fr v with
    | some (.mp b), some (.d k), some v => match H[b]?, mapTy cx.P t with
      | some [.mpb kd ks vs], some (kd', et) =>
        if kd' = kd ∧ kd.has k = true ∧ plain v = true then some ⟨.undef, fr, H.set b [.mpb kd (setK k ks) (setV k (fixA (fxOf cx.P et) v) ks vs)], .wH⟩ else none
      | _, _ => none
    | _, _, _ => none
  | .call c => match c.callee with
    | .builtin .append => match c.args.toList, c.argTypes.toList with
      | [s, x], [t, u] => match rdS cx st fr s, rd cx fr x with
        | some (s, fr), some x => pureR (appendA cx.P t s x (some u)) fr H
        | _, _ => none
      | _, _ => none
    | .builtin b => match rds cx fr c.args.toList with
      | some as => pureR (builtinA cx.P b c.argTypes.toList as) fr H
      | none => none
    | .value f => match rd cx fr f, rdsF cx fr c.argTypes.toList c.args.toList with
      | some (.fn g), some as => match callA cx g as H with
        | some (v, H', ft) => some ⟨v, fr, H', ft⟩
        | none => none
      | _, _ => none
    | _ => none
  | _ => none

/-! ### Regions, code, calls -/

/-- What is laid beside a region: the operations whose operands are used up; those that make blocks of the shared heap; the slots that are read behind it. -/
structure RA where
  st : List Nat
  hf : List Nat
  live : List Nat

abbrev Ann := Nat → RA

def guardOf (ops : List Oper) (fr : Fr) (o : Oper) : Option Bool :=
  match o.guard with
  | none => some true
  | some (j, want) =>
    match ops[j]? with
    | some oj => match oj.dst with
      | some d => match get fr d with
        | some (.d (.bool b)) => some (b == want)
        | some .undef => some false
        | _ => none
      | none => some false
    | none => some false

structure ST where
  fr : Fr
  H : Hp

/-- A pointer into a variable shows in the foot. -/
def okV (v : AV) (f : Foot) : Bool :=
  match v with
  | .lp u _ => f.touches u
  | _ => true

/-- Operation 'i' of a region comes up. -/
def stepOp (cx : Cx) (an : RA) (ops : List Oper) (i : Nat) (o : Oper) (s : ST) : Option ST :=
  match guardOf ops s.fr o with
  | some true =>
    match aop cx (an.st.contains i) (an.hf.contains i) s.fr s.H o.op with
    | some r => bif okV r.v r.ft then some ⟨put o.dst (fixA (fxOf cx.P o.type) r.v) r.fr, r.H⟩ else none
    | none => none
  | some false => some ⟨put o.dst .undef s.fr, s.H⟩
  | none => none

def runOps (cx : Cx) (an : RA) (ops : List Oper) : Nat → List Oper → ST → Option ST
  | _, [], s => some s
  | i, o :: r, s =>
    match stepOp cx an ops i o s with
    | some s' => runOps cx an ops (i + 1) r s'
    | none => none

/-- What a step reads and writes; 'nw': the variable that it lays anew. -/
structure Ft where
  ft : Foot
  nw : Option Nat
  deriving DecidableEq

def stepFt (cx : Cx) (an : RA) (ops : List Oper) (i : Nat) (o : Oper) (s : ST) : Ft :=
  match guardOf ops s.fr o with
  | some true =>
    match aop cx (an.st.contains i) (an.hf.contains i) s.fr s.H o.op with
    | some r => ⟨r.ft, o.dst⟩
    | none => ⟨.non, o.dst⟩
  | _ => ⟨.non, o.dst⟩

def runFts (cx : Cx) (an : RA) (ops : List Oper) : Nat → List Oper → ST → List Ft
  | _, [], _ => []
  | i, o :: r, s =>
    stepFt cx an ops i o s :: match stepOp cx an ops i o s with
    | some s' => runFts cx an ops (i + 1) r s'
    | none => []

def Ft.clash (f g : Ft) : Bool :=
  f.ft.clash g.ft || (match f.nw with | some d => g.ft.touches d | none => false) || (match g.nw with | some d => f.ft.touches d | none => false)

def shares (x y : Oper) : Bool := x.op.operands.toList.any fun | .tmp t => y.op.operands.toList.any (fun | .tmp u => t == u | _ => false) | _ => false

/-- Does operation 'o' stand behind operation 'i', through others? -/
def reachB (ops : List Oper) (i : Nat) : Nat → Oper → Bool
  | 0, _ => false
  | n + 1, o => o.after.toList.any fun g => Region.binds .any g && (g.on == i || (match ops[g.on]? with | some p => reachB ops i n p | none => false))

/-- Two operations, the first one earlier in the text: ordered, or apart. -/
def apart2 (ops : List Oper) (st : List Nat) (i j : Nat) (oi oj : Oper) (fi fj : Ft) : Bool :=
  oj.after.any (fun g => Region.binds .any g && g.on == i) || ((!fi.clash fj && !((st.contains i || st.contains j) && shares oi oj)) || reachB ops i 8 oj)

def apartFrom (ops : List Oper) (st : List Nat) (i : Nat) (oi : Oper) (fi : Ft) : Nat → List Oper → List Ft → Bool
  | _, [], _ => true
  | j, oj :: r, fj :: fs => apart2 ops st i j oi oj fi fj && apartFrom ops st i oi fi (j + 1) r fs
  | _, _, [] => false

def apartAll (ops : List Oper) (st : List Nat) : Nat → List Oper → List Ft → Bool
  | _, [], _ => true
  | i, oi :: r, fi :: fs => apartFrom ops st i oi fi (i + 1) r fs && apartAll ops st (i + 1) r fs
  | _, _, [] => false

def runRegion (cx : Cx) (an : RA) (ops : Array Oper) (draw : Bool) (s : ST) : Option ST :=
  match runOps cx an ops.toList 0 ops.toList s with
  | some s' =>
    bif draw then
      bif Region.lexB .any ops && apartAll ops.toList an.st 0 ops.toList (runFts cx an ops.toList 0 ops.toList s) then some ⟨restrict s'.fr an.live, s'.H⟩ else none
    else some ⟨restrict s'.fr an.live, s'.H⟩
  | none => none

inductive Ex where
  | nrm
  | ext (id : Nat)
  | ret
  deriving DecidableEq

def loopN : Nat → (ST → Option (Ex × ST)) → ST → Option (Ex × ST)
  | 0, _, _ => none
  | k + 1, f, s => match f s with
    | some (.nrm, s') => loopN k f s'
    | r => r

def exec (cx : Cx) (an : Ann) (k : Nat) : Code → ST → Option (Ex × ST)
  | .skip, s => some (.nrm, s)
  | .label _, s => some (.nrm, s)
  | .region id ops draw, s => match runRegion cx (an id) ops draw s with
    | some s' => some (.nrm, s')
    | none => none
  | .seq a b, s => match exec cx an k a s with
    | some (.nrm, s') => exec cx an k b s'
    | r => r
  | .cond c a b, s => match rd cx s.fr c with
    | some (.d (.bool t)) => bif t then exec cx an k a s else exec cx an k b s
    | _ => none
  | .block id b, s => match exec cx an k b s with
    | some (.ext i, s') => if i = id then some (.nrm, s') else some (.ext i, s')
    | r => r
  | .loop b, s => loopN k (exec cx an k b) s
  | .exit id, s => some (.ext id, s)
  | .scope b, s => exec cx an k b s
  | .ret, s => some (.ret, s)
  | _, _ => none

def resultA (P : Program) (fr : Fr) (H : Hp) : ResultVar → Option AV
  | .tmp t => get fr t
  | .cell a t => match get fr a with
    | some (.box cs) => (loadA P t cs 0).map (fixA (fxOf P t))
    | some (.hp b off) => match H[b]? with
      | some cs => (loadH P t cs off).map (fixA (fxOf P t))
      | none => none
    | _ => none

def resultsA (P : Program) (fr : Fr) (H : Hp) : List ResultVar → Option (List AV)
  | [] => some []
  | r :: rs => match resultA P fr H r, resultsA P fr H rs with
    | some a, some as => some (a :: as)
    | _, _ => none

def retA : List AV → AV
  | [v] => v
  | vs => .tup vs

def numbered (n : Nat) : List AV → Fr
  | [] => []
  | a :: r => (n, a) :: numbered (n + 1) r

end Go.AI
