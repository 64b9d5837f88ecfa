/- The abstract evaluator: Go's translated code run on pure values with a small store. Nothing of Go's memory stands here. -/
import GoSem.Core.Program
import GoSem.Core.Region
import GoSem.Core.Made
import GoSem.Op.Equal
import GoSem.Op.String
import Derived.Orders
import Derived.Laws.Rows
import Derived.Laws.Sem
set_option linter.all false
namespace Go.Ab
open Go

/-- Pure values: a slice is the list of its elements, an element the list of its cells. -/
inductive V where
  | bool (b : Bool)
  | int (k : IntKind) (n : Int)
  | str (s : ByteArray)
  | nilp | nilf | nilm | nils | nili
  | fn (f : FuncId)
  | sl (n : Nat) (xs : List (List V))   -- n cells an element
  deriving Inhabited

/-- How a pure slice in a temporary may be used: immortal; borrowed for this activation; immortal and with no room behind it. -/
inductive Tag where
  | imm | bor | full
  deriving DecidableEq, Inhabited

inductive D where
  | v (x : V)
  | sl (t : Tag) (n : Nat) (xs : List (List V))
  | ds (n : Nat) (cells : List D)     -- a slice literal of the call's own, n cells an element, that holds other than pure cells
  | dp (cells : List D)               -- a pointer into one
  | pp (t : Tag) (cells : List V)
  | ptr (r o : Nat)
  | ep (r g i o : Nat)
  | rs (r g n off len : Nat)
  | mp (r : Nat)
  | yl (r : Nat)                      -- the 'yield' of the range over a function whose row is r
  | clo (f : FuncId) (first caps : List D)
  | ifc (t : TypeId) (d : D)          -- a value of an interface type: its dynamic type and value
  | agg (cs : List D)
  | tup (vs : List D)
  | val (u : Value)                   -- just this value, whatever it is
  | undef
  deriving Inhabited

inductive Row where
  | box (ty : TypeId) (cells : List D)
  | arr (n g : Nat) (xs : List (List V))
  | frz (n g : Nat) (xs : List (List V))
  | map (ka va : Bool) (es : List (List V × List D))
  | pm (ka va : Bool) (es : List (List V × List V))     -- a map that holds nothing but values, and isn't written
  | iter (m n : Nat) (seen : List Nat)     -- a range over map m, which had n entries: those that have come
  | lp (bz : Bool) (hk : Nat → Option (List Nat)) (ps : List Nat) (as body : Code) (E : List (Nat × D))     -- a range over a function: what its rounds are
  | dead
  deriving Inhabited

abbrev Env := List (Nat × D)
abbrev Sto := List Row

def ofV : V → D
  | .sl n xs => .sl .imm n xs
  | x => .v x

def Env.get (env : Env) (t : Nat) : D :=
  match env with
  | [] => .undef
  | (u, d) :: rest => bif u == t then d else Env.get rest t

def Env.put (env : Env) (dst : Option Nat) (d : D) : Env :=
  match dst with
  | none => env
  | some t => (t, d) :: env

def Env.keep (ts : List Nat) (env : Env) : Env := ts.map fun t => (t, env.get t)

/-! ### Forcing (for computation by the kernel: each says no more than 'k x') -/
section force
variable {R : Type}
def fNat (n : Nat) (k : Nat → R) : R := match n with | 0 => k 0 | m + 1 => k (m + 1)
def fBool (b : Bool) (k : Bool → R) : R := match b with | true => k true | false => k false
def fInt (i : Int) (k : Int → R) : R := match i with | .ofNat n => fNat n fun n => k (.ofNat n) | .negSucc n => fNat n fun n => k (.negSucc n)
mutual
def fV : V → (V → R) → R
  | .bool b, k => fBool b fun b => k (.bool b)
  | .int ik n, k => fInt n fun n => k (.int ik n)
  | .str s, k => k (.str s)
  | .nilp, k => k .nilp
  | .nilf, k => k .nilf
  | .nilm, k => k .nilm
  | .nils, k => k .nils
  | .nili, k => k .nili
  | .fn f, k => fNat f fun f => k (.fn f)
  | .sl n xs, k => fNat n fun n => fVss xs fun xs => k (.sl n xs)
def fVs : List V → (List V → R) → R
  | [], k => k []
  | v :: vs, k => fV v fun v => fVs vs fun vs => k (v :: vs)
def fVss : List (List V) → (List (List V) → R) → R
  | [], k => k []
  | v :: vs, k => fVs v fun v => fVss vs fun vs => k (v :: vs)
end
def fTag (t : Tag) (k : Tag → R) : R := match t with | .imm => k .imm | .bor => k .bor | .full => k .full
mutual
def fD : D → (D → R) → R
  | .v x, k => fV x fun x => k (.v x)
  | .sl t n xs, k => fTag t fun t => fNat n fun n => fVss xs fun xs => k (.sl t n xs)
  | .ds n cs, k => fNat n fun n => fDs cs fun cs => k (.ds n cs)
  | .dp cs, k => fDs cs fun cs => k (.dp cs)
  | .pp t cs, k => fTag t fun t => fVs cs fun cs => k (.pp t cs)
  | .ptr r o, k => fNat r fun r => fNat o fun o => k (.ptr r o)
  | .ep r g i o, k => fNat r fun r => fNat g fun g => fNat i fun i => fNat o fun o => k (.ep r g i o)
  | .rs r g n off len, k => fNat r fun r => fNat g fun g => fNat n fun n => fNat off fun off => fNat len fun len => k (.rs r g n off len)
  | .mp r, k => fNat r fun r => k (.mp r)
  | .yl r, k => fNat r fun r => k (.yl r)
  | .clo f a b, k => fNat f fun f => fDs a fun a => fDs b fun b => k (.clo f a b)
  | .ifc t d, k => fNat t fun t => fD d fun d => k (.ifc t d)
  | .agg cs, k => fDs cs fun cs => k (.agg cs)
  | .tup cs, k => fDs cs fun cs => k (.tup cs)
  | .val u, k => k (.val u)
  | .undef, k => k .undef
def fDs : List D → (List D → R) → R
  | [], k => k []
  | d :: ds, k => fD d fun d => fDs ds fun ds => k (d :: ds)
end
def fEnts : List (List V × List D) → (List (List V × List D) → R) → R
  | [], k => k []
  | (a, b) :: es, k => fVs a fun a => fDs b fun b => fEnts es fun es => k ((a, b) :: es)
def fEntsV : List (List V × List V) → (List (List V × List V) → R) → R
  | [], k => k []
  | (a, b) :: es, k => fVs a fun a => fVs b fun b => fEntsV es fun es => k ((a, b) :: es)
def fEnvD : List (Nat × D) → (List (Nat × D) → R) → R
  | [], k => k []
  | (t, d) :: E, k => fNat t fun t => fD d fun d => fEnvD E fun E => k ((t, d) :: E)
def fNats : List Nat → (List Nat → R) → R
  | [], k => k []
  | a :: es, k => fNat a fun a => fNats es fun es => k (a :: es)
def fRow : Row → (Row → R) → R
  | .box t cs, k => fNat t fun t => fDs cs fun cs => k (.box t cs)
  | .arr n g xs, k => fNat n fun n => fNat g fun g => fVss xs fun xs => k (.arr n g xs)
  | .frz n g xs, k => fNat n fun n => fNat g fun g => fVss xs fun xs => k (.frz n g xs)
  | .map a b es, k => fBool a fun a => fBool b fun b => fEnts es fun es => k (.map a b es)
  | .pm a b es, k => fBool a fun a => fBool b fun b => fEntsV es fun es => k (.pm a b es)
  | .iter m n s, k => fNat m fun m => fNat n fun n => fNats s fun s => k (.iter m n s)
  | .lp bz hk ps as b E, k => fBool bz fun bz => fEnvD E fun E => k (.lp bz hk ps as b E)
  | .dead, k => k .dead
def fSto : Sto → (Sto → R) → R
  | [], k => k []
  | r :: rs, k => fRow r fun r => fSto rs fun rs => k (r :: rs)
/-! Only the shape: numbers and elements stay as they are. -/
def hV (v : V) (k : V → R) : R :=
  match v with
  | .bool b => k (.bool b)
  | .int ik n => k (.int ik n)
  | .str s => k (.str s)
  | .nilp => k .nilp
  | .nilf => k .nilf
  | .nilm => k .nilm
  | .nils => k .nils
  | .nili => k .nili
  | .fn f => k (.fn f)
  | .sl n xs => k (.sl n xs)
def hVs : List V → (List V → R) → R
  | [], k => k []
  | v :: vs, k => hV v fun v => hVs vs fun vs => k (v :: vs)
mutual
def hD : D → (D → R) → R
  | .v x, k => hV x fun x => k (.v x)
  | .sl t n xs, k => k (.sl t n xs)
  | .ds n cs, k => hDs cs fun cs => k (.ds n cs)
  | .dp cs, k => hDs cs fun cs => k (.dp cs)
  | .pp t cs, k => k (.pp t cs)
  | .ptr r o, k => k (.ptr r o)
  | .ep r g i o, k => k (.ep r g i o)
  | .rs r g n off len, k => k (.rs r g n off len)
  | .mp r, k => k (.mp r)
  | .yl r, k => k (.yl r)
  | .clo f a b, k => hDs a fun a => hDs b fun b => k (.clo f a b)
  | .ifc t d, k => hD d fun d => k (.ifc t d)
  | .agg cs, k => hDs cs fun cs => k (.agg cs)
  | .tup cs, k => hDs cs fun cs => k (.tup cs)
  | .val u, k => k (.val u)
  | .undef, k => k .undef
def hDs : List D → (List D → R) → R
  | [], k => k []
  | d :: ds, k => hD d fun d => hDs ds fun ds => k (d :: ds)
end
def hRow (r : Row) (k : Row → R) : R :=
  match r with
  | .box t cs => hDs cs fun cs => k (.box t cs)
  | .arr n g xs => k (.arr n g xs)
  | .frz n g xs => k (.frz n g xs)
  | .map a b es => k (.map a b es)
  | .pm a b es => k (.pm a b es)
  | .iter m n s => k (.iter m n s)
  | .lp bz hk ps as b E => k (.lp bz hk ps as b E)
  | .dead => k .dead
def hSto : Sto → (Sto → R) → R
  | [], k => k []
  | r :: rs, k => hRow r fun r => hSto rs fun rs => k (r :: rs)
def hFoot : List (Nat × Bool) → (List (Nat × Bool) → R) → R
  | [], k => k []
  | (a, b) :: es, k => fBool b fun b => hFoot es fun es => k ((a, b) :: es)
end force

/-- What a map holds. -/
def rowMap : Row → Option (Bool × Bool × List (List V × List D))
  | .map ka va es => some (ka, va, es)
  | .pm ka va es => some (ka, va, es.map fun e => (e.1, e.2.map ofV))
  | _ => none
def Row.isMap : Row → Prop
  | .map _ _ _ => True
  | .pm _ _ _ => True
  | _ => False

/-- A value's cells; of what isn't known, none. -/
def D.cells? : D → Option (List D)
  | .agg cs => some cs
  | .undef => none
  | .tup _ => none
  | x => some [x]

/-! ### Constants -/
def ofCell : Value → Option V
  | .bool b => some (.bool b)
  | .int k n => some (.int k n)
  | .string s => some (.str s)
  | .pointer none => some .nilp
  | .slice none 0 0 => some .nils
  | .map none => some .nilm
  | .nilFunc => some .nilf
  | .nilIface => some .nili
  | _ => none

def ofCells : List Value → Option (List V)
  | [] => some []
  | x :: xs => (ofCell x).bind fun y => (ofCells xs).bind fun ys => some (y :: ys)

def ofValue : Value → Option D
  | .agg cs => (ofCells cs.toList).bind fun l => some (.agg (l.map .v))
  | x => (ofCell x).bind fun y => some (.v y)

/-- What the package's variables that are never written hold, cell by cell. -/
class Globs where
  tab : Nat → Option (List V)
  /-- Are the draws counted? -/
  counts : Prop := True

section globs
variable [Globs]
def operand (env : Env) : Operand → Option D
  | .tmp t => some (env.get t)
  | .const v => ofValue v
  | .func f => some (.v (.fn f))
  | .global g => match Globs.tab g with | some cs => some (.pp .imm cs) | none => none

def operands (env : Env) : List Operand → Option (List D)
  | [] => some []
  | x :: xs => (operand env x).bind fun y => (operands env xs).bind fun ys => some (y :: ys)
end globs

/-! ### Types -/
section types
variable (P : Program)
def size? (t : TypeId) : Option Nat := (P.info? t).bind fun i => some i.size
def bytes? (t : TypeId) : Option Nat := (P.info? t).bind fun i => some i.bytes
def zero? (t : TypeId) : Option (List V) := (P.info? t).bind fun i => i.zero.bind fun z => ofCells z.cells.toList
/-- Is a type's zero value an aggregate? (none, if it isn't what the type says) -/
def zeroAg? (t : TypeId) : Option Bool := (P.info? t).bind fun i => i.zero.bind fun z =>
  match z with
  | .agg _ => some true
  | _ => some false
def isAgg? (t : TypeId) : Option Bool := (P.underlying t).bind fun d => match d with | .struct _ | .array _ _ => some true | _ => some false
def elem? (t : TypeId) : Option TypeId := (P.underlying t).bind fun d => match d with | .slice e => some e | _ => none
def field? (t : TypeId) (f : Nat) : Option Field := (P.underlying t).bind fun d => match d with | .struct fs => fs[f]? | _ => none
end types

/-! ### Windows of rows; freezing -/
def window (xs : List (List V)) (off len : Nat) : List (List V) := (xs.drop off).take len

def rowAt (σ : Sto) (r g : Nat) : Option (List (List V)) :=
  match σ[r]? with
  | some (.arr _ g' xs) => bif g' == g then some xs else none
  | some (.frz _ g' xs) => bif g' == g then some xs else none
  | _ => none

def mutAt (σ : Sto) (r g : Nat) : Option (List (List V)) :=
  match σ[r]? with
  | some (.arr _ g' xs) => bif g' == g then some xs else none
  | _ => none

/-- The elements of a slice whose elements have n cells. -/
def elems (n : Nat) (σ : Sto) : D → Option (List (List V))
  | .v .nils => some []
  | .sl _ m xs => bif m == n then some xs else none
  | .rs r g m off len => bif m == n then (rowAt σ r g).bind fun xs => some (window xs off len) else none
  | .v (.str s) => bif n == 1 then some (s.toList.map fun b => [V.int .u8 b.toNat]) else none
  | _ => none

/-- A value as a pure cell; a row of the call's own is frozen. -/
def toV (σ : Sto) : D → Option (V × Sto)
  | .v x => some (x, σ)
  | .sl .imm n xs => some (.sl n xs, σ)
  | .sl .full n xs => some (.sl n xs, σ)
  | .rs r g n off len => (rowAt σ r g).bind fun xs => some (.sl n (window xs off len), σ.set r (.frz n g xs))
  | .clo f [] [] => some (.fn f, σ)
  | _ => none

def toVs (σ : Sto) : List D → Option (List V × Sto)
  | [] => some ([], σ)
  | d :: ds => (toV σ d).bind fun p => (toVs p.2 ds).bind fun q => some (p.1 :: q.1, q.2)

/-- A list cut into k pieces of n. -/
def chunk {α : Type} (n : Nat) : Nat → List α → List (List α)
  | 0, _ => []
  | k + 1, l => l.take n :: chunk n k (l.drop n)

/-- The elements of a slice that are copied: what is a row of the call's own inside them is frozen. -/
def elemsW (n : Nat) (σ : Sto) : D → Option (List (List V) × Sto)
  | .ds m cs => bif m == n then (toVs σ cs).bind fun p => some (chunk n (p.1.length / n) p.1, p.2) else none
  | x => (elems n σ x).bind fun xs => some (xs, σ)

/-! ### Memory -/
def setRange {α : Type} (xs : List α) (o : Nat) : List α → List α
  | [] => xs
  | y :: ys => setRange (xs.set o y) (o + 1) ys

def loadCells (σ : Sto) (n : Nat) : D → Option (List D)
  | .ptr r o =>
    match σ[r]? with
    | some (.box _ cs) => bif o + n ≤ cs.length then some ((cs.drop o).take n) else none
    | _ => none
  | .ep r g i o => (rowAt σ r g).bind fun xs => (xs[i]?).bind fun cs => bif o + n ≤ cs.length then some (((cs.drop o).take n).map ofV) else none
  | .pp _ cs => bif n ≤ cs.length then some ((cs.take n).map ofV) else none
  | .dp cs => bif n ≤ cs.length then some (cs.take n) else none
  | _ => none

/-- n cells as one value: an aggregate, or one cell. -/
def packD (ag : Bool) (cs : List D) : Option D :=
  bif ag then some (.agg cs) else match cs with | [c] => some c | _ => none

def ld (n : Nat) (ag : Bool) (a : D) (σ : Sto) : Option D := (loadCells σ n a).bind fun cs => packD ag cs

def storeCells (σ : Sto) (cs : List D) : D → Option Sto
  | .ptr r o =>
    match σ[r]? with
    | some (.box t old) => bif o + cs.length ≤ old.length then some (σ.set r (.box t (setRange old o cs))) else none
    | _ => none
  | .ep r g i o =>
    (toVs σ cs).bind fun p =>
    match p.2[r]? with
    | some (.arr n g' xs) => bif g' == g then (xs[i]?).bind fun old =>
        bif o + p.1.length ≤ old.length then some (p.2.set r (.arr n g (xs.set i (setRange old o p.1)))) else none
      else none
    | _ => none
  | _ => none

def st (n : Nat) (a x : D) (σ : Sto) : Option Sto := x.cells?.bind fun cs => bif n == cs.length then storeCells σ cs a else none

/-! ### Arithmetic -/
def intOp (op : BinOp) (k : IntKind) (a b : Int) : Option D :=
  match op with
  | .add => some (.v (.int k (k.wrap (a + b))))
  | .sub => some (.v (.int k (k.wrap (a - b))))
  | .mul => some (.v (.int k (k.wrap (a * b))))
  | .quo => bif b == 0 then none else some (.v (.int k (k.wrap (a.tdiv b))))
  | .rem => bif b == 0 then none else some (.v (.int k (a.tmod b)))
  | .and => some (.v (.int k (k.wrap ((BitVec.ofInt k.bits a &&& BitVec.ofInt k.bits b).toNat))))
  | .or => some (.v (.int k (k.wrap ((BitVec.ofInt k.bits a ||| BitVec.ofInt k.bits b).toNat))))
  | .xor => some (.v (.int k (k.wrap ((BitVec.ofInt k.bits a ^^^ BitVec.ofInt k.bits b).toNat))))
  | .andNot => some (.v (.int k (k.wrap ((BitVec.ofInt k.bits a &&& ~~~ BitVec.ofInt k.bits b).toNat))))
  | .eql => some (.v (.bool (a == b)))
  | .neq => some (.v (.bool (a != b)))
  | .lss => some (.v (.bool (decide (a < b))))
  | .leq => some (.v (.bool (decide (a ≤ b))))
  | .gtr => some (.v (.bool (decide (a > b))))
  | .geq => some (.v (.bool (decide (a ≥ b))))
  | _ => none

def shiftOp (op : BinOp) (k : IntKind) (a b : Int) : Option D :=
  bif decide (b < 0) then none else
  match op with
  | .shl => some (.v (.int k (k.wrap (a * 2 ^ min b.toNat k.bits))))
  | .shr => some (.v (.int k (a.fdiv (2 ^ min b.toNat k.bits))))
  | _ => none

/-- Is there room for two strings in one? -/
def catOk (x y : ByteArray) : Bool := Nat.ble (x.size + y.size) 9223372036854775807

def strOp (op : BinOp) (x y : ByteArray) : Option D :=
  match op with
  | .add => bif catOk x y then some (.v (.str (x ++ y))) else none
  | .eql => some (.v (.bool (x.toList == y.toList)))
  | .neq => some (.v (.bool !(x.toList == y.toList)))
  | .lss => some (.v (.bool (Op.bytesLess x.toList y.toList)))
  | .leq => some (.v (.bool (Op.bytesLess x.toList y.toList || x.toList == y.toList)))
  | .gtr => some (.v (.bool !(Op.bytesLess x.toList y.toList || x.toList == y.toList)))
  | .geq => some (.v (.bool !(Op.bytesLess x.toList y.toList)))
  | _ => none

/-- Is a slice nil? (where it's known) -/
def isNilSl : D → Option Bool
  | .v .nils => some true
  | .rs _ _ _ _ n => bif Nat.blt 0 n then some false else none
  | .sl _ _ (_ :: _) => some false
  | _ => none

/-- What a plain cell is. -/
inductive CK where
  | i | b | s
  deriving DecidableEq, Inhabited

/-- '==' of two cells that are numbers, bools or strings. -/
def eqCell : CK → D → D → Option Bool
  | .i, .v (.int k a), .v (.int k' b) => bif decide (k = k') then some (a == b) else none
  | .b, .v (.bool a), .v (.bool b) => some (a == b)
  | .s, .v (.str a), .v (.str b) => some (a.toList == b.toList)
  | _, _, _ => none

def eqCells : List CK → List D → List D → Option Bool
  | [], [], [] => some true
  | k :: ks, x :: xs, y :: ys => (eqCell k x y).bind fun b => (eqCells ks xs ys).bind fun c => some (b && c)
  | _, _, _ => none

def plainGo (P : Program) (kinds : TypeId → Option (List CK)) : List Field → Nat → Option (List CK)
  | [], _ => some []
  | f :: fs, o => bif f.name != "_" && f.offset == o then (kinds f.type).bind fun ks => bif size? P f.type == some ks.length then (plainGo P kinds fs (o + ks.length)).bind fun r => some (ks ++ r) else none else none

/-- What the cells of a type are, if all of them are numbers, bools and strings, with no blank field, one behind the other. -/
def plainKinds (P : Program) : Nat → TypeId → Option (List CK)
  | 0, _ => none
  | n + 1, t =>
    match P.underlying t with
    | some (.int _) => some [.i]
    | some .bool => some [.b]
    | some .string => some [.s]
    | some (.struct fs) => bif P.stoodInHeld t then none else plainGo P (plainKinds P n) fs.toList 0
    | _ => none

/-- '==' of two arrays of two numbers. -/
def arr2 : D → List D → Option Bool
  | .agg [.v (.int k a), .v (.int k' b)], [.v (.int q c), .v (.int q' d)] => bif decide (k = q) && decide (k' = q') then some (a == c && b == d) else none
  | _, _ => none

def eqOp (op : BinOp) (r : Bool) : Option D :=
  match op with
  | .eql => some (.v (.bool r))
  | .neq => some (.v (.bool (!r)))
  | _ => none

def boShift (op : BinOp) (x y : D) : Option D :=
  match x, y with
  | .v (.int k a), .v (.int _ b) => shiftOp op k a b
  | _, _ => none

def boRest (ks : Option (List CK)) (ag : Bool) (op : BinOp) (x y : D) : Option D :=
  match x, y with
  | .v (.int k a), .v (.int k' b) => bif decide (k = k') then intOp op k a b else none
  | .v (.str a), .v (.str b) => strOp op a b
  | .v (.bool a), .v (.bool b) => bif ag then none else ks.bind fun ks => (eqCells ks [.v (.bool a)] [.v (.bool b)]).bind fun r => eqOp op r
  | .agg a, .agg b => bif ag then ks.bind fun ks => (eqCells ks a b).bind fun r => eqOp op r else none
  | _, _ => none

def isShift : BinOp → Bool
  | .shl | .shr => true
  | _ => false

/-- A binary operation; 'ks': what the operands' cells are, if they are plain; 'ag': they are aggregates. -/
def bo (ks : Option (List CK)) (ag : Bool) (op : BinOp) (x y : D) : Option D := bif isShift op then boShift op x y else boRest ks ag op x y

def unOp (op : UnOp) (x : D) : Option D :=
  match op, x with
  | .not, .v (.bool b) => some (.v (.bool (!b)))
  | .neg, .v (.int k a) => some (.v (.int k (k.wrap (-a))))
  | _, _ => none

/-- A conversion to a type of this shape. -/
def cv (d : TypeDesc) (x : D) : Option D :=
  match d, x with
  | .int k, .v (.int _ n) => some (.v (.int k (k.wrap n)))
  | .string, .v (.str s) => some (.v (.str s))
  | _, _ => none

/-- Bytes, as a string has them. -/
def bytesOf : List (List V) → Option (List UInt8)
  | [] => some []
  | [.int .u8 n] :: xs => (bytesOf xs).bind fun l => some (UInt8.ofNat n.toNat :: l)
  | _ => none

/-- A string of a slice's bytes. -/
def cvS (x : D) (σ : Sto) : Option D :=
  match x with
  | .v (.str _) => none
  | x => (elems 1 σ x).bind fun xs => (bytesOf xs).bind fun l => some (.v (.str ⟨⟨l⟩⟩))

/-- A slice of a string's bytes. -/
def cvB (x : D) : Option D :=
  match x with
  | .v (.str s) => some (.sl .imm 1 (s.data.toList.map fun b => [V.int .u8 b.toNat]))
  | _ => none

def pick (c a b : D) : Option D :=
  match c with
  | .v (.bool t) => some (bif t then a else b)
  | _ => none

/-! ### Making -/
def fill (place : Nat → Option (Nat × Nat)) (cells : List D) : List (Nat × D) → Option (List D)
  | [] => some cells
  | (i, d) :: rest => (place i).bind fun p => d.cells?.bind fun cs =>
    bif p.2 == cs.length && decide (p.1 + p.2 ≤ cells.length) then fill place (setRange cells p.1 cs) rest else none

def places (P : Program) : List Field → Option (List (Nat × Nat))
  | [] => some []
  | f :: fs => (size? P f.type).bind fun n => (places P fs).bind fun r => some ((f.offset, n) :: r)

def bu (ps : List (Nat × Nat)) (z : List V) (parts : List (Nat × D)) : Option D :=
  (fill (fun i => ps[i]?) (z.map .v) parts).bind fun cs => some (.agg cs)
def buA (n : Nat) (z : List V) (parts : List (Nat × D)) : Option D :=
  (fill (fun i => some (i * n, n)) (z.map .v) parts).bind fun cs => some (.agg cs)

/-- The cells of a slice literal: each part a whole element; what isn't named is zero. -/
def fillParts (n : Nat) (cells : List D) : List (Nat × D) → Option (List D)
  | [] => some cells
  | (i, d) :: rest => d.cells?.bind fun cs =>
    bif cs.length == n && decide (i * n + n ≤ cells.length) then fillParts n (setRange cells (i * n) cs) rest else none

def pureCell : D → Option V
  | .v x => some x
  | .sl .imm n xs => some (.sl n xs)
  | .sl .full n xs => some (.sl n xs)
  | _ => none

def pureCells : List D → Option (List V)
  | [] => some []
  | d :: ds => match pureCell d with
    | some x => match pureCells ds with
      | some xs => some (x :: xs)
      | none => none
    | none => none

def bs (n len : Nat) (z : List V) (parts : List (Nat × D)) : Option D :=
  bif decide (len * n ≤ 2 ^ 24) && decide (0 < n) && z.length == n then
    (fillParts n ((List.replicate len z).flatten.map .v) parts).bind fun cs =>
      match pureCells cs with
      | some vs => some (.sl .full n (chunk n len vs))
      | none => some (.ds n cs)
  else none

def natOf : D → Option Nat
  | .v (.int _ n) => bif decide (0 ≤ n) then some n.toNat else none
  | _ => none

/-- Is there room for n elements of so many bytes? -/
def room (b n : Nat) : Bool := decide (n * b ≤ 2 ^ 46) && decide (n ≤ 2 ^ 46)

def ms (n b : Nat) (z : List V) (len cap : D) (σ : Sto) : Option (D × Sto) :=
  (natOf len).bind fun l => (natOf cap).bind fun c =>
    bif decide (0 < n) && z.length == n && room b c && decide (l ≤ c) then some (.rs σ.length 0 n 0 l, σ ++ [.arr n 0 (List.replicate l z)]) else none

def boundOf (d : Nat) : Option D → Option Nat
  | none => some d
  | some x => natOf x

/-- s[lo:hi] of a string -/
def sliceStr (x : D) (lo hi : Option D) : Option D :=
  match x with
  | .v (.str s) => (boundOf s.size hi).bind fun h => (boundOf 0 lo).bind fun l =>
      bif decide (l ≤ h) && decide (h ≤ s.size) then some (.v (.str (s.extract l h))) else none
  | _ => none

/-- x[lo:hi] of a slice whose elements have s cells -/
def sliceSl (s : Nat) (x : D) (lo hi : Option D) (σ : Sto) : Option D :=
  match x with
  | .rs r g m off n => bif m == s then (rowAt σ r g).bind fun xs => (boundOf n hi).bind fun h => (boundOf 0 lo).bind fun l =>
      bif decide (l ≤ h) && decide (off + h ≤ xs.length) then some (.rs r g m (off + l) (h - l)) else none else none
  | .sl b m xs => bif m == s then (boundOf xs.length hi).bind fun h => (boundOf 0 lo).bind fun l =>
      bif decide (l ≤ h) && decide (h ≤ xs.length) then some (.sl (match b with | .bor => .bor | _ => .imm) m (window xs l (h - l))) else none else none
  | .v .nils => (boundOf 0 hi).bind fun h => (boundOf 0 lo).bind fun l => bif l == 0 && h == 0 then some (.v .nils) else none
  | _ => none

/-- &x[i] of a slice whose elements have s cells -/
def ia (s : Nat) (x i : D) : Option D :=
  (natOf i).bind fun i =>
  match x with
  | .sl b m xs => bif m == s then (xs[i]?).bind fun cs => some (.pp b cs) else none
  | .ds m cs => bif m == s && decide (i * m < cs.length) then some (.dp ((cs.drop (i * m)).take m)) else none
  | .rs r g m off n => bif m == s && decide (i < n) then some (.ep r g (off + i) 0) else none
  | _ => none

/-- &x[i] of an array of n elements with s cells each -/
def iaA (n s : Nat) (x i : D) : Option D :=
  (natOf i).bind fun i =>
  match x with
  | .ptr r o => bif decide (i < n) then some (.ptr r (o + i * s)) else none
  | .pp b cs => bif decide (i < n) && decide (i * s ≤ cs.length) then some (.pp b (cs.drop (i * s))) else none
  | _ => none

/-- s[i] of a string -/
def ixStr (x i : D) : Option D :=
  (natOf i).bind fun i =>
  match x with
  | .v (.str s) => (s.toList[i]?).bind fun b => some (.v (.int .u8 b.toNat))
  | _ => none

/-- x[i] of an array's value -/
def ixA (n s : Nat) (ag : Bool) (x i : D) : Option D :=
  (natOf i).bind fun i =>
  match x with
  | .agg cs => bif decide (i < n) then (bif ag then some (.agg ((cs.drop (i * s)).take s)) else cs[i * s]?) else none
  | _ => none

/-- &x.f, the field being at a cell -/
def fa (off : Nat) (x : D) : Option D :=
  match x with
  | .ptr r o => some (.ptr r (o + off))
  | .ep r g i o => some (.ep r g i (o + off))
  | .pp b cs => bif decide (off ≤ cs.length) then some (.pp b (cs.drop off)) else none
  | .dp cs => bif decide (off ≤ cs.length) then some (.dp (cs.drop off)) else none
  | _ => none

/-- x.f of a struct's value -/
def fv (off n : Nat) (ag : Bool) (x : D) : Option D :=
  match x with
  | .agg cs => bif ag then some (.agg ((cs.drop off).take n)) else cs[off]?
  | _ => none

/-- The i-th part of a tuple. -/
def ex (x : D) (i : Nat) : Option D :=
  match x with
  | .tup vs => vs[i]?
  | _ => none

/-- A pointer that isn't nil. -/
def nc (x : D) : Option D :=
  match x with
  | .ptr .. | .ep .. | .pp .. | .dp .. => some x
  | _ => none

/-! ### Builtins -/
/-- len of a slice, of a string, of a map -/
def lenSl : D → Option D
  | .v .nils => some (.v (.int .i64 0))
  | .sl _ _ xs => some (.v (.int .i64 xs.length))
  | .ds n cs => some (.v (.int .i64 (cs.length / n : Nat)))
  | .rs _ _ _ _ n => some (.v (.int .i64 n))
  | _ => none
/-- cap of a slice whose room is known -/
def capSl : D → Option D
  | .v .nils => some (.v (.int .i64 0))
  | .sl .full _ xs => some (.v (.int .i64 xs.length))
  | _ => none
/-- x[lo:hi:max]: only that it doesn't panic; what it gives isn't known. -/
def slice3 (x : D) (lo : Option D) (hi mx : D) : Option D :=
  (lenSl x).bind fun n => (natOf n).bind fun n => (natOf mx).bind fun m => (natOf hi).bind fun h => (boundOf 0 lo).bind fun l =>
    bif decide (l ≤ h) && decide (h ≤ m) && decide (m ≤ n) then some .undef else none

def lenStr : D → Option D
  | .v (.str s) => some (.v (.int .i64 s.size))
  | _ => none
def lenMap (x : D) (σ : Sto) : Option D :=
  match x with
  | .v .nilm => some (.v (.int .i64 0))
  | .mp r => match (σ[r]?).bind rowMap with | some (_, _, es) => some (.v (.int .i64 es.length)) | _ => none
  | _ => none

/-- append(s, ys...), the elements having m cells and b bytes -/
def appendTo (m b : Nat) (s : D) (ys : List (List V)) (σ : Sto) : Option (D × Sto) :=
  match s with
  | .v .nils => bif decide (0 < m) && room b ys.length then some (.rs σ.length 0 m 0 ys.length, σ ++ [.arr m 0 ys]) else none
  | .sl .full m' xs => bif m' == m && decide (0 < m) && room b (xs.length + ys.length) then
      match ys with
      | [] => some (.sl .full m xs, σ)
      | _ :: _ => some (.rs σ.length 0 m 0 (xs.length + ys.length), σ ++ [.arr m 0 (xs ++ ys)])
    else none
  | .rs r g m' off n => (mutAt σ r g).bind fun xs => bif m' == m && room b (xs.length + ys.length) then
      bif decide (off + n + ys.length ≤ xs.length) then some (.rs r g m off (n + ys.length), σ.set r (.arr m g (setRange xs (off + n) ys)))
      else bif off + n == xs.length then some (.rs r (g + 1) m 0 (n + ys.length), σ.set r (.arr m (g + 1) (xs.drop off ++ ys)))
      else none
    else none
  | _ => none

/-- append of a slice's elements; m the elements' cells, b their bytes -/
def ap (m b : Nat) (s x : D) (σ : Sto) : Option (D × Sto) := (elemsW m σ x).bind fun p => appendTo m b s p.1 p.2

/-- append of n zero elements -/
def apZ (m b : Nat) (z : List V) (s x : D) (σ : Sto) : Option (D × Sto) :=
  (natOf x).bind fun n => appendTo m b s (List.replicate n z) σ

def clear (m : Nat) (z : List V) (x : D) (σ : Sto) : Option (D × Sto) :=
  match x with
  | .rs r g m' off n => bif m' == m && z.length == m then (mutAt σ r g).bind fun xs => some (.tup [], σ.set r (.arr m g (setRange xs off (List.replicate n z)))) else none
  | .v .nils => some (.tup [], σ)
  | _ => none

def mm1 (mx : Bool) (x y : D) : Option D :=
  match x, y with
  | .v (.int k a), .v (.int k' b) => bif decide (k = k') then some (.v (.int k (bif mx then (bif decide (b > a) then b else a) else (bif decide (b < a) then b else a)))) else none
  | _, _ => none

def minmax (mx : Bool) : D → List D → Option D
  | d, [] => some d
  | d, x :: xs => (mm1 mx d x).bind fun y => minmax mx y xs

/-! ### Maps (never ranged over) -/
/-- Where a key stands. -/
def posOf (ks : List CK) (key : List V) : List (List V × List D) → Option (Option Nat)
  | [] => some none
  | e :: es => (eqCells ks (key.map .v) (e.1.map .v)).bind fun b => bif b then some (some 0) else (posOf ks key es).bind fun r => some (r.map (· + 1))

def isAggD : D → Bool
  | .agg _ => true
  | _ => false

def asVs : List D → Option (List V)
  | [] => some []
  | .v x :: ds => (asVs ds).bind fun l => some (x :: l)
  | _ => none

def keyOf (ks : List CK) (kag : Bool) (key : D) : Option (List V) :=
  bif isAggD key == kag then key.cells?.bind fun kc => (eqCells ks kc kc).bind fun _ => asVs kc else none

def lkPos (ks : List CK) (kag ag : Bool) (m : D) (k : List V) (σ : Sto) : Option (Option (List D)) :=
  match m with
  | .v .nilm => some none
  | .mp r =>
    match (σ[r]?).bind rowMap with
    | some (ka, va, es) => bif ka == kag && va == ag then (posOf ks k es).bind fun p =>
        match p with
        | none => some none
        | some i => (es[i]?).bind fun e => some (some e.2)
      else none
    | _ => none
  | _ => none

/-- m[k]; 'z' the zero element, ag: it is an aggregate; kag: the key is -/
def lk (ks : List CK) (kag : Bool) (z : List V) (ag : Bool) (m key : D) (ok : Bool) (σ : Sto) : Option D :=
  (keyOf ks kag key).bind fun k => (lkPos ks kag ag m k σ).bind fun res =>
  (packD ag (res.getD (z.map ofV))).bind fun d => some (bif ok then .tup [d, .v (.bool res.isSome)] else d)

def putPos (es : List (List V × List D)) (k : List V) (v : List D) : Option Nat → List (List V × List D)
  | none => es ++ [(k, v)]
  | some i => es.set i (k, v)

/-- m[k] = x -/
def mu (ks : List CK) (kag : Bool) (m key x : D) (σ : Sto) : Option Sto :=
  (keyOf ks kag key).bind fun k => x.cells?.bind fun xc =>
  match m with
  | .mp r =>
    match σ[r]? with
    | some (.map ka va es) => bif ka == kag && va == isAggD x then (posOf ks k es).bind fun p => some (σ.set r (.map ka va (putPos es k xc p))) else none
    | _ => none
  | _ => none

/-- A range over a map. -/
def rgOp (m : D) (σ : Sto) : Option (D × Sto) :=
  match m with
  | .mp r =>
    match (σ[r]?).bind rowMap with
    | some (_, _, es) => some (.ptr σ.length 0, σ ++ [.iter r es.length []])
    | _ => none
  | _ => none

/-- What the iterator in a row stands at. -/
def entAt (it : D) (σ : Sto) : Option (D × D × Nat × Nat) :=
  match it with
  | .ptr r 0 =>
    match σ[r]? with
    | some (.iter m n seen) =>
      match (σ[m]?).bind rowMap with
      | some (ka, va, es) => bif es.length == n then (seen.getLast?).bind fun j => (es[j]?).bind fun e =>
          (packD ka (e.1.map ofV)).bind fun dk => (packD va e.2).bind fun dv => some (dk, dv, r, m) else none
      | _ => none
    | _ => none
  | _ => none

/-- Where a range stands: the entries that are left. -/
def leftAt (n : Nat) (seen : List Nat) : List Nat := (List.range n).filter fun j => !seen.contains j

/-- A step of a range that has but one way to go. -/
def nx (it : D) (σ : Sto) : Option (D × Sto × Nat × Nat) :=
  match it with
  | .ptr r 0 =>
    match σ[r]? with
    | some (.iter m n seen) =>
      match (σ[m]?).bind rowMap with
      | some (ka, va, es) => bif es.length == n then
          match leftAt n seen with
          | [] => some (.tup [.v (.bool false)], σ, r, m)
          | [j] => (es[j]?).bind fun e => (packD ka (e.1.map ofV)).bind fun dk => (packD va e.2).bind fun dv => some (.tup [.v (.bool true), dk, dv], σ.set r (.iter m n (seen ++ [j])), r, m)
          | _ => none
        else none
      | _ => none
    | _ => none
  | _ => none

/-- m[k] op= ..: the entry's value and its stamp -/
def me (ks : List CK) (kag : Bool) (z : List V) (zag : Bool) (m key : D) (σ : Sto) : Option (D × Sto) :=
  (keyOf ks kag key).bind fun k =>
  match m with
  | .mp r =>
    match σ[r]? with
    | some (.map ka va es) => bif ka == kag then (posOf ks k es).bind fun p =>
        match p with
        | some i => (es[i]?).bind fun e => (packD va e.2).bind fun d => some (.tup [d, .v (.int .i64 i)], σ.set r (.map ka va (es.set i (k, e.2))))
        | none => bif va == zag then (packD va (z.map ofV)).bind fun d => some (.tup [d, .v (.int .i64 es.length)], σ.set r (.map ka va (es ++ [(k, z.map ofV)]))) else none
      else none
    | _ => none
  | _ => none

/-- .. and back -/
def es_ (m stamp x : D) (σ : Sto) : Option Sto :=
  (natOf stamp).bind fun i => x.cells?.bind fun xc =>
  match m with
  | .mp r =>
    match σ[r]? with
    | some (.map ka va es) => bif va == isAggD x then (es[i]?).bind fun e => some (σ.set r (.map ka va (es.set i (e.1, xc)))) else none
    | _ => none
  | _ => none

/-! ### References: reach, renumbering -/
mutual
def refsD : D → List Nat
  | .ptr r _ => [r] | .ep r _ _ _ => [r] | .rs r _ _ _ _ => [r] | .mp r => [r] | .yl r => [r]
  | .clo _ a b => refsDs a ++ refsDs b
  | .ifc _ d => refsD d
  | .agg cs => refsDs cs
  | .ds _ cs => refsDs cs
  | .dp cs => refsDs cs
  | .tup vs => refsDs vs
  | _ => []
def refsDs : List D → List Nat
  | [] => []
  | d :: ds => refsD d ++ refsDs ds
end

def refsEnts : List (List V × List D) → List Nat
  | [] => []
  | e :: es => refsDs e.2 ++ refsEnts es

def refsRow : Row → List Nat
  | .box _ cs => refsDs cs
  | .map _ _ es => refsEnts es
  | .iter m _ _ => [m]
  | .lp _ _ _ _ _ E => refsDs (E.map (·.2))
  | _ => []

def reach (σ : Sto) : Nat → List Nat → List Nat → Option (List Nat)
  | _, [], acc => some acc
  | 0, _ :: _, _ => none
  | n + 1, q :: todo, acc =>
    bif acc.contains q then reach σ n todo acc
    else match σ[q]? with
      | some row => reach σ n (todo ++ refsRow row) (acc ++ [q])
      | none => none

def idxOf (q : Nat) : List Nat → Nat
  | [] => 0
  | x :: xs => bif x == q then 0 else idxOf q xs + 1

mutual
def renD (ρ : Nat → Nat) : D → D
  | .ptr r o => .ptr (ρ r) o | .ep r g i o => .ep (ρ r) g i o | .rs r g m off n => .rs (ρ r) g m off n | .mp r => .mp (ρ r) | .yl r => .yl (ρ r)
  | .clo f a b => .clo f (renDs ρ a) (renDs ρ b)
  | .ifc t d => .ifc t (renD ρ d)
  | .agg cs => .agg (renDs ρ cs)
  | .ds n cs => .ds n (renDs ρ cs)
  | .dp cs => .dp (renDs ρ cs)
  | .tup vs => .tup (renDs ρ vs)
  | x => x
def renDs (ρ : Nat → Nat) : List D → List D
  | [] => []
  | d :: ds => renD ρ d :: renDs ρ ds
end

def renRow (ρ : Nat → Nat) : Row → Row
  | .box t cs => .box t (renDs ρ cs)
  | .map ka va es => .map ka va (es.map fun e => (e.1, renDs ρ e.2))
  | .iter m n s => .iter (ρ m) n s
  | .lp bz hk ps as b E => .lp bz hk ps as b (E.map fun p => (p.1, renD ρ p.2))
  | r => r

def rowsAt (σ : Sto) : List Nat → Option (List Row)
  | [] => some []
  | q :: qs => (σ[q]?).bind fun r => (rowsAt σ qs).bind fun rs => some (r :: rs)

/-! ### Calls -/
/-- A slice handed to a callee that doesn't write it: its elements, for the time of the call; and whose rows are lent. -/
def borrow1 (σ : Sto) : D → Option (D × List Nat)
  | .rs r g m off n => (rowAt σ r g).bind fun xs => some (.sl .bor m (window xs off n), [r])
  | x => some (x, [])

def borrows1 (σ : Sto) : List D → Option (List D × List Nat)
  | [] => some ([], [])
  | d :: ds => (borrow1 σ d).bind fun p => (borrows1 σ ds).bind fun q => some (p.1 :: q.1, p.2 ++ q.2)

def borrow (σ : Sto) : D → Option (D × List Nat)
  | .agg cs => (borrows1 σ cs).bind fun p => some (.agg p.1, p.2)
  | .ds n cs => (borrows1 σ cs).bind fun p => some (.ds n p.1, p.2)
  | x => borrow1 σ x

def borrows (σ : Sto) : List D → Option (List D × List Nat)
  | [] => some ([], [])
  | d :: ds => (borrow σ d).bind fun p => (borrows σ ds).bind fun q => some (p.1 :: q.1, p.2 ++ q.2)

mutual
def noBor : D → Bool
  | .sl .bor _ _ => false
  | .pp .bor _ => false
  | .ds _ _ => false
  | .dp _ => false
  | .clo _ a b => noBors a && noBors b
  | .ifc _ d => noBor d
  | .agg cs => noBors cs
  | .tup vs => noBors vs
  | _ => true
def noBors : List D → Bool
  | [] => true
  | d :: ds => noBor d && noBors ds
end

def noBorEnts : List (List V × List D) → Bool
  | [] => true
  | e :: es => noBors e.2 && noBorEnts es

def noBorRows : List Row → Bool
  | [] => true
  | .box _ cs :: rs => noBors cs && noBorRows rs
  | .map _ _ es :: rs => noBorEnts es && noBorRows rs
  | .lp _ _ _ _ _ E :: rs => noBors (E.map (·.2)) && noBorRows rs
  | _ :: rs => noBorRows rs

/-- What is lent must not be reached otherwise, and must not come back. -/
def lentOk (lent live : List Nat) (d : D) (σ : Sto) : Bool :=
  match lent with
  | [] => true
  | lent => (lent.all fun q => !live.contains q) && noBor d && noBorRows σ

/-- Slices inside a struct that is handed back become pure; their rows are frozen. -/
def settleCell (σ : Sto) : D → Option (D × Sto)
  | .rs r g m off n => (rowAt σ r g).bind fun xs => some (.sl .imm m (window xs off n), σ.set r (.frz m g xs))
  | .sl .full m xs => some (.sl .imm m xs, σ)
  | x => some (x, σ)

def settleCells (σ : Sto) : List D → Option (List D × Sto)
  | [] => some ([], σ)
  | d :: ds => (settleCell σ d).bind fun p => (settleCells p.2 ds).bind fun q => some (p.1 :: q.1, q.2)

def settle (σ : Sto) : D → Option (D × Sto)
  | .agg cs => (settleCells σ cs).bind fun p => some (.agg p.1, p.2)
  | x => some (x, σ)

def settles (σ : Sto) : List D → Option (List D × Sto)
  | [] => some ([], σ)
  | d :: ds => (settle σ d).bind fun p => (settles p.2 ds).bind fun q => some (p.1 :: q.1, q.2)

/-- What stands for 'yield' among functions. -/
def yid : FuncId := 1000000007

/-- A caller. At 'yid' it carries out a round: the first argument is the 'yield'. -/
abbrev Caller := FuncId → List D → Sto → Option (D × Sto)

/-- A caller that hands on what it finds. -/
abbrev CallerK := FuncId → List D → Sto → {R : Type} → (D → Sto → Option R) → Option R

def noRange : Code → Bool
  | .rangeFunc _ _ _ _ => false
  | .seq a b => noRange a && noRange b
  | .cond _ a b => noRange a && noRange b
  | .block _ b => noRange b
  | .loop b => noRange b
  | _ => true

/-- A call: the rows that the arguments lead to go with it, renumbered; behind it they come back, with the new ones. -/
def evCall (c : Caller) (byRef : FuncId → Bool) (f : FuncId) (args : List D) (σ : Sto) : Option (D × Sto × List Nat) :=
  (bif byRef f then some (args, []) else borrows σ args).bind fun ab =>
  (reach σ 1000 (refsDs ab.1) []).bind fun live =>
  (rowsAt σ live).bind fun rows =>
  (c f (renDs (fun q => idxOf q live) ab.1) (rows.map (renRow fun q => idxOf q live))).bind fun out =>
  bif !(lentOk ab.2 live out.1 out.2) then none else
  let back := fun j => (live[j]?).getD (σ.length + (j - live.length))
  some (renD back out.1, setRows σ live (out.2.map (renRow back)), live)
where
  setRows (σ : Sto) : List Nat → List Row → Sto
    | q :: qs, r :: rs => setRows (σ.set q r) qs rs
    | [], rs => σ ++ rs
    | _ :: _, [] => σ

def settlesB (b : Bool) (σ : Sto) (res : List D) : Option (List D × Sto) := bif b then some (res, σ) else settles σ res
/-- Behind a body: the results settled (b: they stay as they are), the rows that are still reached kept. -/
def finish (b : Bool) (k : Nat) (res : List D) (σ : Sto) : Option (D × Sto) :=
  (settlesB b σ res).bind fun p =>
  (reach p.2 1000 (List.range k ++ refsDs p.1) []).bind fun live =>
  (rowsAt p.2 live).bind fun rows =>
  some ((match renDs (fun q => idxOf q live) p.1 with | [x] => x | l => .tup l), rows.map (renRow fun q => idxOf q live))

/-! ### Regions -/
inductive Ex where
  | normal
  | exit (id : Nat)
  | ret
  deriving DecidableEq, Inhabited

abbrev Foot := List (Nat × Bool)

def rowsOf : D → List Nat
  | .ptr r _ => [r] | .ep r _ _ _ => [r] | .rs r _ _ _ _ => [r] | .mp r => [r]
  | _ => []
def rd (l : List Nat) : Foot := l.map fun r => (r, false)
def wr (l : List Nat) : Foot := l.map fun r => (r, true)

/-- A value that says no more, part by part. -/
inductive WkS : V → V → Prop
  | refl (v : V) : WkS v v
  | nils (n : Nat) : WkS .nils (.sl n [])
  | sl (n : Nat) (xs ys : List (List V)) (hl : xs.length = ys.length) (hn : ∀ (i : Nat) x y, xs[i]? = some x → ys[i]? = some y → x.length = y.length)
      (hv : ∀ (i : Nat) x y (j : Nat) a b, xs[i]? = some x → ys[i]? = some y → x[j]? = some a → y[j]? = some b → WkS a b) : WkS (.sl n xs) (.sl n ys)
def WkSL (xs ys : List V) : Prop := xs.length = ys.length ∧ ∀ (j : Nat) x y, xs[j]? = some x → ys[j]? = some y → WkS x y
theorem WkSL.refl (xs : List V) : WkSL xs xs := ⟨rfl, fun j x y h h' => by rw [h] at h'; cases h'; exact .refl _⟩

structure Mode where
  P : Program
  byRef : FuncId → Bool
  hints : FuncId → Nat → Option (List Nat)
  /-- Are values forced as they come? -/
  frc : Bool
  /-- .. are their shapes? -/
  shp : Bool := false
  /-- Which functions hand back rows inside structs? -/
  keep : FuncId → Bool := fun _ => false
  /-- How an element's cells are read, by type. -/
  can : TypeId → List V → {R : Type} → (List V → Option R) → Option R := fun _ xs _ k => k xs
  canOk : ∀ (t : TypeId) (xs : List V) (R : Type) (k : List V → Option R) (r : R), can t xs k = some r → ∃ ys, k ys = some r ∧ WkSL xs ys := by intro t xs R k r h; exact ⟨xs, h, WkSL.refl _⟩

def Mode.fd (M : Mode) {R : Type} (d : D) (k : D → R) : R := bif M.frc then fD d k else bif M.shp then hD d k else k d
def Mode.fds (M : Mode) {R : Type} (d : List D) (k : List D → R) : R := bif M.frc then fDs d k else bif M.shp then hDs d k else k d
def Mode.fs (M : Mode) {R : Type} (σ : Sto) (k : Sto → R) : R := bif M.frc then fSto σ k else bif M.shp then hSto σ k else k σ
def Mode.hs (M : Mode) {R : Type} (σ : Sto) (k : Sto → R) : R := bif M.shp then hSto σ k else k σ
def Mode.hf (M : Mode) {R : Type} (f : Foot) (k : Foot → R) : R := bif M.shp then hFoot f k else k f
def Mode.hvs (M : Mode) {R : Type} (f : List V) (k : List V → R) : R := bif M.shp then hVs f k else k f
def fPut {R : Type} (env : Env) (dst : Option Nat) (d : D) (k : Env → R) : R := match dst with | none => k env | some t => k ((t, d) :: env)

def footClash (x y : Foot) : Bool := x.any fun p => y.any fun q => p.1 == q.1 && (p.2 || q.2)

/-- The temporaries that an operation looks at or writes. -/
def names (ops : Array Oper) (o : Oper) : List Tmp :=
  o.dst.toList ++ (o.op.operands.toList.filterMap fun | .tmp t => some t | _ => none) ++ (match o.guard with | some (g, _) => ((ops[g]?).bind fun o => o.dst).toList | none => [])

def writesIn (o : Oper) (ts : List Tmp) : Bool := match o.dst with | some d => ts.contains d | none => false

/-- What is asked of a region whose order is drawn: edges lead back; who writes a temporary stands in order to all who name it. -/
def drawOk (ops : Array Oper) : Bool :=
  let b := Region.before ops
  let l := ops.toList.zipIdx
  l.all fun p =>
    p.1.after.toList.all (fun e => !Region.binds .any e || decide (e.on < p.2)) &&
    (let ns := names ops p.1
     l.all fun q => !(decide (q.2 < p.2) && (writesIn q.1 ns || writesIn p.1 (names ops q.1))) || (b.getD p.2 0).testBit q.2)

/-- Operations whose footprints clash stand in order. -/
def quiet (b : Array Nat) : List (Foot × Nat) → Bool
  | [] => true
  | p :: rest => rest.all (fun q => !(footClash p.1 q.1) || (b.getD q.2 0).testBit p.2) && quiet b rest

def isNil {α : Type} : List α → Bool
  | [] => true
  | _ => false

def loud (fs : List Foot) : List (Foot × Nat) := fs.zipIdx.filter fun p => !isNil p.1

/-- What append touches: the rows of what it appends to, and (read only, if they are elements of a row) those of what it appends. -/
def apFoot (s x : D) : Foot :=
  match x with
  | .rs r _ _ _ _ => wr (refsD s) ++ rd [r]
  | x => wr (refsD s ++ refsD x)

/-- The rows that an operation makes. -/
def made (σ σ' : Sto) : Foot := wr (List.range' σ.length (σ'.length - σ.length))

/-! ### The same, handing on what they find (so that what hangs on an unknown number stands in front) -/
section hand
variable {R : Type}
def natOfK (d : D) (k : Nat → Option R) : Option R :=
  match d with
  | .v (.int _ n) => bif decide (0 ≤ n) then k n.toNat else none
  | _ => none

def boundOfK (dflt : Nat) (o : Option D) (k : Nat → Option R) : Option R :=
  match o with
  | none => k dflt
  | some x => natOfK x k

def intOpK (op : BinOp) (kd : IntKind) (a b : Int) (k : D → Option R) : Option R :=
  match op with
  | .quo => bif b == 0 then none else k (.v (.int kd (kd.wrap (a.tdiv b))))
  | .rem => bif b == 0 then none else k (.v (.int kd (a.tmod b)))
  | op => (intOp op kd a b).bind k

def shiftOpK (op : BinOp) (kd : IntKind) (a b : Int) (k : D → Option R) : Option R :=
  bif decide (b < 0) then none else
  match op with
  | .shl => k (.v (.int kd (kd.wrap (a * 2 ^ min b.toNat kd.bits))))
  | .shr => k (.v (.int kd (a.fdiv (2 ^ min b.toNat kd.bits))))
  | _ => none

def strOpK (op : BinOp) (x y : ByteArray) (k : D → Option R) : Option R :=
  match op with
  | .add => bif catOk x y then k (.v (.str (x ++ y))) else none
  | op => (strOp op x y).bind k

def boK (ks : Option (List CK)) (ag : Bool) (op : BinOp) (x y : D) (k : D → Option R) : Option R :=
  bif isShift op then
    match x, y with
    | .v (.int kd a), .v (.int _ b) => shiftOpK op kd a b k
    | _, _ => none
  else
    match x, y with
    | .v (.int kd a), .v (.int k' b) => bif decide (kd = k') then intOpK op kd a b k else none
    | .v (.str a), .v (.str b) => strOpK op a b k
    | x, y => (boRest ks ag op x y).bind k

def slice3K (x : D) (lo : Option D) (hi mx : D) (k : D → Option R) : Option R :=
  (lenSl x).bind fun n => natOfK n fun n => natOfK mx fun m => natOfK hi fun h => boundOfK 0 lo fun l =>
    bif decide (l ≤ h) && decide (h ≤ m) && decide (m ≤ n) then k .undef else none

def sliceStrK (x : D) (lo hi : Option D) (k : D → Option R) : Option R :=
  match x with
  | .v (.str s) => boundOfK s.size hi fun h => boundOfK 0 lo fun l =>
      bif decide (l ≤ h) && decide (h ≤ s.size) then k (.v (.str (s.extract l h))) else none
  | _ => none

def rowAtK (σ : Sto) (r g : Nat) (k : List (List V) → Option R) : Option R :=
  match σ[r]? with
  | some (.arr _ g' xs) => bif g' == g then k xs else none
  | some (.frz _ g' xs) => bif g' == g then k xs else none
  | _ => none
def mutAtK (σ : Sto) (r g : Nat) (k : List (List V) → Option R) : Option R :=
  match σ[r]? with
  | some (.arr _ g' xs) => bif g' == g then k xs else none
  | _ => none
def toVK (σ : Sto) (d : D) (k : V → Sto → Option R) : Option R :=
  match d with
  | .v x => k x σ
  | .sl .imm n xs => k (.sl n xs) σ
  | .sl .full n xs => k (.sl n xs) σ
  | .rs r g n off len => rowAtK σ r g fun xs => k (.sl n (window xs off len)) (σ.set r (.frz n g xs))
  | .clo f [] [] => k (.fn f) σ
  | _ => none
def toVsK : List D → Sto → (List V → Sto → Option R) → Option R
  | [], σ, k => k [] σ
  | d :: ds, σ, k => toVK σ d fun v σ => toVsK ds σ fun vs σ => k (v :: vs) σ
def elemsK (n : Nat) (σ : Sto) (d : D) (k : List (List V) → Option R) : Option R :=
  match d with
  | .v .nils => k []
  | .sl _ m xs => bif m == n then k xs else none
  | .rs r g m off len => bif m == n then rowAtK σ r g fun xs => k (window xs off len) else none
  | .v (.str s) => bif n == 1 then k (s.toList.map fun b => [V.int .u8 b.toNat]) else none
  | _ => none
def elemsWK (n : Nat) (σ : Sto) (d : D) (k : List (List V) → Sto → Option R) : Option R :=
  match d with
  | .ds m cs => bif m == n then toVsK cs σ fun vs σ => k (chunk n (vs.length / n) vs) σ else none
  | x => elemsK n σ x fun xs => k xs σ
def clearK (m : Nat) (z : List V) (x : D) (σ : Sto) (k : D → Sto → Option R) : Option R :=
  match x with
  | .rs r g m' off n => bif m' == m && z.length == m then mutAtK σ r g fun xs => k (.tup []) (σ.set r (.arr m g (setRange xs off (List.replicate n z)))) else none
  | .v .nils => k (.tup []) σ
  | _ => none
def borrow1K (σ : Sto) (d : D) (k : D → List Nat → Option R) : Option R :=
  match d with
  | .rs r g m off n => rowAtK σ r g fun xs => k (.sl .bor m (window xs off n)) [r]
  | x => k x []
def borrows1K (σ : Sto) : List D → (List D → List Nat → Option R) → Option R
  | [], k => k [] []
  | d :: ds, k => borrow1K σ d fun d' l => borrows1K σ ds fun ds' l' => k (d' :: ds') (l ++ l')
def borrowK (σ : Sto) (d : D) (k : D → List Nat → Option R) : Option R :=
  match d with
  | .agg cs => borrows1K σ cs fun cs l => k (.agg cs) l
  | .ds n cs => borrows1K σ cs fun cs l => k (.ds n cs) l
  | x => borrow1K σ x k
def borrowsK (σ : Sto) : List D → (List D → List Nat → Option R) → Option R
  | [], k => k [] []
  | d :: ds, k => borrowK σ d fun d' l => borrowsK σ ds fun ds' l' => k (d' :: ds') (l ++ l')
def settleCellK (σ : Sto) (d : D) (k : D → Sto → Option R) : Option R :=
  match d with
  | .rs r g m off n => rowAtK σ r g fun xs => k (.sl .imm m (window xs off n)) (σ.set r (.frz m g xs))
  | .sl .full m xs => k (.sl .imm m xs) σ
  | x => k x σ
def settleCellsK : List D → Sto → (List D → Sto → Option R) → Option R
  | [], σ, k => k [] σ
  | d :: ds, σ, k => settleCellK σ d fun d' σ => settleCellsK ds σ fun ds' σ => k (d' :: ds') σ
def settleK (σ : Sto) (d : D) (k : D → Sto → Option R) : Option R :=
  match d with
  | .agg cs => settleCellsK cs σ fun cs σ => k (.agg cs) σ
  | x => k x σ
def settlesK : List D → Sto → (List D → Sto → Option R) → Option R
  | [], σ, k => k [] σ
  | d :: ds, σ, k => settleK σ d fun d' σ => settlesK ds σ fun ds' σ => k (d' :: ds') σ
def finishK (b : Bool) (k : Nat) (res : List D) (σ : Sto) (K : D → Sto → Option R) : Option R :=
  (bif b then fun (q : List D → Sto → Option R) => q res σ else fun q => settlesK res σ q) fun res' σ' =>
  (reach σ' 1000 (List.range k ++ refsDs res') []).bind fun live =>
  (rowsAt σ' live).bind fun rows =>
  K (match renDs (fun q => idxOf q live) res' with | [x] => x | l => .tup l) (rows.map (renRow fun q => idxOf q live))

def sliceSlK (s : Nat) (x : D) (lo hi : Option D) (σ : Sto) (k : D → Option R) : Option R :=
  match x with
  | .rs r g m off n => bif m == s then rowAtK σ r g fun xs => boundOfK n hi fun h => boundOfK 0 lo fun l =>
      bif decide (l ≤ h) && decide (off + h ≤ xs.length) then k (.rs r g m (off + l) (h - l)) else none else none
  | .sl b m xs => bif m == s then boundOfK xs.length hi fun h => boundOfK 0 lo fun l =>
      bif decide (l ≤ h) && decide (h ≤ xs.length) then k (.sl (match b with | .bor => .bor | _ => .imm) m (window xs l (h - l))) else none else none
  | .v .nils => boundOfK 0 hi fun h => boundOfK 0 lo fun l => bif l == 0 && h == 0 then k (.v .nils) else none
  | _ => none

def iaK (s : Nat) (x i : D) (k : D → Option R) : Option R :=
  natOfK i fun i =>
  match x with
  | .sl b m xs => bif m == s then (xs[i]?).bind fun cs => k (.pp b cs) else none
  | .ds m cs => bif m == s && decide (i * m < cs.length) then k (.dp ((cs.drop (i * m)).take m)) else none
  | .rs r g m off n => bif m == s && decide (i < n) then k (.ep r g (off + i) 0) else none
  | _ => none

def iaAK (n s : Nat) (x i : D) (k : D → Option R) : Option R :=
  natOfK i fun i =>
  match x with
  | .ptr r o => bif decide (i < n) then k (.ptr r (o + i * s)) else none
  | .pp b cs => bif decide (i < n) && decide (i * s ≤ cs.length) then k (.pp b (cs.drop (i * s))) else none
  | _ => none

def ixStrK (x i : D) (k : D → Option R) : Option R :=
  natOfK i fun i =>
  match x with
  | .v (.str s) => (s.toList[i]?).bind fun b => k (.v (.int .u8 b.toNat))
  | _ => none

def ldK (n : Nat) (ag : Bool) (can : List V → (List V → Option R) → Option R) (a : D) (σ : Sto) (k : D → Option R) : Option R :=
  match a with
  | .ep r g i o => rowAtK σ r g fun xs => (xs[i]?).bind fun cs => bif decide (o + n ≤ cs.length) then can ((cs.drop o).take n) fun ys => (packD ag (ys.map ofV)).bind k else none
  | .pp _ cs => bif decide (n ≤ cs.length) then can (cs.take n) fun ys => (packD ag (ys.map ofV)).bind k else none
  | a => (ld n ag a σ).bind k

def stK (M : Mode) (n : Nat) (a x : D) (σ : Sto) (k : Sto → Option R) : Option R := x.cells?.bind fun cs => bif n == cs.length then
  match a with
  | .ep r g i o =>
    toVsK cs σ fun vs σ1 => M.hvs vs fun vs => M.hs σ1 fun σ1 =>
    match σ1[r]? with
    | some (.arr n g' xs) => bif g' == g then (xs[i]?).bind fun old => bif decide (o + vs.length ≤ old.length) then k (σ1.set r (.arr n g (xs.set i (setRange old o vs)))) else none else none
    | _ => none
  | a => (storeCells σ cs a).bind k else none

def msK (n b : Nat) (z : List V) (len cap : D) (σ : Sto) (k : D × Sto → Option R) : Option R :=
  natOfK len fun l => natOfK cap fun c =>
    bif decide (0 < n) && z.length == n && room b c && decide (l ≤ c) then k (.rs σ.length 0 n 0 l, σ ++ [.arr n 0 (List.replicate l z)]) else none

def appendToK (m b : Nat) (s : D) (ys : List (List V)) (σ : Sto) (k : D × Sto → Option R) : Option R :=
  match s with
  | .v .nils => bif decide (0 < m) && room b ys.length then k (.rs σ.length 0 m 0 ys.length, σ ++ [.arr m 0 ys]) else none
  | .sl .full m' xs => bif m' == m && decide (0 < m) && room b (xs.length + ys.length) then
      match ys with
      | [] => k (.sl .full m xs, σ)
      | _ :: _ => k (.rs σ.length 0 m 0 (xs.length + ys.length), σ ++ [.arr m 0 (xs ++ ys)])
    else none
  | .rs r g m' off n => mutAtK σ r g fun xs => bif m' == m && room b (xs.length + ys.length) then
      bif decide (off + n + ys.length ≤ xs.length) then k (.rs r g m off (n + ys.length), σ.set r (.arr m g (setRange xs (off + n) ys)))
      else bif off + n == xs.length then k (.rs r (g + 1) m 0 (n + ys.length), σ.set r (.arr m (g + 1) (xs.drop off ++ ys)))
      else none
    else none
  | _ => none

def apK (m b : Nat) (s x : D) (σ : Sto) (k : D × Sto → Option R) : Option R := elemsWK m σ x fun xs σ => appendToK m b s xs σ k
def lkPosK (ks : List CK) (kag ag : Bool) (m : D) (k : List V) (σ : Sto) (K : Option (List D) → Option R) : Option R :=
  match m with
  | .v .nilm => K none
  | .mp r =>
    match (σ[r]?).bind rowMap with
    | some (ka, va, es) => bif ka == kag && va == ag then (posOf ks k es).bind fun p =>
        match p with
        | none => K none
        | some i => (es[i]?).bind fun e => K (some e.2)
      else none
    | _ => none
  | _ => none
def lkK (ks : List CK) (kag : Bool) (z : List V) (ag : Bool) (m key : D) (ok : Bool) (σ : Sto) (K : D → Option R) : Option R :=
  (keyOf ks kag key).bind fun k => lkPosK ks kag ag m k σ fun res =>
  (packD ag (res.getD (z.map ofV))).bind fun d => K (bif ok then .tup [d, .v (.bool res.isSome)] else d)
def muK (ks : List CK) (kag : Bool) (m key x : D) (σ : Sto) (K : Sto → Option R) : Option R :=
  (keyOf ks kag key).bind fun k => x.cells?.bind fun xc =>
  match m with
  | .mp r =>
    match σ[r]? with
    | some (.map ka va es) => bif ka == kag && va == isAggD x then (posOf ks k es).bind fun p => K (σ.set r (.map ka va (putPos es k xc p))) else none
    | _ => none
  | _ => none
def entAtK (it : D) (σ : Sto) (K : D → D → Nat → Nat → Option R) : Option R :=
  match it with
  | .ptr r 0 =>
    match σ[r]? with
    | some (.iter m n seen) =>
      match (σ[m]?).bind rowMap with
      | some (ka, va, es) => bif es.length == n then (seen.getLast?).bind fun j => (es[j]?).bind fun e =>
          (packD ka (e.1.map ofV)).bind fun dk => (packD va e.2).bind fun dv => K dk dv r m else none
      | _ => none
    | _ => none
  | _ => none
def meK (ks : List CK) (kag : Bool) (z : List V) (zag : Bool) (m key : D) (σ : Sto) (K : D → Sto → Option R) : Option R :=
  (keyOf ks kag key).bind fun k =>
  match m with
  | .mp r =>
    match σ[r]? with
    | some (.map ka va es) => bif ka == kag then (posOf ks k es).bind fun p =>
        match p with
        | some i => (es[i]?).bind fun e => (packD va e.2).bind fun d => K (.tup [d, .v (.int .i64 i)]) (σ.set r (.map ka va (es.set i (k, e.2))))
        | none => bif va == zag then (packD va (z.map ofV)).bind fun d => K (.tup [d, .v (.int .i64 es.length)]) (σ.set r (.map ka va (es ++ [(k, z.map ofV)]))) else none
      else none
    | _ => none
  | _ => none
def esK (m stamp x : D) (σ : Sto) (K : Sto → Option R) : Option R :=
  natOfK stamp fun i => x.cells?.bind fun xc =>
  match m with
  | .mp r =>
    match σ[r]? with
    | some (.map ka va es) => bif va == isAggD x then (es[i]?).bind fun e => K (σ.set r (.map ka va (es.set i (e.1, xc)))) else none
    | _ => none
  | _ => none
def apZK (m b : Nat) (z : List V) (s x : D) (σ : Sto) (k : D × Sto → Option R) : Option R := natOfK x fun n => appendToK m b s (List.replicate n z) σ k
end hand

section ev
variable [Globs] (M : Mode) (c : CallerK) {R : Type}

def parts (env : Env) : List (Nat × Operand) → Option (List (Nat × D))
  | [] => some []
  | (i, x) :: ps => (operand env x).bind fun d => (parts env ps).bind fun r => some ((i, d) :: r)

def evCallK (f : FuncId) (args : List D) (σ : Sto) (K : D → Sto → Foot → Option R) : Option R :=
  (bif M.byRef f then fun (q : List D → List Nat → Option R) => q args [] else fun q => borrowsK σ args q) fun args' lent =>
  (reach σ 1000 (refsDs args') []).bind fun live =>
  (rowsAt σ live).bind fun rows =>
  c f (renDs (fun q => idxOf q live) args') (rows.map (renRow fun q => idxOf q live)) fun d0 σ0 =>
  bif !(lentOk lent live d0 σ0) then none else
  K (renD (fun j => (live[j]?).getD (σ.length + (j - live.length))) d0) (evCall.setRows σ live (σ0.map (renRow fun j => (live[j]?).getD (σ.length + (j - live.length))))) (rd (refsDs args) ++ wr live)

/-- A call of a function's value. -/
def evVal (f : D) (args : List D) (σ : Sto) (K : D → Sto → Foot → Option R) : Option R :=
  match f with
  | .v (.fn f) => bif f == yid then none else evCallK M c f args σ K
  | .clo f a b => bif f == yid then none else evCallK M c f (a ++ args ++ b) σ K
  | .yl r => evCallK M c yid (.yl r :: args) σ K
  | _ => none

def evBuiltin (b : Builtin) (ts : List TypeId) (args : List D) (σ : Sto) (K : D → Sto → Foot → Option R) : Option R :=
  match b, ts, args with
  | .len, [t], [x] =>
    (M.P.underlying t).bind fun d =>
    match d with
    | .array n _ => K (.v (.int .i64 n)) σ []
    | .slice _ => (lenSl x).bind fun d => K d σ []
    | .string => (lenStr x).bind fun d => K d σ []
    | .map _ _ => (lenMap x σ).bind fun d => K d σ (rd (rowsOf x))
    | _ => none
  | .cap, [t], [x] =>
    (M.P.underlying t).bind fun d =>
    match d with
    | .slice _ => (capSl x).bind fun d => K d σ []
    | _ => none
  | .append, [t, t2], [s, x] => (elem? M.P t).bind fun e => (size? M.P e).bind fun m => (bytes? M.P e).bind fun b => (zero? M.P e).bind fun z =>
      bif !(z.length == m) then none else
      (M.P.underlying t2).bind fun d =>
      match d with
      | .int _ => apZK m b z s x σ fun r => K r.1 r.2 (wr (refsD s ++ refsD x))
      | _ => apK m b s x σ fun r => K r.1 r.2 (apFoot s x)
  | .clear, [t], [x] => (elem? M.P t).bind fun e => (size? M.P e).bind fun m => (zero? M.P e).bind fun z => clearK m z x σ fun d σ' => K d σ' (wr (rowsOf x))
  | .min, _, d :: l => (minmax false d l).bind fun d => K d σ []
  | .max, _, d :: l => (minmax true d l).bind fun d => K d σ []
  | _, _, _ => none

def optOperand (env : Env) : Option Operand → Option (Option D)
  | none => some none
  | some x => (operand env x).bind fun d => some (some d)

/-- A pointer's own method. -/
def methOf (P : Program) (t : TypeId) (name : String) : Option FuncId := (P.info? t).bind fun i => (i.methods.find? fun m => m.name == name).bind fun m =>
  bif isNil m.path.toList then
    match m.func with
    | some (f, true) => (P.underlying t).bind fun d => match d with | .pointer _ => some f | _ => none
    | _ => none
  else none

def evOp (o : Oper) (env : Env) (σ : Sto) (K : D → Sto → Foot → Option R) : Option R :=
  match o.op with
  | .move x | .assign x => (operand env x).bind fun d => K d σ []
  | .pick x a b => (operand env x).bind fun x => (operand env a).bind fun a => (operand env b).bind fun b => (pick x a b).bind fun d => K d σ []
  | .alloc t => (zero? M.P t).bind fun z => K (.ptr σ.length 0) (σ ++ [.box t (z.map .v)]) []
  | .box t x => (operand env x).bind fun d => d.cells?.bind fun cs => K (.ptr σ.length 0) (σ ++ [.box t cs]) []
  | .build t ps => (parts env ps.toList).bind fun ps => (zero? M.P t).bind fun z => (M.P.underlying t).bind fun d =>
    match d with
    | .struct fs => (places M.P fs.toList).bind fun pl => (bu pl z ps).bind fun d => K d σ []
    | .array _ e => (size? M.P e).bind fun n => (buA n z ps).bind fun d => K d σ []
    | _ => none
  | .buildSlice t n ps => (parts env ps.toList).bind fun ps => (elem? M.P t).bind fun e => (size? M.P e).bind fun s => (zero? M.P e).bind fun z =>
    (bs s n z ps).bind fun d => K d σ []
  | .load t a => (operand env a).bind fun a => (size? M.P t).bind fun n => (isAgg? M.P t).bind fun ag => ldK n ag (fun xs k => M.can t xs k) a σ fun d => K d σ (rd (rowsOf a))
  | .store t a x => (operand env a).bind fun a => (operand env x).bind fun x => (size? M.P t).bind fun n => stK M n a x σ fun σ' => K .undef σ' (wr (rowsOf a ++ refsD x))
  | .nilCheck x => (operand env x).bind fun x => (nc x).bind fun d => K d σ []
  | .binOp op t x y _ => (operand env x).bind fun x => (operand env y).bind fun y =>
    match y with
    | .v .nils => (M.P.underlying t).bind fun td =>
      match td with
      | .slice _ => (isNilSl x).bind fun b => (eqOp op b).bind fun d => K d σ []
      | _ => none
    | .agg ys => (M.P.underlying t).bind fun td =>
      match td with
      | .array n e => (M.P.underlying e).bind fun ed =>
        match ed with
        | .int _ => bif Nat.beq n 2 && size? M.P e == some 1 then (arr2 x ys).bind fun b => (eqOp op b).bind fun d => K d σ [] else none
        | _ => none
      | _ => boK (plainKinds M.P 10 t) (isAgg? M.P t == some true) op x (.agg ys) fun d => K d σ []
    | y => boK (plainKinds M.P 10 t) (isAgg? M.P t == some true) op x y fun d => K d σ []
  | .unOp op _ x => (operand env x).bind fun x => (unOp op x).bind fun d => K d σ []
  | .convert s d x => (operand env x).bind fun x => (M.P.underlying s).bind fun sd => (M.P.underlying d).bind fun d =>
    match sd, d with
    | .slice e, .string => (M.P.underlying e).bind fun ed =>
      match ed with
      | .int .u8 => (cvS x σ).bind fun d => K d σ (rd (refsD x))
      | _ => none
    | .string, .slice e => (M.P.underlying e).bind fun ed =>
      match ed with
      | .int .u8 => (cvB x).bind fun d => K d σ []
      | _ => none
    | _, d => (cv d x).bind fun d => K d σ []
  | .makeFunc (.func f) a b => (operands env a.toList).bind fun a => (operands env b.toList).bind fun b =>
    match a, b with
    | [], [] => K (.v (.fn f)) σ []
    | a, b => K (.clo f a b) σ []
  | .makeMap t r => (M.P.underlying t).bind fun d =>
    match d, r with
    | .map k e, none => (isAgg? M.P k).bind fun ka => (isAgg? M.P e).bind fun va => K (.mp σ.length) (σ ++ [.map ka va []]) []
    | _, _ => none
  | .insert t m k x | .mapUpdate t m k x => (operand env m).bind fun m => (operand env k).bind fun k => (operand env x).bind fun x =>
    (M.P.underlying t).bind fun d =>
    match d with
    | .map kt _ => (plainKinds M.P 10 kt).bind fun ks => (isAgg? M.P kt).bind fun kag => muK ks kag m k x σ fun σ' => K .undef σ' (wr (rowsOf m ++ refsD x))
    | _ => none
  | .makeSlice t l n => (operand env l).bind fun l => (operand env n).bind fun n => (elem? M.P t).bind fun e => (size? M.P e).bind fun m => (bytes? M.P e).bind fun b => (zero? M.P e).bind fun z =>
    msK m b z l n σ fun r => K r.1 r.2 []
  | .slice t x lo hi mx => (operand env x).bind fun x => (optOperand env lo).bind fun lo => (optOperand env hi).bind fun hi => (optOperand env mx).bind fun mx =>
    (M.P.underlying t).bind fun d =>
    match d, hi, mx with
    | .string, hi, none => sliceStrK x lo hi fun d => K d σ []
    | .slice e, hi, none => (size? M.P e).bind fun s => sliceSlK s x lo hi σ fun d => K d σ (rd (rowsOf x))
    | .slice e, some hi, some mx => (size? M.P e).bind fun _ => slice3K x lo hi mx fun d => K d σ []
    | _, _, _ => none
  | .fieldAddr t x f => (operand env x).bind fun x => (field? M.P t f).bind fun fl => (size? M.P fl.type).bind fun n => bif n == 0 then none else (fa fl.offset x).bind fun d => K d σ []
  | .field t x f => (operand env x).bind fun x => (field? M.P t f).bind fun fl => (size? M.P fl.type).bind fun n => (isAgg? M.P fl.type).bind fun ag =>
    (fv fl.offset n ag x).bind fun d => K d σ []
  | .indexAddr t x i => (operand env x).bind fun x => (operand env i).bind fun i => (M.P.underlying t).bind fun d =>
    match d with
    | .array n e => (size? M.P e).bind fun s => iaAK n s x i fun d => K d σ []
    | .slice e => (size? M.P e).bind fun s => iaK s x i fun d => K d σ []
    | _ => none
  | .index t x i => (operand env x).bind fun x => (operand env i).bind fun i => (M.P.underlying t).bind fun d =>
    match d with
    | .string => ixStrK x i fun d => K d σ []
    | .array n e => (size? M.P e).bind fun s => (isAgg? M.P e).bind fun ag => (ixA n s ag x i).bind fun d => K d σ []
    | _ => none
  | .lookup t m k ok => (operand env m).bind fun m => (operand env k).bind fun k => (M.P.underlying t).bind fun d =>
    match d with
    | .map kt e => (plainKinds M.P 10 kt).bind fun ks => (isAgg? M.P kt).bind fun kag => (zero? M.P e).bind fun z => (zeroAg? M.P e).bind fun ag =>
        lkK ks kag z ag m k ok σ fun d => K d σ (rd (rowsOf m))
    | _ => none
  | .range t x => (operand env x).bind fun x => (M.P.underlying t).bind fun d =>
    match d with
    | .map _ _ => (rgOp x σ).bind fun r => K r.1 r.2 (wr (rowsOf x))
    | _ => none
  | .next x false => (operand env x).bind fun x => (nx x σ).bind fun r => K r.1 r.2.1 (wr [r.2.2.1, r.2.2.2])
  | .mapEntry t m k => (operand env m).bind fun m => (operand env k).bind fun k => (M.P.underlying t).bind fun d =>
    match d with
    | .map kt e => (plainKinds M.P 10 kt).bind fun ks => (isAgg? M.P kt).bind fun kag => (zero? M.P e).bind fun z => (zeroAg? M.P e).bind fun ag =>
        meK ks kag z ag m k σ fun d σ' => K d σ' (wr (rowsOf m))
    | _ => none
  | .entryStore _ m k x => (operand env m).bind fun m => (operand env k).bind fun k => (operand env x).bind fun x => esK m k x σ fun σ' => K .undef σ' (wr (rowsOf m))
  | .entry x => (operand env x).bind fun x => entAtK x σ fun dk dv r m => K (.tup [dk, dv]) σ (rd [r, m])
  | .extract x i => (operand env x).bind fun x => (ex x i).bind fun d => K d σ []
  | .call k =>
    match k.callee with
    | .builtin b => (operands env k.args.toList).bind fun args => evBuiltin M b k.argTypes.toList args σ K
    | .value f => (operand env f).bind fun f => (operands env k.args.toList).bind fun args => evVal M c f args σ K
    | .invoke r name => (operand env r).bind fun r => (operands env k.args.toList).bind fun args =>
      match r with
      | .ifc t d => (methOf M.P t name).bind fun f => bif f == yid then none else evCallK M c f (d :: args) σ K
      | _ => none
  | .makeInterface t x => (operand env x).bind fun x => (M.P.underlying t).bind fun d =>
    match d with
    | .interface _ => none
    | _ => K (.ifc t x) σ []
  | _ => none

def guardTmp (ops : Array Oper) (j : Nat) : Option Nat := (ops[j]?).bind fun o => o.dst

/-- A guard's value: yes, no, or none (what it hangs on was itself left out). -/
def onGuard (d : D) (yes no skip : Option R) : Option R :=
  match d with
  | .v (.bool t) => bif t then yes else no
  | .tup [] => skip
  | _ => none

def evOps (ops : Array Oper) : List Oper → Env → Sto → List Foot → (Env → Sto → List Foot → Option R) → Option R
  | [], env, σ, fs, K => K env σ fs
  | o :: rest, env, σ, fs, K =>
    match o.guard with
    | none => evOp M c o env σ fun d σ' f => M.fd d fun d => M.hs σ' fun σ' => M.hf (f ++ made σ σ') fun f => fPut env o.dst d fun env' => evOps ops rest env' σ' (fs ++ [f]) K
    | some (j, b) =>
      (guardTmp ops j).bind fun g =>
      onGuard (env.get g)
        (bif b then evOp M c o ((g, .v (.bool true)) :: env) σ fun d σ' f => M.fd d fun d => M.hs σ' fun σ' => M.hf (f ++ made σ σ') fun f => fPut ((g, .v (.bool true)) :: env) o.dst d fun env' => evOps ops rest env' σ' (fs ++ [f]) K
          else fPut ((g, .v (.bool true)) :: env) o.dst (.tup []) fun env' => evOps ops rest env' σ (fs ++ [[]]) K)
        (bif b then fPut ((g, .v (.bool false)) :: env) o.dst (.tup []) fun env' => evOps ops rest env' σ (fs ++ [[]]) K
          else evOp M c o ((g, .v (.bool false)) :: env) σ fun d σ' f => M.fd d fun d => M.hs σ' fun σ' => M.hf (f ++ made σ σ') fun f => fPut ((g, .v (.bool false)) :: env) o.dst d fun env' => evOps ops rest env' σ' (fs ++ [f]) K)
        (fPut env o.dst (.tup []) fun env' => evOps ops rest env' σ (fs ++ [[]]) K)

def evRegion (ops : Array Oper) (draw : Bool) (env : Env) (σ : Sto) (K : Env → Sto → Option R) : Option R :=
  evOps M c ops ops.toList env σ [] fun env σ fs => M.fs σ fun σ =>
    bif draw then (bif quiet (Region.before ops) (loud fs) then K env σ else none) else K env σ

abbrev Out := Ex × Env × Sto
def stop (ts : List Nat) (e : Ex) (env : Env) (σ : Sto) : Option Out := some (e, env.keep ts, σ)

/-- A condition. -/
def onBool (d : D) (yes no : Option R) : Option R :=
  match d with
  | .v (.bool t) => bif t then yes else no
  | _ => none

/-- What a loop's head keeps: the rows that came in (k of them) and those that the variables lead to. -/
def head (k : Nat) (env : Env) (σ : Sto) : Option (Env × Sto) :=
  (reach σ 1000 (List.range k ++ refsDs (env.map (·.2))) []).bind fun live => (rowsAt σ live).bind fun rows =>
    some (env.map fun p => (p.1, renD (fun q => idxOf q live) p.2), rows.map (renRow fun q => idxOf q live))

def onEx (e : Ex) (normal : Option R) (other : Ex → Option R) : Option R :=
  match e with
  | .normal => normal
  | e => other e

def inBlock (id : Nat) (e : Ex) (k : Ex → Option R) : Option R :=
  match e with
  | .exit i => bif i == id then k .normal else k (.exit i)
  | e => k e

def loopN (k : Nat) (body : Env → Sto → Option Out) : Nat → Env → Sto → Option Out
  | 0, _, _ => none
  | n + 1, env, σ => (head k env σ).bind fun h => (body h.1 h.2).bind fun o =>
    onEx o.1 (loopN k body n o.2.1 o.2.2) fun e => some (e, o.2.1, o.2.2)

abbrev Looper := Nat → Nat → (Env → Sto → Option Out) → Env → Sto → Option Out

def firstRegion : Code → Nat
  | .region id _ _ => id
  | .seq a _ => firstRegion a
  | .block _ b => firstRegion b
  | .loop b => firstRegion b
  | _ => 0

variable (lp : Looper) (hk : Nat → Option (List Nat)) (k0 : Nat)

def condTmp : Operand → Nat
  | .tmp t => t
  | _ => 0

/-- A function's value: the function, and what it is bound to. -/
def cloOf : D → Option (FuncId × List D × List D)
  | .v (.fn f) => some (f, [], [])
  | .clo f a b => some (f, a, b)
  | _ => none

def evC : Code → {R : Type} → Env → Sto → (Ex → Env → Sto → Option R) → Option R
  | .skip, _, env, σ, k => k .normal env σ
  | .region id ops draw, _, env, σ, k =>
    match hk (3 * id) with
    | none => evRegion M c ops draw env σ fun env σ => k .normal env σ
    | some ts => (evRegion M c ops draw env σ fun env σ => stop ts .normal env σ).bind fun o => k .normal o.2.1 o.2.2
  | .seq a b, _, env, σ, k => evC a env σ fun e env σ => onEx e (evC b env σ k) fun e => k e env σ
  | .cond x a b, _, env, σ, k =>
    (operand env x).bind fun d =>
      match hk (3 * condTmp x + 1) with
      | none => onBool d (evC a env σ k) (evC b env σ k)
      | some ts => (onBool d (evC a env σ (stop ts)) (evC b env σ (stop ts))).bind fun o => k o.1 o.2.1 o.2.2
  | .block id b, _, env, σ, k =>
    match hk (300000 + 3 * id) with
    | none => evC b env σ fun e env σ => inBlock id e fun e => k e env σ
    | some ts => (evC b env σ (stop ts)).bind fun o => inBlock id o.1 fun e => k e o.2.1 o.2.2
  | .loop b, _, env, σ, k =>
    (hk (3 * firstRegion b + 2)).bind fun ts =>
      (lp (firstRegion b) k0 (fun env σ => evC b env σ (stop ts)) (env.keep ts) σ).bind fun o => k o.1 o.2.1 o.2.2
  | .rangeFunc g ps as b, _, env, σ, k =>
    (operand env g).bind fun gd => (cloOf gd).bind fun f => bif f.1 == yid then none else
    evCallK M c f.1 (f.2.1 ++ .yl σ.length :: f.2.2) (σ ++ [.lp false hk ps.toList as b (env.map fun p => (p.1, env.get p.1))]) fun _ σ' _ =>
    match σ'[σ.length]? with
    | some (.lp false hk' ps' as' b' E') => k .normal env (σ'.set σ.length (.lp true hk' ps' as' b' E'))
    | _ => none
  | .exit id, _, env, σ, k => k (.exit id) env σ
  | .label _, _, env, σ, k => k .normal env σ
  | .ret, _, env, σ, k => k .ret env σ
  | _, _, _, _, _ => none

end ev

def params : Nat → List D → Env
  | _, [] => []
  | i, d :: ds => (i, d) :: params (i + 1) ds

def resultsOf (P : Program) (env : Env) (σ : Sto) : List ResultVar → Option (List D)
  | [] => some []
  | .tmp t :: rs => (resultsOf P env σ rs).bind fun l => some (env.get t :: l)
  | .cell a t :: rs => (size? P t).bind fun n => (isAgg? P t).bind fun ag => (ld n ag (env.get a) σ).bind fun d => (resultsOf P env σ rs).bind fun l => some (d :: l)

def noExit {R : Type} (e : Ex) (k : Option R) : Option R :=
  match e with
  | .exit _ => none
  | _ => k

/-- What is asked of a body once and for all: temporaries below n; in regions whose order is drawn, 'drawOk'. -/
def codeOk (n : Nat) : Code → Bool
  | .region _ ops draw => ops.toList.all (fun o => match o.dst with | none => true | some d => decide (d < n)) && (!draw || drawOk ops)
  | .seq a b => codeOk n a && codeOk n b
  | .cond _ a b => codeOk n a && codeOk n b
  | .block _ b => codeOk n b
  | .loop b => codeOk n b
  | .rangeFunc _ ps as b => ps.toList.all (fun p => decide (p < n)) && codeOk n as && codeOk n b
  | _ => true

def fnOk (fn : Func) (body : Code) : Bool := !(fn.name == "runtime.NumGoroutine") && codeOk fn.ntmps body

variable [Globs]
def evBodyK (M : Mode) (c : CallerK) (lp : Looper) (f : FuncId) (args : List D) (σ : Sto) {R : Type} (K : D → Sto → Option R) : Option R :=
  (M.P.funcs[f]?).bind fun fn => fn.body.bind fun body =>
    M.fds args fun args => M.fs σ fun σ =>
    evC M c lp (M.hints f) σ.length body (params 0 args) σ fun e env σ' =>
      noExit e ((resultsOf M.P env σ' fn.results.toList).bind fun res => finishK (M.keep f) σ.length res σ' fun d σ => M.fd d fun d => M.fs σ fun σ => K d σ)
def evBody (M : Mode) (c : CallerK) (lp : Looper) (f : FuncId) (args : List D) (σ : Sto) : Option (D × Sto) := evBodyK M c lp f args σ fun d σ => some (d, σ)

/-- A round: the arguments go to the record's parameters; the assignment; the body. -/
def evYl (M : Mode) (c : CallerK) (lp : Looper) (args : List D) (σ : Sto) {R : Type} (K : D → Sto → Option R) : Option R :=
  match args with
  | .yl r :: xs =>
    match σ[r]? with
    | some (.lp false hk ps as b E) =>
      bif noRange as && noRange b && ps.length == xs.length then
        evC M c lp hk σ.length as ((ps.zip xs).foldl (fun E p => p :: E) E) σ fun e E2 σ2 =>
          onEx e (match σ2[r]? with
            | some (.lp false hk2 ps2 as2 b2 E3) => evC M c lp hk σ.length b E2 (σ2.set r (.lp true hk2 ps2 as2 b2 E3)) fun e _ σ3 =>
              onEx e (match σ3[r]? with
                | some (.lp true hk4 ps4 as4 b4 E4) => finishK false σ.length [.v (.bool true)] (σ3.set r (.lp false hk4 ps4 as4 b4 E4)) fun d σ => M.fs σ fun σ => K d σ
                | _ => none) fun _ => none
            | _ => none) fun _ => none
      else none
    | _ => none
  | _ => none

/-- A summary that hands on what it finds. -/
abbrev SumF := List D → Sto → {R : Type} → (D → Sto → Option R) → Option R

def ev (M : Mode) (sums : FuncId → Option SumF) : Nat → CallerK
  | 0, _, _, _, _, _ => none
  | n + 1, f, args, σ, _, K =>
    bif f == yid then evYl M (ev M sums n) (fun _ k body => loopN k body n) args σ K else
    match sums f with
    | some s => s args σ K
    | none => evBodyK M (ev M sums n) (fun _ k body => loopN k body n) f args σ K

end Go.Ab

/- Forcing changes nothing. -/
namespace Go.Ab
open Go

theorem fNat_eq {R : Type} (n : Nat) (k : Nat → R) : fNat n k = k n := by cases n <;> rfl
theorem fBool_eq {R : Type} (b : Bool) (k : Bool → R) : fBool b k = k b := by cases b <;> rfl
theorem fInt_eq {R : Type} (i : Int) (k : Int → R) : fInt i k = k i := by cases i <;> simp only [fInt, fNat_eq]
theorem fTag_eq {R : Type} (t : Tag) (k : Tag → R) : fTag t k = k t := by cases t <;> rfl

mutual
theorem fV_eq {R : Type} : ∀ (v : V) (k : V → R), fV v k = k v
  | .bool b, k => by simp only [fV, fBool_eq]
  | .int ik n, k => by simp only [fV, fInt_eq]
  | .str s, k => by simp only [fV]
  | .nilp, k => by simp only [fV]
  | .nilf, k => by simp only [fV]
  | .nilm, k => by simp only [fV]
  | .nils, k => by simp only [fV]
  | .nili, k => by simp only [fV]
  | .fn f, k => by simp only [fV, fNat_eq]
  | .sl n xs, k => by simp only [fV, fNat_eq, fVss_eq xs]
theorem fVs_eq {R : Type} : ∀ (v : List V) (k : List V → R), fVs v k = k v
  | [], k => by simp only [fVs]
  | v :: vs, k => by simp only [fVs, fV_eq v, fVs_eq vs]
theorem fVss_eq {R : Type} : ∀ (v : List (List V)) (k : List (List V) → R), fVss v k = k v
  | [], k => by simp only [fVss]
  | v :: vs, k => by simp only [fVss, fVs_eq v, fVss_eq vs]
end

mutual
theorem fD_eq {R : Type} : ∀ (d : D) (k : D → R), fD d k = k d
  | .v x, k => by simp only [fD, fV_eq]
  | .sl t n xs, k => by simp only [fD, fTag_eq, fNat_eq, fVss_eq]
  | .ds n cs, k => by simp only [fD, fNat_eq, fDs_eq cs]
  | .dp cs, k => by simp only [fD, fDs_eq cs]
  | .pp t cs, k => by simp only [fD, fTag_eq, fVs_eq]
  | .ptr r o, k => by simp only [fD, fNat_eq]
  | .ep r g i o, k => by simp only [fD, fNat_eq]
  | .rs r g n off len, k => by simp only [fD, fNat_eq]
  | .mp r, k => by simp only [fD, fNat_eq]
  | .yl r, k => by simp only [fD, fNat_eq]
  | .clo f a b, k => by simp only [fD, fNat_eq, fDs_eq a, fDs_eq b]
  | .ifc t d, k => by simp only [fD, fNat_eq, fD_eq d]
  | .agg cs, k => by simp only [fD, fDs_eq cs]
  | .tup cs, k => by simp only [fD, fDs_eq cs]
  | .val u, k => by simp only [fD]
  | .undef, k => by simp only [fD]
theorem fDs_eq {R : Type} : ∀ (d : List D) (k : List D → R), fDs d k = k d
  | [], k => by simp only [fDs]
  | d :: ds, k => by simp only [fDs, fD_eq d, fDs_eq ds]
end

theorem fEnts_eq {R : Type} : ∀ (es : List (List V × List D)) (k : List (List V × List D) → R), fEnts es k = k es
  | [], k => by simp only [fEnts]
  | (a, b) :: es, k => by simp only [fEnts, fVs_eq, fDs_eq, fEnts_eq es]

theorem fEntsV_eq {R : Type} : ∀ (es : List (List V × List V)) (k : List (List V × List V) → R), fEntsV es k = k es
  | [], k => by simp only [fEntsV]
  | (a, b) :: es, k => by simp only [fEntsV, fVs_eq, fEntsV_eq es]

theorem fEnvD_eq {R : Type} : ∀ (E : List (Nat × D)) (k : List (Nat × D) → R), fEnvD E k = k E
  | [], k => by simp only [fEnvD]
  | (t, d) :: E, k => by simp only [fEnvD, fNat_eq, fD_eq, fEnvD_eq E]

theorem fNats_eq {R : Type} : ∀ (es : List Nat) (k : List Nat → R), fNats es k = k es
  | [], k => by simp only [fNats]
  | a :: es, k => by simp only [fNats, fNat_eq, fNats_eq es]

theorem fRow_eq {R : Type} (r : Row) (k : Row → R) : fRow r k = k r := by cases r <;> simp only [fRow, fDs_eq, fNat_eq, fVss_eq, fBool_eq, fEnts_eq, fEntsV_eq, fNats_eq, fEnvD_eq]

theorem fSto_eq {R : Type} : ∀ (σ : Sto) (k : Sto → R), fSto σ k = k σ
  | [], k => by simp only [fSto]
  | r :: rs, k => by simp only [fSto, fRow_eq, fSto_eq rs]

theorem hV_eq {R : Type} (v : V) (k : V → R) : hV v k = k v := by cases v <;> rfl
mutual
theorem hD_eq {R : Type} : ∀ (d : D) (k : D → R), hD d k = k d
  | .v x, k => by simp only [hD, hV_eq]
  | .sl t n xs, k => by simp only [hD]
  | .ds n cs, k => by simp only [hD, hDs_eq cs]
  | .dp cs, k => by simp only [hD, hDs_eq cs]
  | .pp t cs, k => by simp only [hD]
  | .ptr r o, k => by simp only [hD]
  | .ep r g i o, k => by simp only [hD]
  | .rs r g n off len, k => by simp only [hD]
  | .mp r, k => by simp only [hD]
  | .yl r, k => by simp only [hD]
  | .clo f a b, k => by simp only [hD, hDs_eq a, hDs_eq b]
  | .ifc t d, k => by simp only [hD, hD_eq d]
  | .agg cs, k => by simp only [hD, hDs_eq cs]
  | .tup cs, k => by simp only [hD, hDs_eq cs]
  | .val u, k => by simp only [hD]
  | .undef, k => by simp only [hD]
theorem hDs_eq {R : Type} : ∀ (d : List D) (k : List D → R), hDs d k = k d
  | [], k => by simp only [hDs]
  | d :: ds, k => by simp only [hDs, hD_eq d, hDs_eq ds]
end
theorem hRow_eq {R : Type} (r : Row) (k : Row → R) : hRow r k = k r := by cases r <;> simp only [hRow, hDs_eq]
theorem hSto_eq {R : Type} : ∀ (σ : Sto) (k : Sto → R), hSto σ k = k σ
  | [], k => by simp only [hSto]
  | r :: rs, k => by simp only [hSto, hRow_eq, hSto_eq rs]
theorem hFoot_eq {R : Type} : ∀ (f : Foot) (k : Foot → R), hFoot f k = k f
  | [], k => by simp only [hFoot]
  | (a, b) :: es, k => by simp only [hFoot, fBool_eq, hFoot_eq es]
theorem fd_eq {R : Type} (M : Mode) (d : D) (k : D → R) : M.fd d k = k d := by unfold Mode.fd; cases M.frc <;> cases M.shp <;> simp [fD_eq, hD_eq]
theorem fds_eq {R : Type} (M : Mode) (d : List D) (k : List D → R) : M.fds d k = k d := by unfold Mode.fds; cases M.frc <;> cases M.shp <;> simp [fDs_eq, hDs_eq]
theorem fs_eq {R : Type} (M : Mode) (σ : Sto) (k : Sto → R) : M.fs σ k = k σ := by unfold Mode.fs; cases M.frc <;> cases M.shp <;> simp [fSto_eq, hSto_eq]
theorem hs_eq {R : Type} (M : Mode) (σ : Sto) (k : Sto → R) : M.hs σ k = k σ := by unfold Mode.hs; cases M.shp <;> simp [hSto_eq]
theorem hVs_eq {R : Type} : ∀ (v : List V) (k : List V → R), hVs v k = k v
  | [], k => by simp only [hVs]
  | v :: vs, k => by simp only [hVs, hV_eq, hVs_eq vs]
theorem hvs_eq {R : Type} (M : Mode) (f : List V) (k : List V → R) : M.hvs f k = k f := by unfold Mode.hvs; cases M.shp <;> simp [hVs_eq]
theorem hf_eq {R : Type} (M : Mode) (f : Foot) (k : Foot → R) : M.hf f k = k f := by unfold Mode.hf; cases M.shp <;> simp [hFoot_eq]
theorem fPut_eq {R : Type} (env : Env) (dst : Option Nat) (d : D) (k : Env → R) : fPut env dst d k = k (env.put dst d) := by cases dst <;> rfl


/-! ### Handing on -/
section hand
variable {R : Type}
theorem bif_bind {α β : Type} (b : Bool) (x : Option α) (k : α → Option β) : (bif b then x else none).bind k = bif b then x.bind k else none := by cases b <;> rfl
theorem bif_bind' {α β : Type} (b : Bool) (x : Option α) (k : α → Option β) : (bif b then none else x).bind k = bif b then none else x.bind k := by cases b <;> rfl

theorem rowAtK_eq (σ : Sto) (r g : Nat) (k : List (List V) → Option R) : rowAtK σ r g k = (rowAt σ r g).bind k := by
  unfold rowAtK rowAt
  split <;> simp [bif_bind]
theorem mutAtK_eq (σ : Sto) (r g : Nat) (k : List (List V) → Option R) : mutAtK σ r g k = (mutAt σ r g).bind k := by
  unfold mutAtK mutAt
  split <;> simp [bif_bind]
theorem natOfK_eq (d : D) (k : Nat → Option R) : natOfK d k = (natOf d).bind k := by
  unfold natOfK natOf
  split <;> simp [bif_bind]

theorem boundOfK_eq (n : Nat) (o : Option D) (k : Nat → Option R) : boundOfK n o k = (boundOf n o).bind k := by
  cases o <;> simp [boundOfK, boundOf, natOfK_eq]

theorem intOpK_eq (op : BinOp) (kd : IntKind) (a b : Int) (k : D → Option R) : intOpK op kd a b k = (intOp op kd a b).bind k := by
  cases op <;> simp [intOpK, intOp, bif_bind']

theorem shiftOpK_eq (op : BinOp) (kd : IntKind) (a b : Int) (k : D → Option R) : shiftOpK op kd a b k = (shiftOp op kd a b).bind k := by
  unfold shiftOpK shiftOp
  rw [bif_bind']
  cases op <;> rfl

theorem strOpK_eq (op : BinOp) (x y : ByteArray) (k : D → Option R) : strOpK op x y k = (strOp op x y).bind k := by
  cases op <;> simp [strOpK, strOp, bif_bind]

theorem boK_eq (ks : Option (List CK)) (ag : Bool) (op : BinOp) (x y : D) (k : D → Option R) : boK ks ag op x y k = (bo ks ag op x y).bind k := by
  unfold boK bo
  cases isShift op with
  | true =>
    simp only [cond_true]
    unfold boShift
    split
    · simp [shiftOpK_eq]
    · rfl
  | false =>
    simp only [cond_false]
    split
    · simp [boRest, bif_bind, intOpK_eq]
    · simp [boRest, strOpK_eq]
    · rfl

theorem slice3K_eq (x : D) (lo : Option D) (hi mx : D) (k : D → Option R) : slice3K x lo hi mx k = (slice3 x lo hi mx).bind k := by
  unfold slice3K slice3
  simp [natOfK_eq, boundOfK_eq, Option.bind_assoc, bif_bind]

theorem sliceStrK_eq (x : D) (lo hi : Option D) (k : D → Option R) : sliceStrK x lo hi k = (sliceStr x lo hi).bind k := by
  unfold sliceStrK sliceStr
  split <;> simp [rowAtK_eq, boundOfK_eq, Option.bind_assoc, bif_bind]

theorem sliceSlK_eq (s : Nat) (x : D) (lo hi : Option D) (σ : Sto) (k : D → Option R) : sliceSlK s x lo hi σ k = (sliceSl s x lo hi σ).bind k := by
  unfold sliceSlK sliceSl
  split <;> simp [rowAtK_eq, boundOfK_eq, Option.bind_assoc, bif_bind]

theorem iaK_eq (s : Nat) (x i : D) (k : D → Option R) : iaK s x i k = (ia s x i).bind k := by
  unfold iaK ia
  rw [natOfK_eq, Option.bind_assoc]
  congr 1
  funext n
  cases x <;> simp [bif_bind, Option.bind_assoc]

theorem iaAK_eq (n s : Nat) (x i : D) (k : D → Option R) : iaAK n s x i k = (iaA n s x i).bind k := by
  unfold iaAK iaA
  rw [natOfK_eq, Option.bind_assoc]
  congr 1
  funext j
  cases x <;> simp [bif_bind]

theorem ixStrK_eq (x i : D) (k : D → Option R) : ixStrK x i k = (ixStr x i).bind k := by
  unfold ixStrK ixStr
  rw [natOfK_eq, Option.bind_assoc]
  congr 1
  funext j
  split <;> simp [Option.bind_assoc]

theorem lkPosK_eq (ks : List CK) (kag ag : Bool) (m : D) (k : List V) (σ : Sto) (K : Option (List D) → Option R) : lkPosK ks kag ag m k σ K = (lkPos ks kag ag m k σ).bind K := by
  unfold lkPosK lkPos
  split
  · rfl
  · split
    · rw [bif_bind, Option.bind_assoc]
      congr 2
      funext p
      cases p
      · rfl
      · simp [Option.bind_assoc]
    · rfl
  · rfl
theorem lkK_eq (ks : List CK) (kag : Bool) (z : List V) (ag : Bool) (m key : D) (ok : Bool) (σ : Sto) (K : D → Option R) : lkK ks kag z ag m key ok σ K = (lk ks kag z ag m key ok σ).bind K := by
  simp [lkK, lk, lkPosK_eq, Option.bind_assoc]
theorem muK_eq (ks : List CK) (kag : Bool) (m key x : D) (σ : Sto) (K : Sto → Option R) : muK ks kag m key x σ K = (mu ks kag m key x σ).bind K := by
  simp only [muK, mu, Option.bind_assoc]
  congr 1
  funext k
  congr 1
  funext xc
  split
  · split
    · simp [bif_bind, Option.bind_assoc]
    · rfl
  · rfl
theorem entAtK_eq (it : D) (σ : Sto) (K : D → D → Nat → Nat → Option R) : entAtK it σ K = (entAt it σ).bind fun r => K r.1 r.2.1 r.2.2.1 r.2.2.2 := by
  unfold entAtK entAt
  split
  · split
    · split
      · simp [bif_bind, Option.bind_assoc]
      · rfl
    · rfl
  · rfl
theorem meK_eq (ks : List CK) (kag : Bool) (z : List V) (zag : Bool) (m key : D) (σ : Sto) (K : D → Sto → Option R) : meK ks kag z zag m key σ K = (me ks kag z zag m key σ).bind fun r => K r.1 r.2 := by
  simp only [meK, me, Option.bind_assoc]
  congr 1
  funext k
  split
  · split
    · rw [bif_bind, Option.bind_assoc]
      congr 2
      funext p
      cases p
      · simp [bif_bind, Option.bind_assoc]
      · simp [Option.bind_assoc]
    · rfl
  · rfl
theorem esK_eq (m stamp x : D) (σ : Sto) (K : Sto → Option R) : esK m stamp x σ K = (es_ m stamp x σ).bind K := by
  simp only [esK, es_, natOfK_eq, Option.bind_assoc]
  congr 1
  funext k
  congr 1
  funext xc
  split
  · split
    · simp [bif_bind, Option.bind_assoc]
    · rfl
  · rfl
theorem toVK_eq (σ : Sto) (d : D) (k : V → Sto → Option R) : toVK σ d k = (toV σ d).bind fun p => k p.1 p.2 := by
  unfold toVK toV
  split <;> simp [rowAtK_eq, Option.bind_assoc]
theorem toVsK_eq : ∀ (ds : List D) (σ : Sto) (k : List V → Sto → Option R), toVsK ds σ k = (toVs σ ds).bind fun p => k p.1 p.2
  | [], σ, k => rfl
  | d :: ds, σ, k => by simp [toVsK, toVs, toVK_eq, toVsK_eq ds, Option.bind_assoc]
theorem elemsK_eq (n : Nat) (σ : Sto) (d : D) (k : List (List V) → Option R) : elemsK n σ d k = (elems n σ d).bind k := by
  unfold elemsK elems
  split <;> simp [rowAtK_eq, Option.bind_assoc, bif_bind]
theorem elemsWK_eq (n : Nat) (σ : Sto) (d : D) (k : List (List V) → Sto → Option R) : elemsWK n σ d k = (elemsW n σ d).bind fun p => k p.1 p.2 := by
  unfold elemsWK elemsW
  split <;> simp [toVsK_eq, elemsK_eq, Option.bind_assoc, bif_bind]
theorem clearK_eq (m : Nat) (z : List V) (x : D) (σ : Sto) (k : D → Sto → Option R) : clearK m z x σ k = (clear m z x σ).bind fun p => k p.1 p.2 := by
  unfold clearK clear
  split <;> simp [mutAtK_eq, Option.bind_assoc, bif_bind]
theorem borrow1K_eq (σ : Sto) (d : D) (k : D → List Nat → Option R) : borrow1K σ d k = (borrow1 σ d).bind fun p => k p.1 p.2 := by
  unfold borrow1K borrow1
  split <;> simp [rowAtK_eq, Option.bind_assoc]
theorem borrows1K_eq (σ : Sto) : ∀ (ds : List D) (k : List D → List Nat → Option R), borrows1K σ ds k = (borrows1 σ ds).bind fun p => k p.1 p.2
  | [], k => rfl
  | d :: ds, k => by simp [borrows1K, borrows1, borrow1K_eq, borrows1K_eq σ ds, Option.bind_assoc]
theorem borrowK_eq (σ : Sto) (d : D) (k : D → List Nat → Option R) : borrowK σ d k = (borrow σ d).bind fun p => k p.1 p.2 := by
  unfold borrowK borrow
  split <;> simp [borrow1K_eq, borrows1K_eq, Option.bind_assoc]
theorem borrowsK_eq (σ : Sto) : ∀ (ds : List D) (k : List D → List Nat → Option R), borrowsK σ ds k = (borrows σ ds).bind fun p => k p.1 p.2
  | [], k => rfl
  | d :: ds, k => by simp [borrowsK, borrows, borrowK_eq, borrowsK_eq σ ds, Option.bind_assoc]
theorem settleCellK_eq (σ : Sto) (d : D) (k : D → Sto → Option R) : settleCellK σ d k = (settleCell σ d).bind fun p => k p.1 p.2 := by
  unfold settleCellK settleCell
  split <;> simp [rowAtK_eq, Option.bind_assoc]
theorem settleCellsK_eq : ∀ (ds : List D) (σ : Sto) (k : List D → Sto → Option R), settleCellsK ds σ k = (settleCells σ ds).bind fun p => k p.1 p.2
  | [], σ, k => rfl
  | d :: ds, σ, k => by simp [settleCellsK, settleCells, settleCellK_eq, settleCellsK_eq ds, Option.bind_assoc]
theorem settleK_eq (σ : Sto) (d : D) (k : D → Sto → Option R) : settleK σ d k = (settle σ d).bind fun p => k p.1 p.2 := by
  unfold settleK settle
  split <;> simp [settleCellsK_eq, Option.bind_assoc]
theorem settlesK_eq : ∀ (ds : List D) (σ : Sto) (k : List D → Sto → Option R), settlesK ds σ k = (settles σ ds).bind fun p => k p.1 p.2
  | [], σ, k => rfl
  | d :: ds, σ, k => by simp [settlesK, settles, settleK_eq, settlesK_eq ds, Option.bind_assoc]
theorem finishK_eq (b : Bool) (k : Nat) (res : List D) (σ : Sto) (K : D → Sto → Option R) : finishK b k res σ K = (finish b k res σ).bind fun p => K p.1 p.2 := by
  unfold finishK finish settlesB
  cases b <;> simp [settlesK_eq, Option.bind_assoc]

theorem stK_eq (M : Mode) (n : Nat) (a x : D) (σ : Sto) (k : Sto → Option R) : stK M n a x σ k = (st n a x σ).bind k := by
  unfold stK st
  rw [Option.bind_assoc]
  congr 1
  funext cs
  cases (n == cs.length) with
  | false => rfl
  | true =>
    simp only [cond_true]
    split
    · simp only [toVsK_eq, hvs_eq, hs_eq, storeCells, Option.bind_assoc]
      congr 1
      funext p
      split
      · rename_i m g' xs _
        cases (g' == _) with
        | false => rfl
        | true =>
          simp only [cond_true, Option.bind_assoc]
          congr 1
          funext old
          rw [bif_bind]
          rfl
      · rfl
    · rfl

theorem msK_eq (n b : Nat) (z : List V) (len cap : D) (σ : Sto) (k : D × Sto → Option R) : msK n b z len cap σ k = (ms n b z len cap σ).bind k := by
  simp [msK, ms, natOfK_eq, Option.bind_assoc, bif_bind]

theorem appendToK_eq (m b : Nat) (s : D) (ys : List (List V)) (σ : Sto) (k : D × Sto → Option R) : appendToK m b s ys σ k = (appendTo m b s ys σ).bind k := by
  unfold appendToK appendTo
  split
  · simp [bif_bind]
  · cases ys <;> simp [bif_bind]
  · rename_i r g m' off n
    rw [mutAtK_eq, Option.bind_assoc]
    congr 1
    funext xs
    rw [bif_bind]
    congr 1
    cases decide (off + n + ys.length ≤ xs.length) with
    | true => rfl
    | false => cases (off + n == xs.length) <;> rfl
  · rfl

theorem apK_eq (m b : Nat) (s x : D) (σ : Sto) (k : D × Sto → Option R) : apK m b s x σ k = (ap m b s x σ).bind k := by
  simp [apK, ap, elemsWK_eq, appendToK_eq, Option.bind_assoc]


theorem apZK_eq (m b : Nat) (z : List V) (s x : D) (σ : Sto) (k : D × Sto → Option R) : apZK m b z s x σ k = (apZ m b z s x σ).bind k := by
  simp [apZK, apZ, natOfK_eq, appendToK_eq, Option.bind_assoc]
end hand

end Go.Ab

/- How the evaluator's values and rows stand to Go's memory. -/
namespace Go.Ab
open Go

abbrev Sup := Nat → Nat → Prop

structure Loc where
  block : Nat
  off : Nat
  cap : Nat

abbrev at_ (b o : Nat) : Addr := ⟨b, o, none⟩

inductive VR (w : World) (S : Sup) : V → Value → Prop
  | bool (b : Bool) : VR w S (.bool b) (.bool b)
  | int (k : IntKind) (n : Int) : VR w S (.int k n) (.int k n)
  | str (s : ByteArray) : VR w S (.str s) (.string s)
  | nilp : VR w S .nilp (.pointer none)
  | nilf : VR w S .nilf .nilFunc
  | nilm : VR w S .nilm (.map none)
  | nils : VR w S .nils (.slice none 0 0)
  | nili : VR w S .nili .nilIface
  | fn (f : FuncId) : VR w S (.fn f) (.func (.func f) #[] #[])
  | sl (n : Nat) (xs : List (List V)) (a : Option Addr) (b o c : Nat) (us : Nat → Nat → Value)
      (ha : 0 < xs.length → a = some (at_ b o)) (hl : ∀ cs ∈ xs, cs.length = n) (hc : xs.length ≤ c)
      (hs : ∀ i, i < xs.length → ∀ j, j < n → S b (o + i * n + j) ∧ w.cell? (at_ b (o + i * n + j)) = some (us i j))
      (hv : ∀ i cs, xs[i]? = some cs → ∀ j v, cs[j]? = some v → VR w S v (us i j)) : VR w S (.sl n xs) (.slice a xs.length c)

/-- A slice whose own cells lie in T, and what they lead to in S. -/
def SlR (w : World) (T S : Sup) (n : Nat) (xs : List (List V)) (c : Nat) (u : Value) : Prop :=
  ∃ (a : Option Addr) (b o : Nat) (us : Nat → Nat → Value), u = .slice a xs.length c ∧ (0 < xs.length → a = some (at_ b o)) ∧ (∀ cs ∈ xs, cs.length = n) ∧ xs.length ≤ c ∧
    (∀ i, i < xs.length → ∀ j, j < n → T b (o + i * n + j) ∧ w.cell? (at_ b (o + i * n + j)) = some (us i j)) ∧
    (∀ i cs, xs[i]? = some cs → ∀ j v, cs[j]? = some v → VR w S v (us i j))

theorem VR_sl {w : World} {S : Sup} {n : Nat} {xs : List (List V)} {u : Value} : VR w S (.sl n xs) u ↔ ∃ c, SlR w S S n xs c u := by
  constructor
  · intro h
    cases h with
    | sl _ _ a b o c us ha hl hc hs hv => exact ⟨c, a, b, o, us, rfl, ha, hl, hc, hs, hv⟩
  · rintro ⟨c, a, b, o, us, rfl, ha, hl, hc, hs, hv⟩
    exact .sl n xs a b o c us ha hl hc hs hv

/-- A pointer to cells that lie in T. -/
def PpR (w : World) (T S : Sup) (cs : List V) (u : Value) : Prop :=
  ∃ (b o : Nat) (us : Nat → Value), u = .pointer (some (at_ b o)) ∧
    (∀ j, j < cs.length → T b (o + j) ∧ w.cell? (at_ b (o + j)) = some (us j)) ∧ (∀ j v, cs[j]? = some v → VR w S v (us j))

/-- Each of the first n is the value of one cell. -/
def OneC (us : Nat → Value) (n : Nat) : Prop := ∀ j, j < n → (us j).oneCell' = true

structure Cx where
  w : World
  S : Sup
  T : Sup
  L : Nat → Loc
  τ : Nat → Option Row

/-- What is known of a reference to row r, generation g. -/
def RefOk (τ : Nat → Option Row) (r g : Nat) (Q : Nat → List (List V) → Prop) : Prop :=
  ∃ n g' xs, (τ r = some (.arr n g' xs) ∨ τ r = some (.frz n g' xs)) ∧ g ≤ g' ∧ (g = g' → Q n xs)

/-- A row that pointers lead to. -/
def Row.isPtr : Row → Prop
  | .box _ _ => True
  | .iter _ _ _ => True
  | _ => False

mutual
def DR (X : Cx) : D → Value → Prop
  | .v x, u => VR X.w X.S x u
  | .sl .imm n xs, u => ∃ c, SlR X.w X.S X.S n xs c u
  | .sl .full n xs, u => SlR X.w X.S X.S n xs xs.length u
  | .sl .bor n xs, u => ∃ c, SlR X.w X.T X.S n xs c u
  | .ds n cs, u => ∃ (k b o : Nat) (us : Nat → Value), u = .slice (some (at_ b o)) k k ∧ 0 < n ∧ cs.length = k * n ∧
      (∀ j, j < cs.length → X.T b (o + j) ∧ X.w.cell? (at_ b (o + j)) = some (us j)) ∧ OneC us cs.length ∧ DRs X cs us
  | .dp cs, u => ∃ (b o : Nat) (us : Nat → Value), u = .pointer (some (at_ b o)) ∧
      (∀ j, j < cs.length → X.T b (o + j) ∧ X.w.cell? (at_ b (o + j)) = some (us j)) ∧ OneC us cs.length ∧ DRs X cs us
  | .pp .bor cs, u => PpR X.w X.T X.S cs u
  | .pp _ cs, u => PpR X.w X.S X.S cs u
  | .ptr r o, u => u = .pointer (some (at_ (X.L r).block o)) ∧ ∃ row, X.τ r = some row ∧ row.isPtr
  | .ep r g i o, u => (∃ a, u = .pointer (some a)) ∧
      RefOk X.τ r g fun n _ => u = .pointer (some (at_ (X.L r).block ((X.L r).off + i * n + o)))
  | .rs r g n off len, u => ∃ (a : Option Addr) (c : Nat), u = .slice a len c ∧ len ≤ c ∧ (0 < len → ∃ b o, a = some (at_ b o)) ∧
      RefOk X.τ r g fun n' xs => n' = n ∧ off + len ≤ xs.length ∧ off + c = (X.L r).cap ∧ (0 < c → a = some (at_ (X.L r).block ((X.L r).off + off * n)))
  | .mp r, u => u = .map (some (X.L r).block) ∧ ∃ row, X.τ r = some row ∧ row.isMap
  | .yl r, u => u = .func (.yield (X.L r).block) #[] #[] ∧ ∃ bz hk ps as b E, X.τ r = some (.lp bz hk ps as b E)
  | .clo f a b, u => ∃ xs ys : Array Value, u = .func (.func f) xs ys ∧ xs.size = a.length ∧ ys.size = b.length ∧
      DRs X a (fun j => xs.getD j undef) ∧ DRs X b (fun j => ys.getD j undef)
  | .ifc t d, u => ∃ v, u = .iface t v ∧ DR X d v
  | .agg cs, u => ∃ xs : Array Value, u = .agg xs ∧ xs.size = cs.length ∧ OneC (fun j => xs.getD j undef) xs.size ∧ DRs X cs (fun j => xs.getD j undef)
  | .tup cs, u => ∃ xs : Array Value, u = .tuple xs ∧ xs.size = cs.length ∧ DRs X cs (fun j => xs.getD j undef)
  | .val v, u => u = v ∧ v.oneCell' = true
  | .undef, _ => True
def DRs (X : Cx) : List D → (Nat → Value) → Prop
  | [], _ => True
  | d :: ds, us => DR X d (us 0) ∧ DRs X ds (fun j => us (j + 1))
end

theorem DRs_iff {X : Cx} : ∀ {ds : List D} {us : Nat → Value}, DRs X ds us ↔ ∀ j d, ds[j]? = some d → DR X d (us j)
  | [], us => by simp [DRs]
  | d :: ds, us => by
    simp only [DRs, DRs_iff (ds := ds)]
    constructor
    · rintro ⟨h0, h⟩ j x hj
      cases j with
      | zero => simp at hj; subst hj; exact h0
      | succ j => exact h j x (by simpa using hj)
    · intro h
      exact ⟨h 0 d (by simp), fun j x hj => h (j + 1) x (by simpa using hj)⟩

/-- Cells of one value: the value is an aggregate if 'ag'. -/
def CellsR (w : World) (S : Sup) (ag : Bool) (cs : List V) (u : Value) : Prop :=
  if ag then ∃ xs : Array Value, u = .agg xs ∧ xs.size = cs.length ∧ ∀ j v, cs[j]? = some v → VR w S v (xs.getD j undef)
  else ∃ v, cs = [v] ∧ VR w S v u

/-- Cells that are packed to one value. -/
def PkR (X : Cx) (ag : Bool) (cs : List D) (u : Value) : Prop := ∃ d, packD ag cs = some d ∧ DR X d u

abbrev MapR (X : Cx) (r : Nat) (ka va : Bool) (es : List (List V × List D)) : Prop :=
  ∃ (ents : Array MapEntry), X.w.heap[(X.L r).block]? = some (.map ents es.length) ∧ ents.size = es.length ∧
      ∀ (i : Nat) (e : List V × List D), es[i]? = some e → ∃ m : MapEntry, ents[i]? = some m ∧ m.born = i ∧ CellsR X.w X.S ka e.1 m.key ∧ PkR X va e.2 m.val

def RowR (X : Cx) (r : Nat) : Row → Prop
  | .box t cs => ∃ c, X.w.heap[(X.L r).block]? = some (.cells c t (0, 0)) ∧ c.size = cs.length ∧ OneC (fun j => c.getD j undef) c.size ∧ DRs X cs (fun j => c.getD j undef)
  | .arr n _ xs => 0 < n ∧ (∀ cs ∈ xs, cs.length = n) ∧ xs.length ≤ (X.L r).cap ∧
      (0 < (X.L r).cap → ∃ c e, X.w.heap[(X.L r).block]? = some (.cells c e (0, 0)) ∧ (X.L r).off + (X.L r).cap * n ≤ c.size ∧
        ∀ i cs, xs[i]? = some cs → ∀ j v, cs[j]? = some v → VR X.w X.S v (c.getD ((X.L r).off + i * n + j) undef))
  | .frz n _ xs => 0 < n ∧ (∀ cs ∈ xs, cs.length = n) ∧ xs.length ≤ (X.L r).cap ∧
      ∃ us : Nat → Nat → Value, (∀ i, i < xs.length → ∀ j, j < n → X.S (X.L r).block ((X.L r).off + i * n + j) ∧ X.w.cell? (at_ (X.L r).block ((X.L r).off + i * n + j)) = some (us i j)) ∧
        (∀ i cs, xs[i]? = some cs → ∀ j v, cs[j]? = some v → VR X.w X.S v (us i j))
  | .map ka va es => MapR X r ka va es
  | .pm ka va es => MapR X r ka va (es.map fun e => (e.1, e.2.map ofV))
  | .iter m n seen => X.w.heap[(X.L r).block]? = some (.mapIter (some (X.L m).block) n seen.toArray n) ∧ ∃ row, X.τ m = some row ∧ row.isMap
  | .lp bz _ ps as b E => ∃ (rec : Loop) (n : Nat), X.w.heap[(X.L r).block]? = some (.loop rec) ∧ (bz = false → rec.state = .ready ∧ rec.pending = none) ∧ rec.params.toList = ps ∧ rec.assign = as ∧ rec.body = b ∧
      codeOk n as = true ∧ codeOk n b = true ∧ n ≤ rec.tmps.size ∧ (∀ p ∈ ps, p < rec.tmps.size) ∧ ∀ p ∈ E, DR X p.2 (rec.tmps.getD p.1 undef)
  | .dead => True

/-- Does a row own its block? -/
def Row.owns (l : Loc) : Row → Prop
  | .box _ _ => True
  | .arr _ _ _ => 0 < l.cap
  | .map _ _ _ => True
  | .pm _ _ _ => True
  | .iter _ _ _ => True
  | .lp _ _ _ _ _ _ => True
  | _ => False

def Own (X : Cx) (b : Nat) : Prop := ∃ r row, X.τ r = some row ∧ row.owns (X.L r) ∧ (X.L r).block = b

variable [Globs]

/-- The variables that are never written are there. -/
def GlobR (X : Cx) : Prop := ∀ g cs, Globs.tab g = some cs → PpR X.w X.S X.S cs (.pointer (some (at_ g 0))) ∧ ∃ c e f, X.w.heap[g]? = some (.cells c e f) ∧ c.size = cs.length ∧ 0 < cs.length

structure StoR (X : Cx) : Prop where
  rows : ∀ r row, X.τ r = some row → RowR X r row
  inj : ∀ r r' row row', X.τ r = some row → X.τ r' = some row' → row.owns (X.L r) → row'.owns (X.L r') → (X.L r).block = (X.L r').block → r = r'
  sep : ∀ b o, X.T b o → ¬ Own X b
  sub : ∀ b o, X.S b o → X.T b o
  live : ∀ b o, X.T b o → ∃ u, X.w.cell? (at_ b o) = some u
  glob : GlobR X

/-- How a row may turn. -/
inductive RowStep : Row → Row → Loc → Loc → Prop
  | box (t cs cs' l) : RowStep (.box t cs) (.box t cs') l l
  | map (ka va es es' l) : RowStep (.map ka va es) (.map ka va es') l l
  | pm (ka va es l) : RowStep (.pm ka va es) (.pm ka va es) l l
  | mpm (ka va es es' l) : RowStep (.map ka va es) (.pm ka va es') l l
  | same (n g xs xs' l) (h : xs'.length = xs.length) : RowStep (.arr n g xs) (.arr n g xs') l l
  | grow (n g g' xs xs' l l') (h : g < g') : RowStep (.arr n g xs) (.arr n g' xs') l l'
  | frz (n g xs xs' l) (h : xs'.length = xs.length) : RowStep (.arr n g xs) (.frz n g xs') l l
  | growfrz (n g g' xs xs' l l') (h : g < g') : RowStep (.arr n g xs) (.frz n g' xs') l l'
  | ff (n g xs l) : RowStep (.frz n g xs) (.frz n g xs) l l
  | iter (m m' n s s' l) : RowStep (.iter m n s) (.iter m' n s') l l
  | lp (bz bz' hk ps as b E E' l) : RowStep (.lp bz hk ps as b E) (.lp bz' hk ps as b E') l l
  | dead (l l') : RowStep .dead .dead l l'

theorem RowStep.refl (row : Row) (l : Loc) : RowStep row row l l := by
  cases row with
  | box t cs => exact .box _ _ _ _
  | arr n g xs => exact .same _ _ _ _ _ rfl
  | frz n g xs => exact .ff _ _ _ _
  | map a b es => exact .map _ _ _ _ _
  | pm a b es => exact .pm _ _ _ _
  | iter m n s => exact .iter _ _ _ _ _ _
  | lp bz hk ps as b E => exact .lp _ _ _ _ _ _ _ _ _
  | dead => exact .dead _ _

theorem RowStep.trans {a b c : Row} {l m k : Loc} (h : RowStep a b l m) (h' : RowStep b c m k) : RowStep a c l k := by
  cases h <;> cases h'
  all_goals first
    | exact .box _ _ _ _
    | exact .map _ _ _ _ _
    | exact .pm _ _ _ _
    | exact .mpm _ _ _ _ _
    | exact .iter _ _ _ _ _ _
    | exact .lp _ _ _ _ _ _ _ _ _
    | exact .ff _ _ _ _
    | exact .dead _ _
    | (refine .same _ _ _ _ _ ?_; omega)
    | (refine .frz _ _ _ _ _ ?_; omega)
    | (refine .grow _ _ _ _ _ _ _ ?_; omega)
    | (refine .growfrz _ _ _ _ _ _ _ ?_; omega)

structure Ext (X X' : Cx) : Prop where
  os : X'.w.os = X.w.os
  tape : X'.w.tape = X.w.tape
  output : X'.w.output = X.w.output
  size : X.w.heap.size ≤ X'.w.heap.size
  blk : ∀ b, b < X.w.heap.size → ¬ Own X b → X'.w.heap[b]? = X.w.heap[b]?
  own : ∀ b, Own X' b → Own X b ∨ X.w.heap.size ≤ b
  S : ∀ b o, X.S b o → X'.S b o
  T : ∀ b o, X.T b o → X'.T b o
  nS : ∀ b o, X'.S b o → X.S b o ∨ Own X b ∨ X.w.heap.size ≤ b
  nT : ∀ b o, X'.T b o → X.T b o ∨ Own X b ∨ X.w.heap.size ≤ b
  refs : ∀ r row, X.τ r = some row → ∃ row', X'.τ r = some row' ∧ RowStep row row' (X.L r) (X'.L r)
  drawn : Globs.counts → X.w.drawn ≤ X'.w.drawn

theorem Ext.refl (X : Cx) : Ext X X :=
  ⟨rfl, rfl, rfl, Nat.le_refl _, fun _ _ _ => rfl, fun _ h => .inl h, fun _ _ h => h, fun _ _ h => h, fun _ _ h => .inl h, fun _ _ h => .inl h, fun _ row h => ⟨row, h, RowStep.refl _ _⟩, fun _ => Nat.le_refl _⟩

theorem Ext.trans {X Y Z : Cx} (h : Ext X Y) (k : Ext Y Z) : Ext X Z where
  drawn := fun c => Nat.le_trans (h.drawn c) (k.drawn c)
  os := k.os.trans h.os
  tape := k.tape.trans h.tape
  output := k.output.trans h.output
  size := Nat.le_trans h.size k.size
  blk := fun b hb hn => by
    refine (k.blk b (Nat.lt_of_lt_of_le hb h.size) fun ho => ?_).trans (h.blk b hb hn)
    rcases h.own b ho with h1 | h1
    · exact hn h1
    · omega
  own := fun b hb => by
    rcases k.own b hb with h1 | h1
    · exact h.own b h1
    · exact .inr (Nat.le_trans h.size h1)
  S := fun b o hb => k.S b o (h.S b o hb)
  T := fun b o hb => k.T b o (h.T b o hb)
  nS := fun b o hb => by
    rcases k.nS b o hb with h1 | h1 | h1
    · exact h.nS b o h1
    · exact .inr (h.own b h1)
    · exact .inr (.inr (Nat.le_trans h.size h1))
  nT := fun b o hb => by
    rcases k.nT b o hb with h1 | h1 | h1
    · exact h.nT b o h1
    · exact .inr (h.own b h1)
    · exact .inr (.inr (Nat.le_trans h.size h1))
  refs := fun r row hr => by
    obtain ⟨row', h1, h2⟩ := h.refs r row hr
    obtain ⟨row'', h3, h4⟩ := k.refs r row' h1
    exact ⟨row'', h3, h2.trans h4⟩

/-! ### What is known stays known -/
theorem VR.mono {w w' : World} {S S' : Sup} {v : V} {u : Value} (h : VR w S v u)
    (hS : ∀ b o, S b o → S' b o) (hw : ∀ b o, S b o → w'.cell? (at_ b o) = w.cell? (at_ b o)) : VR w' S' v u := by
  induction h with
  | bool b => exact .bool b
  | int k n => exact .int k n
  | str s => exact .str s
  | nilp => exact .nilp
  | nilf => exact .nilf
  | nilm => exact .nilm
  | nils => exact .nils
  | nili => exact .nili
  | fn f => exact .fn f
  | sl n xs a b o c us ha hl hc hs hv ih =>
    exact .sl n xs a b o c us ha hl hc (fun i hi j hj => ⟨hS _ _ (hs i hi j hj).1, (hw _ _ (hs i hi j hj).1).trans (hs i hi j hj).2⟩) (fun i cs hi j v hj => ih i cs hi j v hj)

theorem SlR.mono {w w' : World} {T T' S S' : Sup} {n c : Nat} {xs : List (List V)} {u : Value} (h : SlR w T S n xs c u)
    (hT : ∀ b o, T b o → T' b o) (hwT : ∀ b o, T b o → w'.cell? (at_ b o) = w.cell? (at_ b o))
    (hS : ∀ b o, S b o → S' b o) (hwS : ∀ b o, S b o → w'.cell? (at_ b o) = w.cell? (at_ b o)) : SlR w' T' S' n xs c u := by
  obtain ⟨a, b, o, us, h1, h2, h3, h4, h5, h6⟩ := h
  exact ⟨a, b, o, us, h1, h2, h3, h4, fun i hi j hj => ⟨hT _ _ (h5 i hi j hj).1, (hwT _ _ (h5 i hi j hj).1).trans (h5 i hi j hj).2⟩, fun i cs hi j v hj => (h6 i cs hi j v hj).mono hS hwS⟩

theorem PpR.mono {w w' : World} {T T' S S' : Sup} {cs : List V} {u : Value} (h : PpR w T S cs u)
    (hT : ∀ b o, T b o → T' b o) (hwT : ∀ b o, T b o → w'.cell? (at_ b o) = w.cell? (at_ b o))
    (hS : ∀ b o, S b o → S' b o) (hwS : ∀ b o, S b o → w'.cell? (at_ b o) = w.cell? (at_ b o)) : PpR w' T' S' cs u := by
  obtain ⟨b, o, us, h1, h2, h3⟩ := h
  exact ⟨b, o, us, h1, fun j hj => ⟨hT _ _ (h2 j hj).1, (hwT _ _ (h2 j hj).1).trans (h2 j hj).2⟩, fun j v hj => (h3 j v hj).mono hS hwS⟩

theorem cell_of_blk {w w' : World} {b : Nat} (h : w'.heap[b]? = w.heap[b]?) (o : Nat) : w'.cell? (at_ b o) = w.cell? (at_ b o) := by
  simp [World.cell?, h]

theorem lt_of_cell {w : World} {b o : Nat} {u : Value} (h : w.cell? (at_ b o) = some u) : b < w.heap.size := block_lt_of_cell h

theorem Ext.cellT {X X' : Cx} (hX : StoR X) (h : Ext X X') (b o : Nat) (hb : X.T b o) : X'.w.cell? (at_ b o) = X.w.cell? (at_ b o) := by
  obtain ⟨u, hu⟩ := hX.live b o hb
  exact cell_of_blk (h.blk b (lt_of_cell hu) (hX.sep b o hb)) o

theorem Ext.cellS {X X' : Cx} (hX : StoR X) (h : Ext X X') (b o : Nat) (hb : X.S b o) : X'.w.cell? (at_ b o) = X.w.cell? (at_ b o) :=
  h.cellT hX b o (hX.sub b o hb)

/-- What values lean on stays. -/
structure Kept (X X' : Cx) : Prop where
  S : ∀ b o, X.S b o → X'.S b o
  T : ∀ b o, X.T b o → X'.T b o
  cellS : ∀ b o, X.S b o → X'.w.cell? (at_ b o) = X.w.cell? (at_ b o)
  cellT : ∀ b o, X.T b o → X'.w.cell? (at_ b o) = X.w.cell? (at_ b o)
  refs : ∀ r row, X.τ r = some row → ∃ row', X'.τ r = some row' ∧ RowStep row row' (X.L r) (X'.L r)

theorem Ext.kept {X X' : Cx} (hX : StoR X) (h : Ext X X') : Kept X X' := ⟨h.S, h.T, h.cellS hX, h.cellT hX, h.refs⟩

theorem RefOk.kept {X X' : Cx} (h : Kept X X') {r g : Nat} {Q Q' : Nat → List (List V) → Prop} (hq : RefOk X.τ r g Q)
    (hstep : ∀ n xs xs', xs'.length = xs.length → X'.L r = X.L r → Q n xs → Q' n xs') : RefOk X'.τ r g Q' := by
  obtain ⟨n, g', xs, h1, h2, h3⟩ := hq
  rcases h1 with h1 | h1 <;> obtain ⟨row', hr, hs⟩ := h.refs r _ h1
  · generalize hl : X.L r = l at hs
    generalize hl' : X'.L r = l' at hs
    cases hs with
    | same n g xs xs' l hh => exact ⟨n, g', xs', .inl hr, h2, fun e => hstep n xs xs' hh (hl'.trans hl.symm) (h3 e)⟩
    | grow n g0 g1 xs xs' l l' hh => exact ⟨n, g1, xs', .inl hr, by omega, fun e => by omega⟩
    | frz n g xs xs' l hh => exact ⟨n, g', xs', .inr hr, h2, fun e => hstep n xs xs' hh (hl'.trans hl.symm) (h3 e)⟩
    | growfrz n g0 g1 xs xs' l l' hh => exact ⟨n, g1, xs', .inr hr, by omega, fun e => by omega⟩
  · generalize hl : X.L r = l at hs
    generalize hl' : X'.L r = l' at hs
    cases hs with
    | ff n g xs l => exact ⟨n, g', xs, .inr hr, h2, fun e => hstep n xs xs rfl (hl'.trans hl.symm) (h3 e)⟩

mutual
theorem DR.kept {X X' : Cx} (h : Kept X X') : ∀ {d : D} {u : Value}, DR X d u → DR X' d u
  | .v x, u, hd => by
    simp only [DR] at hd ⊢
    exact hd.mono h.S h.cellS
  | .sl .imm n xs, u, hd => by
    simp only [DR] at hd ⊢
    exact hd.imp fun c hc => hc.mono h.S h.cellS h.S h.cellS
  | .sl .full n xs, u, hd => by
    simp only [DR] at hd ⊢
    exact hd.mono h.S h.cellS h.S h.cellS
  | .sl .bor n xs, u, hd => by
    simp only [DR] at hd ⊢
    exact hd.imp fun c hc => hc.mono h.T h.cellT h.S h.cellS
  | .ds n cs, u, hd => by
    simp only [DR] at hd ⊢
    obtain ⟨k, b, o, us, h1, h2, h3, h4, h6, h5⟩ := hd
    exact ⟨k, b, o, us, h1, h2, h3, fun j hj => ⟨h.T _ _ (h4 j hj).1, (h.cellT _ _ (h4 j hj).1).trans (h4 j hj).2⟩, h6, DRs.kept h h5⟩
  | .dp cs, u, hd => by
    simp only [DR] at hd ⊢
    obtain ⟨b, o, us, h1, h4, h6, h5⟩ := hd
    exact ⟨b, o, us, h1, fun j hj => ⟨h.T _ _ (h4 j hj).1, (h.cellT _ _ (h4 j hj).1).trans (h4 j hj).2⟩, h6, DRs.kept h h5⟩
  | .pp .bor cs, u, hd => by
    simp only [DR] at hd ⊢
    exact hd.mono h.T h.cellT h.S h.cellS
  | .pp .imm cs, u, hd => by
    simp only [DR] at hd ⊢
    exact hd.mono h.S h.cellS h.S h.cellS
  | .pp .full cs, u, hd => by
    simp only [DR] at hd ⊢
    exact hd.mono h.S h.cellS h.S h.cellS
  | .ptr r o, u, hd => by
    simp only [DR] at hd ⊢
    obtain ⟨h1, row, h2, hp⟩ := hd
    obtain ⟨row', hr, hs⟩ := h.refs r _ h2
    generalize hl : X.L r = l at hs
    generalize hl' : X'.L r = l' at hs
    cases hs with
    | box t cs cs' l => exact ⟨by rw [h1, hl], _, hr, trivial⟩
    | iter m m' n s s' l => exact ⟨by rw [h1, hl], _, hr, trivial⟩
    | _ => exact hp.elim
  | .ep r g i o, u, hd => by
    simp only [DR] at hd ⊢
    exact ⟨hd.1, hd.2.kept h fun n xs xs' _ hL hq => by rw [hL]; exact hq⟩
  | .rs r g n off len, u, hd => by
    simp only [DR] at hd ⊢
    obtain ⟨a, c, h1, h2, h3, h4⟩ := hd
    refine ⟨a, c, h1, h2, h3, h4.kept h fun n' xs xs' hx hL hq => ?_⟩
    rw [hL, hx]; exact hq
  | .mp r, u, hd => by
    simp only [DR] at hd ⊢
    obtain ⟨h1, row, h2, h3⟩ := hd
    obtain ⟨row', hr, hs⟩ := h.refs r _ h2
    generalize hl : X.L r = l at hs
    generalize hl' : X'.L r = l' at hs
    cases hs <;> first
      | exact h3.elim
      | exact ⟨by rw [h1, hl], _, hr, h3⟩
  | .yl r, u, hd => by
    simp only [DR] at hd ⊢
    obtain ⟨h1, bz, hk, ps, as, b, E, h2⟩ := hd
    obtain ⟨row', hr, hs⟩ := h.refs r _ h2
    generalize hl : X.L r = l at hs
    generalize hl' : X'.L r = l' at hs
    cases hs with
    | lp _ bz' _ _ _ _ _ E' l => exact ⟨by rw [h1, hl], bz', hk, ps, as, b, E', hr⟩
  | .clo f a b, u, hd => by
    simp only [DR] at hd ⊢
    obtain ⟨xs, ys, h1, h2, h3, h4, h5⟩ := hd
    exact ⟨xs, ys, h1, h2, h3, DRs.kept h h4, DRs.kept h h5⟩
  | .ifc t d, u, hd => by
    simp only [DR] at hd ⊢
    obtain ⟨v, h1, h2⟩ := hd
    exact ⟨v, h1, DR.kept h h2⟩
  | .agg cs, u, hd => by
    simp only [DR] at hd ⊢
    obtain ⟨xs, h1, h2, h4, h3⟩ := hd
    exact ⟨xs, h1, h2, h4, DRs.kept h h3⟩
  | .tup cs, u, hd => by
    simp only [DR] at hd ⊢
    obtain ⟨xs, h1, h2, h3⟩ := hd
    exact ⟨xs, h1, h2, DRs.kept h h3⟩
  | .val v, u, hd => by
    simp only [DR] at hd ⊢
    exact hd
  | .undef, u, _ => by simp only [DR]
theorem DRs.kept {X X' : Cx} (h : Kept X X') : ∀ {ds : List D} {us : Nat → Value}, DRs X ds us → DRs X' ds us
  | [], _, _ => by simp only [DRs]
  | d :: ds, us, hd => by
    simp only [DRs] at hd ⊢
    exact ⟨DR.kept h hd.1, DRs.kept h hd.2⟩
end

theorem GlobR.kept {X X' : Cx} (h : Kept X X') (hg : GlobR X) (hb : ∀ g c e f, X.w.heap[g]? = some (.cells c e f) → (∃ o, X.S g o) → X'.w.heap[g]? = X.w.heap[g]?) : GlobR X' := fun g cs hc => by
  obtain ⟨h1, c, e, f, h2, h3, h4⟩ := hg g cs hc
  refine ⟨h1.mono h.S h.cellS h.S h.cellS, c, e, f, ?_, h3, h4⟩
  obtain ⟨b, o, us, k1, k2, _⟩ := h1
  simp only [Value.pointer.injEq, Option.some.injEq, Addr.mk.injEq] at k1
  obtain ⟨rfl, rfl, _⟩ := k1
  rw [hb g c e f h2 ⟨_, (k2 0 h4).1⟩, h2]
theorem GlobR.ext {X X' : Cx} (hX : StoR X) (h : Ext X X') : GlobR X' := hX.glob.kept (h.kept hX) fun g c e f hg ⟨o, ho⟩ => by
  obtain ⟨u, hu⟩ := hX.live g o (hX.sub g o ho)
  exact h.blk g (lt_of_cell hu) (hX.sep g o (hX.sub g o ho))

theorem DR.ext {X X' : Cx} (hX : StoR X) (h : Ext X X') {d : D} {u : Value} (hd : DR X d u) : DR X' d u := DR.kept (h.kept hX) hd
theorem DRs.ext {X X' : Cx} (hX : StoR X) (h : Ext X X') {ds : List D} {us : Nat → Value} (hd : DRs X ds us) : DRs X' ds us := DRs.kept (h.kept hX) hd

/-- A block that is no cells, and no row's. -/
theorem put_kept {X : Cx} (hX : StoR X) {w' : World} {m : Nat} (hm : ∀ c e f, X.w.heap[m]? ≠ some (.cells c e f)) (hw : ∀ k, k ≠ m → w'.heap[k]? = X.w.heap[k]?) : Kept X { X with w := w' } := by
  have hT : ∀ b o, X.T b o → w'.cell? (at_ b o) = X.w.cell? (at_ b o) := fun b o hb => by
    obtain ⟨u, hu⟩ := hX.live b o hb
    have hne : b ≠ m := fun e => by
      subst e
      simp only [World.cell?] at hu
      cases hu
    exact cell_of_blk (hw b hne) o
  exact ⟨fun _ _ h => h, fun _ _ h => h, fun b o hb => hT b o (hX.sub b o hb), hT, fun r row h => ⟨row, h, RowStep.refl _ _⟩⟩

mutual
/-- What a value refers to is there. -/
theorem DR.refs {X : Cx} : ∀ {d : D} {u : Value}, DR X d u → ∀ q ∈ refsD d, ∃ row, X.τ q = some row
  | .v _, _, _, q, hq => by simp [refsD] at hq
  | .sl .imm _ _, _, _, q, hq => by simp [refsD] at hq
  | .sl .full _ _, _, _, q, hq => by simp [refsD] at hq
  | .sl .bor _ _, _, _, q, hq => by simp [refsD] at hq
  | .ds n cs, u, hd, q, hq => by
    simp only [DR] at hd
    obtain ⟨k, b, o, us, h1, h2, h3, h4, h6, h5⟩ := hd
    exact DRs.refs h5 q (by simpa [refsD] using hq)
  | .dp cs, u, hd, q, hq => by
    simp only [DR] at hd
    obtain ⟨b, o, us, h1, h4, h6, h5⟩ := hd
    exact DRs.refs h5 q (by simpa [refsD] using hq)
  | .pp .bor _, _, _, q, hq => by simp [refsD] at hq
  | .pp .imm _, _, _, q, hq => by simp [refsD] at hq
  | .pp .full _, _, _, q, hq => by simp [refsD] at hq
  | .ptr r o, u, hd, q, hq => by
    simp only [DR] at hd
    obtain ⟨h1, row, h2, _⟩ := hd
    have : q = r := by simpa [refsD] using hq
    exact ⟨_, this ▸ h2⟩
  | .ep r g i o, u, hd, q, hq => by
    simp only [DR] at hd
    obtain ⟨_, n, g', xs, h1, _⟩ := hd
    have : q = r := by simpa [refsD] using hq
    subst this
    rcases h1 with h1 | h1 <;> exact ⟨_, h1⟩
  | .rs r g n off len, u, hd, q, hq => by
    simp only [DR] at hd
    obtain ⟨_, _, _, _, _, n, g', xs, h1, _⟩ := hd
    have : q = r := by simpa [refsD] using hq
    subst this
    rcases h1 with h1 | h1 <;> exact ⟨_, h1⟩
  | .mp r, u, hd, q, hq => by
    simp only [DR] at hd
    obtain ⟨_, row, h1, _⟩ := hd
    have : q = r := by simpa [refsD] using hq
    exact ⟨_, this ▸ h1⟩
  | .yl r, u, hd, q, hq => by
    simp only [DR] at hd
    obtain ⟨h1, bz, hk, ps, as, b, E, h2⟩ := hd
    have : q = r := by simpa [refsD] using hq
    exact ⟨_, this ▸ h2⟩
  | .clo f a b, u, hd, q, hq => by
    simp only [DR] at hd
    obtain ⟨xs, ys, h1, h2, h3, h4, h5⟩ := hd
    simp only [refsD, List.mem_append] at hq
    rcases hq with hq | hq
    · exact DRs.refs h4 q hq
    · exact DRs.refs h5 q hq
  | .ifc t d, u, hd, q, hq => by
    simp only [DR] at hd
    obtain ⟨v, h1, h2⟩ := hd
    exact DR.refs h2 q (by simpa [refsD] using hq)
  | .agg cs, u, hd, q, hq => by
    simp only [DR] at hd
    obtain ⟨xs, h1, h2, h4, h3⟩ := hd
    exact DRs.refs h3 q (by simpa [refsD] using hq)
  | .tup cs, u, hd, q, hq => by
    simp only [DR] at hd
    obtain ⟨xs, h1, h2, h3⟩ := hd
    exact DRs.refs h3 q (by simpa [refsD] using hq)
  | .val v, _, _, q, hq => by simp [refsD] at hq
  | .undef, _, _, q, hq => by simp [refsD] at hq
theorem DRs.refs {X : Cx} : ∀ {ds : List D} {us : Nat → Value}, DRs X ds us → ∀ q ∈ refsDs ds, ∃ row, X.τ q = some row
  | [], _, _, q, hq => by simp [refsDs] at hq
  | d :: ds, us, hd, q, hq => by
    simp only [DRs] at hd
    simp only [refsDs, List.mem_append] at hq
    rcases hq with hq | hq
    · exact DR.refs hd.1 q hq
    · exact DRs.refs hd.2 q hq
end

theorem PkR.kept {X X' : Cx} (h : Kept X X') {ag : Bool} {cs : List D} {u : Value} (hp : PkR X ag cs u) : PkR X' ag cs u := by
  obtain ⟨d, h1, h2⟩ := hp
  exact ⟨d, h1, DR.kept h h2⟩

theorem PkR.ext {X X' : Cx} (hX : StoR X) (h : Ext X X') {ag : Bool} {cs : List D} {u : Value} (hp : PkR X ag cs u) : PkR X' ag cs u := hp.kept (h.kept hX)

theorem refs_pack {ag : Bool} {cs : List D} {d : D} (h : packD ag cs = some d) : refsD d = refsDs cs := by
  cases ag with
  | true =>
    simp only [packD, cond_true, Option.some.injEq] at h
    subst h
    rfl
  | false =>
    simp only [packD, cond_false] at h
    split at h
    · simp only [Option.some.injEq] at h
      subst h
      simp [refsDs]
    · cases h

theorem PkR.refs {X : Cx} {ag : Bool} {cs : List D} {u : Value} (hp : PkR X ag cs u) : ∀ q ∈ refsDs cs, ∃ row, X.τ q = some row := by
  obtain ⟨d, h1, h2⟩ := hp
  intro q hq
  rw [← refs_pack h1] at hq
  exact DR.refs h2 q hq

theorem VR.one {w : World} {S : Sup} {v : V} {u : Value} (h : VR w S v u) : u.oneCell' = true := by cases h <;> rfl

end Go.Ab

/- Values that say less. -/
namespace Go.Ab
open Go

/-- d says more than d'. -/
def Wk (d d' : D) : Prop := ∀ (X : Cx) (u : Value), DR X d u → DR X d' u
theorem Wk.refl (d : D) : Wk d d := fun _ _ h => h
def WkV (v v' : V) : Prop := ∀ (w : World) (S : Sup) (u : Value), VR w S v u → VR w S v' u
theorem WkV.refl (v : V) : WkV v v := fun _ _ _ h => h

def WkL (xs ys : List V) : Prop := xs.length = ys.length ∧ ∀ (j : Nat) x y, xs[j]? = some x → ys[j]? = some y → WkV x y
theorem WkL.nil : WkL [] [] := ⟨rfl, fun j x y h => by simp at h⟩
theorem WkL.cons {x y : V} {xs ys : List V} (h : WkV x y) (hs : WkL xs ys) : WkL (x :: xs) (y :: ys) :=
  ⟨by simp [hs.1], fun j a b ha hb => by
    cases j with
    | zero => simp at ha hb; subst ha hb; exact h
    | succ j => exact hs.2 j a b (by simpa using ha) (by simpa using hb)⟩
theorem WkL.refl (xs : List V) : WkL xs xs := ⟨rfl, fun j x y h h' => by rw [h] at h'; cases h'; exact WkV.refl _⟩

theorem SlR.wk {w : World} {T S : Sup} {n c : Nat} {xs ys : List (List V)} {u : Value} (h : SlR w T S n xs c u) (hl : xs.length = ys.length)
    (hw : ∀ (i : Nat) x y, xs[i]? = some x → ys[i]? = some y → WkL x y) : SlR w T S n ys c u := by
  obtain ⟨a, b, o, us, h1, h2, h3, h4, h5, h6⟩ := h
  have hx : ∀ (i : Nat) y, ys[i]? = some y → ∃ x, xs[i]? = some x ∧ WkL x y := fun i y hy => by
    have hi : i < xs.length := by rw [hl]; exact (List.getElem?_eq_some_iff.1 hy).1
    exact ⟨xs[i], List.getElem?_eq_getElem hi, hw i _ _ (List.getElem?_eq_getElem hi) hy⟩
  refine ⟨a, b, o, us, by rw [h1, hl], fun h => h2 (by omega), fun cs hcs => ?_, by omega, fun i hi j hj => h5 i (by omega) j hj, fun i cs hi j v hj => ?_⟩
  · obtain ⟨i, hi⟩ := List.getElem?_of_mem hcs
    obtain ⟨x, k1, k2⟩ := hx i cs hi
    rw [← k2.1]
    exact h3 x (List.mem_of_getElem? k1)
  · obtain ⟨x, k1, k2⟩ := hx i cs hi
    have hj' : j < x.length := by rw [k2.1]; exact (List.getElem?_eq_some_iff.1 hj).1
    exact k2.2 j _ _ (List.getElem?_eq_getElem hj') hj _ _ _ (h6 i x k1 j _ (List.getElem?_eq_getElem hj'))

theorem wkV_sl {n : Nat} {xs ys : List (List V)} (hl : xs.length = ys.length) (hw : ∀ (i : Nat) x y, xs[i]? = some x → ys[i]? = some y → WkL x y) : WkV (.sl n xs) (.sl n ys) := fun w S u h => by
  rw [VR_sl] at h ⊢
  obtain ⟨c, h⟩ := h
  exact ⟨c, h.wk hl hw⟩

theorem SlR.of_nils {w : World} {T S : Sup} {n : Nat} {u : Value} (h : VR w S .nils u) : SlR w T S n [] 0 u := by
  cases h with
  | nils => exact ⟨none, 0, 0, fun _ _ => .nilIface, rfl, fun h => by simp at h, fun cs h => by simp at h, Nat.le_refl _, fun i hi => by simp at hi, fun i cs hi => by simp at hi⟩

theorem wkV_nils (n : Nat) : WkV .nils (.sl n []) := fun w S u h => VR_sl.2 ⟨0, SlR.of_nils h⟩

theorem wk_sl {t : Tag} {n : Nat} {xs ys : List (List V)} (hl : xs.length = ys.length) (hw : ∀ (i : Nat) x y, xs[i]? = some x → ys[i]? = some y → WkL x y) : Wk (.sl t n xs) (.sl t n ys) := fun X u h => by
  cases t <;> simp only [DR] at h ⊢
  · obtain ⟨c, h⟩ := h; exact ⟨c, h.wk hl hw⟩
  · obtain ⟨c, h⟩ := h; exact ⟨c, h.wk hl hw⟩
  · rw [← hl]; exact h.wk hl hw

theorem wk_nils (n : Nat) : Wk (.v .nils) (.sl .imm n []) := fun X u h => by
  simp only [DR] at h ⊢
  exact ⟨0, SlR.of_nils h⟩
theorem wk_full {n : Nat} {xs : List (List V)} : Wk (.sl .full n xs) (.sl .imm n xs) := fun X u h => by
  simp only [DR] at h ⊢
  exact ⟨_, h⟩
theorem wk_v {v v' : V} (h : WkV v v') : Wk (.v v) (.v v') := fun X u hd => by
  simp only [DR] at hd ⊢
  exact h _ _ _ hd
theorem wk_vsl {n : Nat} {xs : List (List V)} : Wk (.v (.sl n xs)) (.sl .imm n xs) := fun X u h => by
  simp only [DR] at h ⊢
  exact VR_sl.1 h
theorem Wk.trans {a b c : D} (h : Wk a b) (k : Wk b c) : Wk a c := fun X u hd => k X u (h X u hd)

/-- Lists of values, place by place. -/
inductive WkDs : List D → List D → Prop
  | nil : WkDs [] []
  | cons {d d' : D} {ds ds' : List D} (h : Wk d d') (hs : WkDs ds ds') : WkDs (d :: ds) (d' :: ds')
theorem WkDs.length {ds ds' : List D} (h : WkDs ds ds') : ds.length = ds'.length := by
  induction h with
  | nil => rfl
  | cons _ _ ih => simp [ih]
theorem WkDs.dr {X : Cx} {ds ds' : List D} (h : WkDs ds ds') : ∀ {us : Nat → Value}, DRs X ds us → DRs X ds' us := by
  induction h with
  | nil => intro us h; exact h
  | cons h _ ih =>
    intro us hd
    simp only [DRs] at hd ⊢
    exact ⟨h X _ hd.1, ih hd.2⟩
theorem WkDs.refl : ∀ ds : List D, WkDs ds ds
  | [] => .nil
  | d :: ds => .cons (Wk.refl d) (WkDs.refl ds)
theorem wk_agg {ds ds' : List D} (h : WkDs ds ds') : Wk (.agg ds) (.agg ds') := fun X u hd => by
  simp only [DR] at hd ⊢
  obtain ⟨xs, h1, h2, h3, h4⟩ := hd
  exact ⟨xs, h1, by rw [← h.length]; exact h2, h3, h.dr h4⟩
theorem wk_tup {ds ds' : List D} (h : WkDs ds ds') : Wk (.tup ds) (.tup ds') := fun X u hd => by
  simp only [DR] at hd ⊢
  obtain ⟨xs, h1, h2, h4⟩ := hd
  exact ⟨xs, h1, by rw [← h.length]; exact h2, h.dr h4⟩

theorem WkS.wk {v v' : V} (h : WkS v v') : WkV v v' := by
  induction h with
  | refl v => exact WkV.refl v
  | nils n => exact wkV_nils n
  | sl n xs ys hl hn hv ih => exact wkV_sl hl fun i x y hx hy => ⟨hn i x y hx hy, fun j a b ha hb => ih i x y j a b hx hy ha hb⟩
def valOf : D → Option V
  | .v x => some x
  | .sl _ n xs => some (.sl n xs)
  | _ => none
def valsOf : List D → Option (List V)
  | [] => some []
  | d :: ds => (valOf d).bind fun v => (valsOf ds).bind fun vs => some (v :: vs)
def tagOf : D → Tag
  | .sl t _ _ => t
  | _ => .imm
def tagsOf : List D → Nat → Tag
  | [], _ => .imm
  | d :: _, 0 => tagOf d
  | _ :: ds, n + 1 => tagsOf ds n
def retag (t : Tag) : V → D
  | .sl n xs => .sl t n xs
  | v => .v v
def retags (τ : Nat → Tag) : Nat → List V → List D
  | _, [] => []
  | i, v :: vs => retag (τ i) v :: retags τ (i + 1) vs

theorem wkS_sl {t : Tag} {n m : Nat} {xs ys : List (List V)} (h : WkS (.sl n xs) (.sl m ys)) : Wk (.sl t n xs) (.sl t m ys) := by
  cases h with
  | refl => exact Wk.refl _
  | sl _ _ _ hl hn hv => exact wk_sl hl fun i x y hx hy => ⟨hn i x y hx hy, fun j a b ha hb => (hv i x y j a b hx hy ha hb).wk⟩

theorem retag_wk {d : D} {v y : V} (hd : valOf d = some v) (h : WkS v y) : Wk d (retag (tagOf d) y) := by
  unfold valOf at hd
  split at hd
  · rename_i x
    cases hd
    simp only [tagOf]
    cases h with
    | refl =>
      cases v with
      | sl n xs => exact wk_vsl
      | _ => exact Wk.refl _
    | nils n => exact wk_nils n
    | sl n xs ys hl hn hv => exact wk_vsl.trans (wkS_sl (.sl n xs ys hl hn hv))
  · rename_i t n xs
    cases hd
    cases h with
    | refl => exact Wk.refl _
    | sl _ _ ys hl hn hv => exact wkS_sl (.sl n xs ys hl hn hv)
  · cases hd

theorem ofV_wk {x y : V} (h : WkS x y) : Wk (ofV x) (ofV y) := by
  have h1 : ∀ v, valOf (ofV v) = some v := fun v => by cases v <;> rfl
  have h2 : ∀ v, tagOf (ofV v) = .imm := fun v => by cases v <;> rfl
  have h3 : ∀ v, retag .imm v = ofV v := fun v => by cases v <;> rfl
  have := retag_wk (h1 x) h
  rwa [h2, h3] at this
theorem ofVs_wk : ∀ {xs ys : List V}, WkSL xs ys → WkDs (xs.map ofV) (ys.map ofV)
  | [], ys, h => by
    have : ys = [] := by have := h.1; simpa using this.symm
    subst this
    exact .nil
  | x :: xs, [], h => by have := h.1; simp at this
  | x :: xs, y :: ys, h => .cons (ofV_wk (h.2 0 x y rfl rfl)) (ofVs_wk ⟨by have := h.1; simpa using this, fun j a b ha hb => h.2 (j + 1) a b (by simpa using ha) (by simpa using hb)⟩)
theorem packD_wk {ag : Bool} {xs ys : List V} (h : WkSL xs ys) {d' : D} (hd : packD ag (ys.map ofV) = some d') : ∃ d, packD ag (xs.map ofV) = some d ∧ Wk d d' := by
  cases ag with
  | true =>
    simp only [packD, cond_true, Option.some.injEq] at hd ⊢
    subst hd
    exact ⟨_, rfl, wk_agg (ofVs_wk h)⟩
  | false =>
    have hl := h.1
    match xs, ys, hl with
    | [], [], _ => simp [packD] at hd
    | [x], [y], _ =>
      simp only [packD, cond_false, List.map_cons, List.map_nil, Option.some.injEq] at hd ⊢
      subst hd
      exact ⟨_, rfl, ofV_wk (h.2 0 x y rfl rfl)⟩
    | _ :: _ :: _, _ :: _ :: _, _ => simp [packD] at hd

theorem ldK_ok {R : Type} {n : Nat} {ag : Bool} {can : List V → (List V → Option R) → Option R} (hcan : ∀ xs k r, can xs k = some r → ∃ ys, k ys = some r ∧ WkSL xs ys) {a : D} {σ : Sto} {k : D → Option R} {r : R} (h : ldK n ag can a σ k = some r) :
    ∃ d d', ld n ag a σ = some d ∧ Wk d d' ∧ k d' = some r := by
  unfold ldK at h
  split at h
  · simp only [rowAtK_eq, Option.bind_eq_some_iff] at h
    obtain ⟨xs, h1, cs, h2, h⟩ := h
    cases hb : decide (_ ≤ cs.length) with
    | false => rw [hb] at h; cases h
    | true =>
      rw [hb, cond_true] at h
      obtain ⟨ys, h3, h4⟩ := hcan _ _ _ h
      simp only [Option.bind_eq_some_iff] at h3
      obtain ⟨d', h3, h5⟩ := h3
      obtain ⟨d, k1, k2⟩ := packD_wk h4 h3
      simp only [List.map_take, List.map_drop] at k1
      exact ⟨d, d', by simp [ld, loadCells, h1, h2, hb, k1], k2, h5⟩
  · rename_i t cs
    cases hb : decide (n ≤ cs.length) with
    | false => rw [hb] at h; cases h
    | true =>
      rw [hb, cond_true] at h
      obtain ⟨ys, h3, h4⟩ := hcan _ _ _ h
      simp only [Option.bind_eq_some_iff] at h3
      obtain ⟨d', h3, h5⟩ := h3
      obtain ⟨d, k1, k2⟩ := packD_wk h4 h3
      simp only [List.map_take] at k1
      exact ⟨d, d', by simp [ld, loadCells, hb, k1], k2, h5⟩
  · simp only [Option.bind_eq_some_iff] at h
    obtain ⟨d, h1, h2⟩ := h
    exact ⟨d, d, h1, Wk.refl _, h2⟩
end Go.Ab
