/- The abstract machine's operations: a table of types, and what an operation makes of the values that it is given. No program in sight. -/
import Derived.Test.YtjkfmihbmkbjfaaGreatAr
import Derived.Laws.StructEq
namespace Go.Proofs.YtjkfmihbmkbjfaaGreat
open Go.RowKit

inductive TK where
  | int (k : IntKind)
  | bool
  | str
  | sli (e : Nat)
  | struct (fs : List (Nat × Nat × Bool))
  | other
/-- kinds of cells that can be compared -/
inductive LK where
  | int
  | bool
  | str
structure TI where
  kind : TK
  size : Nat
  zero : List C
  eq : List LK
def TI.agg (i : TI) : Bool := match i.kind with
  | .struct _ => true
  | _ => false

/-- the table says what the program says -/
def zeroOk : Value → C → Bool
  | .int k n, .int k' m => decide (k = k') && decide (n = 0) && decide (m = 0)
  | .bool b, .bool c => !b && !c
  | .string s, .str t => Nat.beq s.size 0 && Nat.beq t.size 0
  | .slice none 0 0, .slc .emp _ [] => true
  | _, _ => false
def zerosOk : List Value → List C → Bool
  | [], [] => true
  | v :: vs, c :: cs => zeroOk v c && zerosOk vs cs
  | _, _ => false
def aggOf : TypeDesc → Bool
  | .struct _ => true
  | .array _ _ => true
  | _ => false
def fieldsOk (P : Program) : List Field → List (Nat × Nat × Bool) → Bool
  | [], [] => true
  | f :: fs, g :: gs => Nat.beq f.offset g.1 && (match P.info? f.type with
      | some i => Nat.beq i.size g.2.1
      | none => false) && (match P.underlying f.type with
      | some d => (match g.2.2, aggOf d with | true, true => true | false, false => true | _, _ => false)
      | none => false) && fieldsOk P fs gs
  | _, _ => false
def kindOk (P : Program) : TypeDesc → TK → Bool
  | .int k, .int k' => decide (k = k')
  | .bool, .bool => true
  | .string, .str => true
  | .slice e, .sli e' => Nat.beq e e'
  | .struct fs, .struct gs => fieldsOk P fs.toList gs
  | .struct _, .other => false
  | .array _ _, .other => false
  | _, .other => true
  | _, _ => false
/-- types whose values are compared cell by cell: of what kinds these are -/
def eqFs (P : Program) (f : Nat → Option (List LK)) : List Field → Nat → Option (List LK)
  | [], _ => some []
  | g :: r, off => bif decide (g.name = "_") then none else bif Nat.beq g.offset off then
      (match f g.type, P.info? g.type with
      | some l, some inf => bif Nat.beq inf.size l.length && Nat.blt 0 l.length then
          (match eqFs P f r (off + l.length) with
          | some m => some (l ++ m)
          | none => none) else none
      | _, _ => none)
    else none
def eqType (P : Program) : Nat → Nat → Option (List LK)
  | 0, _ => none
  | n + 1, t => match P.underlying t with
    | some (.int _) => some [.int]
    | some .bool => some [.bool]
    | some .string => some [.str]
    | some (.struct fs) => bif P.stoodInHeld t then none else eqFs P (eqType P n) fs.toList 0
    | _ => none
def sameLK : List LK → List LK → Bool
  | [], [] => true
  | .int :: r, .int :: r' => sameLK r r'
  | .bool :: r, .bool :: r' => sameLK r r'
  | .str :: r, .str :: r' => sameLK r r'
  | _, _ => false
def eqOk (P : Program) (t : Nat) (i : TI) : Bool := match i.eq with
  | [] => true
  | l => !(P.eqGuardType P.depth t) && (match P.underlying t with
    | some (.struct _) => true
    | _ => false) && (match eqType P 9 t with
    | some m => sameLK l m
    | none => false)
def cellEq : LK → C → C → Option Bool
  | .int, .int k a, .int k' b => bif decide (k = k') then some (a == b) else none
  | .str, .str a, .str b => some (a.toList == b.toList)
  | .bool, .bool a, .bool b => some (a == b)
  | _, _, _ => none
def cellsEq : List LK → List C → List C → Option Bool
  | [], [], [] => some true
  | l :: ls, x :: xs, y :: ys => match cellEq l x y, cellsEq ls xs ys with
    | some a, some b => some (a && b)
    | _, _ => none
  | _, _, _ => none
def tiOk (P : Program) (t : Nat) (i : TI) : Bool :=
  match P.underlying t, P.info? t with
  | some d, some inf => kindOk P d i.kind && Nat.beq inf.size i.size && Nat.ble inf.bytes 1000 && (match inf.zero with
    | some z => Nat.beq z.cells.size i.size && zerosOk z.cells.toList i.zero
    | none => false) && eqOk P t i
  | _, _ => false
def ttOk (P : Program) : List (Nat × TI) → Bool
  | [] => true
  | p :: r => tiOk P p.1 p.2 && ttOk P r

def constAV : Value → Option AV
  | .int k n => bif decide (k.min ≤ n) && decide (n ≤ k.max) then some (.one (.int k n)) else none
  | .bool b => some (.one (.bool b))
  | .string s => bif Nat.ble s.size 1000000 then some (.one (.str s)) else none
  | .slice none 0 0 => some (.one (.slc .emp 0 []))
  | _ => none
def opAV (s : St) : Operand → Option AV
  | .tmp t => get s.tm t
  | .const v => constAV v
  | .func f => some (.one (.fn f []))
  | .global _ => none

/-- contracts of functions that turn a row of the caller's -/
abbrev TakeT := Nat → Nat → List (List PV) → List AV → Bool → Bool → List (List PV) → Prop
/-- what must be shown beside a run -/
inductive Ob where
  | call (f : Nat) (args : List AV) (r : AV)
  | eq (a b : AV)
  | elem (l : List (List PV)) (i : Int) (r : List PV)
  | rng (lo hi : Int) (n : Nat)
  | idx (i : Int) (n : Nat)
  | flat (l : List (List PV))
  | len (n : Nat)
  | slen (n : Nat)
  | nz (n : Int)
  | inr (k : IntKind) (n : Int)
  | take (f n : Nat) (l : List (List PV)) (args : List AV) (mix turn : Bool) (l' : List (List PV))
/-- what the walker gives -/
inductive Orc where
  | no
  | val (v : AV)
  | row (r : List PV)
  | flat
  | rowE (r : List PV)
  | take (mix turn : Bool) (l : List (List PV))

def binInt (op : BinOp) (k : IntKind) (a b : Int) : Option (C × List Ob) :=
  match op with
  | .add => some (.int k (k.wrap (a + b)), [])
  | .sub => some (.int k (k.wrap (a - b)), [])
  | .mul => some (.int k (k.wrap (a * b)), [])
  | .quo => some (.int k (k.wrap (a.tdiv b)), [.nz b])
  | .rem => some (.int k (a.tmod b), [.nz b, .inr k (a.tmod b)])
  | .eql => some (.bool (a == b), [])
  | .neq => some (.bool (a != b), [])
  | .lss => some (.bool (decide (a < b)), [])
  | .leq => some (.bool (decide (a ≤ b)), [])
  | .gtr => some (.bool (decide (a > b)), [])
  | .geq => some (.bool (decide (a ≥ b)), [])
  | _ => none
def binStr (op : BinOp) (a b : ByteArray) : Option (C × List Ob) :=
  match op with
  | .add => some (.str (a ++ b), [.slen (a.size + b.size)])
  | .eql => some (.bool (a.toList == b.toList), [])
  | .neq => some (.bool (!(a.toList == b.toList)), [])
  | .lss => some (.bool (Op.bytesLess a.toList b.toList), [])
  | .leq => some (.bool (Op.bytesLess a.toList b.toList || a.toList == b.toList), [])
  | .gtr => some (.bool (!(Op.bytesLess a.toList b.toList || a.toList == b.toList)), [])
  | .geq => some (.bool (!(Op.bytesLess a.toList b.toList)), [])
  | _ => none
def binC (op : BinOp) : C → C → Option (C × List Ob)
  | .int k a, .int k' b => bif decide (k = k') then binInt op k a b else none
  | .str a, .str b => binStr op a b
  | _, _ => none
def binBool (tt : List (Nat × TI)) (op : BinOp) (t : Nat) (a b : Bool) : Option (C × List Ob) :=
  match get tt t with
  | some ⟨.bool, _, _, _⟩ => (match op with
    | .eql => some (.bool (a == b), [])
    | .neq => some (.bool (!(a == b)), [])
    | _ => none)
  | _ => none

def alive : C → Bool
  | .dead => false
  | _ => true
def allAlive : List C → Bool
  | [] => true
  | c :: r => alive c && allAlive r
def AV.flatCells : AV → Option (List C)
  | .one c => some [c]
  | .agg cs => some cs
  | .tup _ => none
def toPV : C → Option PV
  | .int k n => some (.int k n)
  | .bool b => some (.bool b)
  | .str s => some (.str s)
  | .slc _ n l => some (.slc n l)
  | _ => none
def toPVs : List C → Option (List PV)
  | [] => some []
  | c :: r => match toPV c, toPVs r with
    | some p, some ps => some (p :: ps)
    | _, _ => none
def childTok : Tok → Option Tok
  | .sh => some .sh
  | .own _ k => some (.vw k)
  | .vw k => some (.vw k)
  | .emp => none
  | .put _ _ _ _ _ => none
def liftC (t : Tok) : PV → C
  | .int k n => .int k n
  | .bool b => .bool b
  | .str s => .str s
  | .slc n l => .slc t n l
/-- cells read as the value of a type -/
def asVal (i : TI) (cs : List C) : Option AV :=
  match i.agg with
  | true => bif Nat.beq cs.length i.size then some (.agg cs) else none
  | false => (match cs with
    | [c] => some (.one c)
    | _ => none)
def pureR (av : AV) (obs : List Ob) : Option (Res × List Ob) := some (⟨av, [], none, none⟩, obs)
def strAt (s : ByteArray) (i : Int) : Int := ((s.data.toList.getD i.toNat 0).toNat : Int)

def fieldAt? (tt : List (Nat × TI)) (t f : Nat) : Option (Nat × Nat × Bool) :=
  match get tt t with
  | some ⟨.struct fs, _, _, _⟩ => fs[f]?
  | _ => none
/-- fills places of a struct -/
def fillC (fs : List (Nat × Nat × Bool)) : List C → List (Nat × AV) → Option (List C)
  | cells, [] => some cells
  | cells, (i, v) :: r => match fs[i]?, v.flatCells with
    | some (o, sz, _), some cs => bif Nat.beq cs.length sz && Nat.ble (o + sz) cells.length && allAlive cs then fillC fs (cells.take o ++ cs ++ cells.drop (o + sz)) r else none
    | _, _ => none
def optBound (d : Int) : Option Operand → List AV → Option (Int × List AV)
  | none, r => some (d, r)
  | some _, .one (.int _ n) :: r => some (n, r)
  | _, _ => none
def subTok : Tok → Tok
  | .own _ k => .vw k
  | t => t
def keysOfC : List C → List Nat
  | [] => []
  | c :: r => (match c.key with
    | some k => [k]
    | none => []) ++ keysOfC r
def ptrKeys : List AV → Option (List (Nat × Nat))
  | [] => some []
  | .one (.ptr k o) :: r => (ptrKeys r).map ((k, o) :: ·)
  | _ :: _ => none
def memN (k : Nat) : List Nat → Bool
  | [] => false
  | x :: r => Nat.beq x k || memN k r
def nodupN : List Nat → Bool
  | [] => true
  | x :: r => !(memN x r) && nodupN r

/-- rows that a literal or an append takes in: is all below them their own? -/
def deepC : C → Bool
  | .slc (.own true _) _ _ => true
  | .slc .emp _ _ => true
  | .slc _ _ _ => false
  | _ => true
def allDeep : List C → Bool
  | [] => true
  | c :: r => deepC c && allDeep r
def partsOf : Nat → List (Nat × Operand) → List AV → Option (List (List C))
  | _, [], [] => some []
  | i, (j, _) :: ps, v :: vs => bif Nat.beq i j then (match v.flatCells, partsOf (i + 1) ps vs with
    | some cs, some r => some (cs :: r)
    | _, _ => none) else none
  | _, _, _ => none
def allLen (n : Nat) : List (List C) → Bool
  | [] => true
  | cs :: r => Nat.beq cs.length n && allAlive cs && allLen n r
def rowsPV : List (List C) → Option (List (List PV))
  | [] => some []
  | cs :: r => match toPVs cs, rowsPV r with
    | some p, some ps => some (p :: ps)
    | _, _ => none

/-- an argument, read only -/
def boxPV (bx : List (Nat × List C)) (k off : Nat) : Option (List PV) :=
  match get bx k with
  | some cs => toPVs (cs.drop off)
  | none => none
def capPVs (bx : List (Nat × List C)) : List (Nat × Nat) → Option (List (List PV))
  | [] => some []
  | (k, o) :: r => match boxPV bx k o, capPVs bx r with
    | some p, some ps => some (p :: ps)
    | _, _ => none
def eraseC (bx : List (Nat × List C)) : C → Option C
  | .int k n => some (.int k n)
  | .bool b => some (.bool b)
  | .str s => some (.str s)
  | .slc _ n l => some (.slc .sh n l)
  | .ptr k off => (boxPV bx k off).map (.rptr .sh)
  | .rptr _ cs => some (.rptr .sh cs)
  | .ept _ _ _ _ _ cs => some (.rptr .sh cs)
  | .fn f caps => (capPVs bx caps).map (.fnr f)
  | .fnr f caps => some (.fnr f caps)
  | .dead => none
def eraseCs (bx : List (Nat × List C)) : List C → Option (List C)
  | [] => some []
  | c :: r => match eraseC bx c, eraseCs bx r with
    | some p, some ps => some (p :: ps)
    | _, _ => none
def eraseAV (bx : List (Nat × List C)) : AV → Option AV
  | .one c => (eraseC bx c).map .one
  | .agg cs => (eraseCs bx cs).map .agg
  | .tup _ => none
def eraseAVs (bx : List (Nat × List C)) : List AV → Option (List AV)
  | [] => some []
  | c :: r => match eraseAV bx c, eraseAVs bx r with
    | some p, some ps => some (p :: ps)
    | _, _ => none
/-- what a call hands back, its rows named after the temporary -/
def nameC (d : Nat) : C → C
  | .slc (.own b k) n l => .slc (.own b (64 * d + k)) n l
  | c => c
def backC : C → Bool
  | .slc (.own b k) _ _ => b && Nat.blt k 64
  | .slc (.vw _) _ _ => false
  | .ptr _ _ => false
  | .rptr _ _ => false
  | .ept _ _ _ _ _ _ => false
  | .fn _ _ => false
  | .fnr _ _ => false
  | .dead => false
  | _ => true
def sharesC : C → Bool
  | .slc .sh _ _ => true
  | _ => false
def noPtrC : C → Bool
  | .ptr _ _ => false
  | .fn _ _ => false
  | .fnr _ _ => false
  | .rptr _ _ => false
  | .ept _ _ _ _ _ _ => false
  | _ => true
def allC (f : C → Bool) : List C → Bool
  | [] => true
  | c :: r => f c && allC f r
def cellsAVs : List AV → List C
  | [] => []
  | v :: r => v.cells ++ cellsAVs r
def killAll : List Nat → List (Nat × Option Tok)
  | [] => []
  | k :: r => (k, none) :: killAll r
def freezeAll : List Nat → List (Nat × Option Tok)
  | [] => []
  | k :: r => (k, some .sh) :: freezeAll r
def viewAll (n : Nat) : List Nat → List (Nat × Option Tok)
  | [] => []
  | k :: r => (k, some (.vw n)) :: viewAll n r
end Go.Proofs.YtjkfmihbmkbjfaaGreat
