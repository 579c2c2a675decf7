-- Merged by a small program of this claim's maker out of 7 texts.
import Derived.Orders
import Derived.Laws.AppendOwn
import Derived.Laws.Entries
import Derived.Laws.Slices
import Derived.WideLaws
import Derived.Laws.StructEq
import Derived.WalkLawsBesides
import Derived.LaidEql
import Derived.Laws.CopyRow
import Derived.Laws.Cells
import Derived.Laws.Tables
import Derived.Laws.BytesString
import Derived.Laws.MakeOwn

/-
  An abstract machine over by-value data that runs the model's own Code. This text: the machine alone (no proof). It holds under no condition: only definitions.
-/
namespace Go.Avm

/-- Values as the machine sees them. -/
inductive AV where
  | any
  | bool (b : Bool)
  | int (k : IntKind) (n : Int)
  | str (s : ByteArray)
  | nilI
  | nilF
  | nilS
  | nilP
  | err (g : Nat)
  | fn (f : FuncId) (caps : List AV)
  | box (d i off : Nat)
  | bs (d i n : Nat)
  | el (cs : List AV)
  | sl (xs : List AV)
  | own (t : Nat) (e : TypeId) (xs : List AV)
  | agg (cs : List AV)
  | tup (vs : List AV)
  deriving Inhabited

def AV.cells : AV → List AV
  | .agg cs => cs
  | v => [v]

def AV.strip : AV → AV
  | .own _ _ xs => .sl xs
  | v => v

/-- Data: no pointer to a variable, nothing owned. -/
def AV.data : AV → Bool
  | .any => false
  | .box .. => false
  | .bs .. => false
  | .own .. => false
  | .fn _ caps => caps.isEmpty
  | _ => true

def AV.shift1 (d : Nat) : AV → AV
  | .box d' i off => .box (d' + d) i off
  | v => v

def AV.shift (d : Nat) : AV → AV
  | .box d' i off => .box (d' + d) i off
  | .bs d' i n => .bs (d' + d) i n
  | .fn f caps => .fn f (caps.map (AV.shift1 d))
  | v => v

def AV.known : AV → Bool
  | .any => false
  | _ => true

/-- The value of one cell. -/
def AV.one : AV → Bool
  | .any | .agg _ | .tup _ => false
  | _ => true

def AV.elemOk (sz : Nat) (v : AV) : Bool := v.cells.length == sz && v.cells.all AV.one

/-- The elements, if it is a slice. -/
def AV.elems : AV → Option (List AV)
  | .sl xs => some xs
  | .own _ _ xs => some xs
  | .nilS => some []
  | _ => none

inductive TyD where
  | int (k : IntKind)
  | bool
  | str
  | slice (e : TypeId)
  | struct (fs : List (Nat × TypeId))
  | arr (n : Nat) (e : TypeId)
  | iface
  | func
  | ptr (e : TypeId)
  | other
  deriving Inhabited

structure TyI where
  d : TyD
  sz : Nat
  bytes : Nat
  zero : List AV
  deriving Inhabited

abbrev BX := Nat → Option (List AV)

structure Env where
  P : Program
  ty : TypeId → Option TyI
  fns : FuncId → Option Func
  glob : Nat → Option (List AV)
  eqOk : TypeId → Bool
  keep : FuncId → Nat → Option (List Nat × List Nat)
  keepL : FuncId → Nat → Option (List Nat × List Nat)
  /-- The dynamic type of the sentinel errors; blocks that nobody touches, and what is known of them. -/
  errT : TypeId
  pinB : List Nat
  pinP : Nat → Option Obj → Prop

structure S where
  fr : Nat → AV
  bx : BX
  rest : List BX

def upd {α : Type} (f : Nat → α) (i : Nat) (v : α) : Nat → α := fun j => if j = i then v else f j

def S.put (s : S) (d : Option Nat) (v : AV) : S :=
  match d with
  | some i => { s with fr := upd s.fr i v }
  | none => s

def lookR (rest : List BX) (d i : Nat) : Option (List AV) := (rest[d]?).bind (fun f => f i)

def S.look (s : S) (d i : Nat) : Option (List AV) := lookR (s.bx :: s.rest) d i

def S.setB (s : S) (d i : Nat) (cs : List AV) : S :=
  match d with
  | 0 => { s with bx := upd s.bx i (some cs) }
  | d + 1 => { s with rest := s.rest.modify d (fun f => upd f i (some cs)) }

def killV (t : Nat) : AV → AV
  | .own t' e xs => if t' = t then .any else .own t' e xs
  | v => v

/-- What was owned under a name is forgotten. -/
def S.kill (s : S) (t : Nat) : S :=
  { fr := fun i => killV t (s.fr i), bx := fun i => (s.bx i).map (List.map (killV t)), rest := s.rest.map fun f i => (f i).map (List.map (killV t)) }

/-- The name under which a slot owns a row (even); under which a place of a variable owns it (odd): the frame's height, the variable, the place. -/
def tokS (d : Nat) : Nat := 2 * d
def S.tokB (s : S) (d i off : Nat) : Nat := 2 * ((s.rest.length - d) * 10000000 + i * 1000 + off) + 1

def AV.tokOk : AV → Bool
  | .own t _ _ => t % 2 == 1
  | _ => true

/-- Rows that a variable owns may be written by whoever sees the variable: slots forget them. -/
def dropB : AV → AV
  | .own t e xs => if t % 2 = 1 then .any else .own t e xs
  | v => v

def constA : Value → Option AV
  | .bool b => some (.bool b)
  | .int k n => some (.int k n)
  | .string s => some (.str s)
  | .nilIface => some .nilI
  | .nilFunc => some .nilF
  | .slice none 0 0 => some .nilS
  | .pointer none => some .nilP
  | _ => none

def Env.ev (E : Env) (fr : Nat → AV) : Operand → Option AV
  | .tmp t => some (fr t)
  | .const v => constA v
  | .global g => (E.glob g).map .el
  | .func f => some (.fn f [])

/-- The least place where an index may be read. -/
def sIdx (s : ByteArray) (i : Int) : Option UInt8 := if 0 ≤ i then s[i.toNat]? else none
def lIdx (xs : List AV) (i : Int) : Option AV := if 0 ≤ i then xs[i.toNat]? else none

def isConst : Operand → Bool
  | .const _ => true
  | _ => false

/-- Two cells of the same simple type. -/
def eqCell : TyD → AV → AV → Option Bool
  | .int _, .int k m, .int k' n => if k = k' then some (m == n) else none
  | .str, .str p, .str q => some (p.toList == q.toList)
  | .bool, .bool p, .bool q => some (p == q)
  | _, _, _ => none

/-- Two structs of simple fields, field by field. -/
def eqFs (E : Env) : List (Nat × TypeId) → List AV → List AV → Option Bool
  | [], _, _ => some true
  | (off, t) :: r, cs, ds => match E.ty t with
    | some i => (cs[off]?).bind fun a => (ds[off]?).bind fun b => (eqCell i.d a b).bind fun e => if e then eqFs E r cs ds else some false
    | none => none

def bitsA (op : BinOp) (k : IntKind) (m n : Int) : Option AV :=
  let a := BitVec.ofInt k.bits m
  let b := BitVec.ofInt k.bits n
  match op with
  | .and => some (.int k (k.wrap (a &&& b).toNat))
  | .or => some (.int k (k.wrap (a ||| b).toNat))
  | .xor => some (.int k (k.wrap (a ^^^ b).toNat))
  | .andNot => some (.int k (k.wrap (a &&& ~~~b).toNat))
  | _ => none

def binA (E : Env) (op : BinOp) (t : TypeId) (x y : Operand) (a b : AV) : Option AV :=
  match a, b with
  | .int k m, .int k' n =>
    match op with
    | .shl => if n < 0 then none else some (.int k (k.wrap (m * 2 ^ (min n.toNat k.bits))))
    | .shr => if n < 0 then none else some (.int k (m.fdiv (2 ^ (min n.toNat k.bits))))
    | _ =>
    if k = k' then
      match op with
      | .add => some (.int k (k.wrap (m + n)))
      | .sub => some (.int k (k.wrap (m - n)))
      | .mul => some (.int k (k.wrap (m * n)))
      | .quo => if n = 0 then none else some (.int k (k.wrap (m.tdiv n)))
      | .rem => if n = 0 then none else some (.int k (m.tmod n))
      | .eql => some (.bool (m == n))
      | .neq => some (.bool (m != n))
      | .lss => some (.bool (m < n))
      | .leq => some (.bool (m ≤ n))
      | .gtr => some (.bool (m > n))
      | .geq => some (.bool (m ≥ n))
      | op => bitsA op k m n
    else none
  | .str p, .str q =>
    match op with
    | .add => if p.size + q.size ≤ 9223372036854775807 then some (.str (p ++ q)) else none
    | .eql => some (.bool (p.toList == q.toList))
    | .neq => some (.bool (!(p.toList == q.toList)))
    | .lss => some (.bool (Op.bytesLess p.toList q.toList))
    | .leq => some (.bool (Op.bytesLess p.toList q.toList || p.toList == q.toList))
    | .gtr => some (.bool (!(Op.bytesLess p.toList q.toList || p.toList == q.toList)))
    | .geq => some (.bool (!Op.bytesLess p.toList q.toList))
    | _ => none
  | .bool p, .bool q =>
    match (E.ty t).map TyI.d with
    | some .bool =>
      match op with
      | .eql => some (.bool (p == q))
      | .neq => some (.bool (!(p == q)))
      | _ => none
    | _ => none
  | .err _, .nilI =>
    match (E.ty t).map TyI.d with
    | some .iface =>
      match op with
      | .eql => some (.bool false)
      | .neq => some (.bool true)
      | _ => none
    | _ => none
  | .nilI, .nilI =>
    match (E.ty t).map TyI.d with
    | some .iface =>
      if isConst x || isConst y then
        match op with
        | .eql => some (.bool true)
        | .neq => some (.bool false)
        | _ => none
      else none
    | _ => none
  | .agg cs, .agg ds =>
    match (E.ty t).map TyI.d with
    | some (.struct fs) =>
      if E.eqOk t then
        match op with
        | .eql => (eqFs E fs cs ds).map .bool
        | .neq => (eqFs E fs cs ds).map fun b => .bool (!b)
        | _ => none
      else none
    | _ => none
  | .box .., .nilP | .nilP, .box .. =>
    match (E.ty t).map TyI.d with
    | some (.ptr _) =>
      match op with
      | .eql => some (.bool false)
      | .neq => some (.bool true)
      | _ => none
    | _ => none
  | .box d i f, .box d' i' f' =>
    match (E.ty t).map TyI.d with
    | some (.ptr e) =>
      if d = d' ∧ i = i' ∧ f = f' ∧ ((E.ty e).map fun ei => decide (0 < ei.sz)) = some true then
        match op with
        | .eql => some (.bool true)
        | .neq => some (.bool false)
        | _ => none
      else none
    | _ => none
  | .nilP, .nilP =>
    match (E.ty t).map TyI.d with
    | some (.ptr _) =>
      match op with
      | .eql => some (.bool true)
      | .neq => some (.bool false)
      | _ => none
    | _ => none
  | _, _ => none

def intsA : List AV → Option (List Int)
  | [] => some []
  | .int .u8 n :: r => (intsA r).map (n :: ·)
  | _ => none

def pushAll (ns : List Int) : ByteArray := ns.foldl (fun r n => r.push (UInt8.ofNat n.toNat)) ByteArray.empty

def isU8 (E : Env) (e : TypeId) : Bool := match E.ty e with
  | some ⟨.int .u8, 1, _, _⟩ => true
  | _ => false

def unA (op : UnOp) (a : AV) : Option AV :=
  match op, a with
  | .not, .bool b => some (.bool !b)
  | .neg, .int k n => some (.int k (k.wrap (0 - n)))
  | _, _ => none

def convA (E : Env) (src dst : TypeId) (a : AV) : Option AV :=
  match a, (E.ty src).map TyI.d, (E.ty dst).map TyI.d with
  | .int _ n, some _, some (.int k) => some (.int k (k.wrap n))
  | .str s, some .str, some .str => some (.str s)
  | .int _ n, some (.int _), some .str => some (.str (Utf8.encode n))
  | a, some (.slice e), some .str => if isU8 E e then a.elems.bind fun xs => (intsA xs).bind fun ns => some (.str (pushAll ns)) else none
  | _, _, _ => none

/-- Cells from a place on are written over. -/
def overw (cs : List AV) (off : Nat) (vs : List AV) : List AV := cs.take off ++ vs ++ cs.drop (off + vs.length)

def fillA (E : Env) (fs : List (Nat × TypeId)) : List AV → List (Nat × AV) → Option (List AV)
  | cs, [] => some cs
  | cs, (i, v) :: r =>
    match fs[i]? with
    | none => none
    | some (off, t) =>
      match E.ty t with
      | none => none
      | some ti => if v.cells.length = ti.sz ∧ off + v.cells.length ≤ cs.length ∧ v.data = true then fillA E fs (overw cs off v.cells) r else none

def partsA (ρ : Operand → Option AV) : List (Nat × Operand) → Option (List (Nat × AV))
  | [] => some []
  | (i, x) :: r => (ρ x).bind fun v => (partsA ρ r).bind fun l => some ((i, v.strip) :: l)

def argsA (ρ : Operand → Option AV) : List Operand → Option (List AV)
  | [] => some []
  | x :: r => (ρ x).bind fun v => (argsA ρ r).bind fun l => some (v.strip :: l)

def boundA (ρ : Operand → Option AV) (d : Nat) : Option Operand → Option Int
  | none => some d
  | some x => (ρ x).bind fun v => match v with
    | .int _ n => some n
    | _ => none

def valOp (E : Env) (ρ : Operand → Option AV) : Op → Option AV
  | .move x => ρ x
  | .assign x => ρ x
  | .pick c a b => (ρ c).bind fun c => match c with
    | .bool t => if t then ρ a else ρ b
    | _ => none
  | .binOp op t x y _ => (ρ x).bind fun a => (ρ y).bind fun b => binA E op t x y a b
  | .unOp op _ x => (ρ x).bind (unA op)
  | .convert src dst x => (ρ x).bind (convA E src dst)
  | .nilCheck x => (ρ x).bind fun v => match v with
    | .box d i off => some (.box d i off)
    | .el cs => some (.el cs)
    | _ => none
  | .build t ps => match E.ty t with
    | some ⟨.struct fs, _, _, zero⟩ => (partsA ρ ps.toList).bind fun l => (fillA E fs zero l).map .agg
    | some ⟨.arr _ e, _, _, zero⟩ => match E.ty e with
      | some ti => (partsA ρ ps.toList).bind fun l => (fillA E ((List.range zero.length).map fun j => (j * ti.sz, e)) zero l).map .agg
      | none => none
    | _ => none
  | .fieldAddr t x f => match E.ty t with
    | some ⟨.struct fs, _, _, _⟩ => match fs[f]? with
      | some (off, ft) => match E.ty ft with
        | some fi => if fi.sz = 0 then none else (ρ x).bind fun v => match v with
          | .box d i o => some (.box d i (o + off))
          | .el cs => some (.el (cs.drop off))
          | _ => none
        | none => none
      | none => none
    | _ => none
  | .field t x f => match E.ty t with
    | some ⟨.struct fs, _, _, _⟩ => match fs[f]? with
      | some (off, ft) => match E.ty ft with
        | some ⟨.struct _, sz, _, _⟩ => (ρ x).bind fun v => match v with
          | .agg cs => if off + sz ≤ cs.length then some (.agg ((cs.drop off).take sz)) else none
          | _ => none
        | some ⟨.arr _ _, _, _, _⟩ => none
        | some ⟨.other, _, _, _⟩ => none
        | some _ => (ρ x).bind fun v => match v with
          | .agg cs => cs[off]?
          | _ => none
        | none => none
      | none => none
    | _ => none
  | .indexAddr t x i => (ρ x).bind fun v => (ρ i).bind fun iv => match iv with
    | .int _ n => match E.ty t with
      | some ⟨.slice e, _, _, _⟩ => match E.ty e with
        | some ei => match v with
          | .bs d j m => if 0 ≤ n ∧ n < m then some (.box d j (n.toNat * ei.sz)) else none
          | v => v.elems.bind fun xs => (lIdx xs n).bind fun y => if y.cells.length = ei.sz then some (.el y.cells) else none
        | none => none
      | some ⟨.arr len e, _, _, _⟩ => match E.ty e with
        | some ei => if 0 ≤ n ∧ n < len then match v with
            | .box d j o => some (.box d j (o + n.toNat * ei.sz))
            | .el cs => some (.el (cs.drop (n.toNat * ei.sz)))
            | _ => none
          else none
        | none => none
      | _ => none
    | _ => none
  | .index t x i => (ρ x).bind fun v => (ρ i).bind fun iv => match iv with
    | .int _ n => match E.ty t, v with
      | some ⟨.str, _, _, _⟩, .str s => (sIdx s n).bind fun b => some (.int .u8 b.toNat)
      | some ⟨.arr len e, _, _, _⟩, .agg cs => match E.ty e with
        | some ⟨.int _, 1, _, _⟩ => if 0 ≤ n ∧ n < len then cs[n.toNat]? else none
        | some ⟨.str, 1, _, _⟩ => if 0 ≤ n ∧ n < len then cs[n.toNat]? else none
        | some ⟨.bool, 1, _, _⟩ => if 0 ≤ n ∧ n < len then cs[n.toNat]? else none
        | _ => none
      | _, _ => none
    | _ => none
  | .slice t x lo hi none => (ρ x).bind fun v => match E.ty t, v with
    | some ⟨.str, _, _, _⟩, .str s => (boundA ρ 0 lo).bind fun l => (boundA ρ s.size hi).bind fun h =>
        if 0 ≤ l ∧ l ≤ h ∧ h ≤ s.size then some (.str (s.extract l.toNat h.toNat)) else none
    | some ⟨.slice e, _, _, _⟩, v => match E.ty e with
      | some ei => v.elems.bind fun xs => (boundA ρ 0 lo).bind fun l => (boundA ρ xs.length hi).bind fun h =>
        if 0 ≤ l ∧ l ≤ h ∧ h ≤ xs.length ∧ (xs.all fun y => y.cells.length == ei.sz) = true then some (.sl ((xs.take h.toNat).drop l.toNat)) else none
      | none => none
    | _, _ => none
  | .extract x i => (ρ x).bind fun v => match v with
    | .tup vs => vs[i]?
    | _ => none
  | .makeFunc (.func f) ⟨[]⟩ caps => (caps.toList.mapM ρ).bind fun l => if l.all (fun c => match c with | .box .. => true | c => c.data) then some (.fn f l) else none
  | .call ⟨.builtin .len, ⟨[x]⟩, ⟨[t]⟩⟩ => (ρ x).bind fun v => match E.ty t, v with
    | some ⟨.str, _, _, _⟩, .str s => some (.int .i64 s.size)
    | some ⟨.slice _, _, _, _⟩, .bs _ _ m => some (.int .i64 m)
    | some ⟨.slice _, _, _, _⟩, v => v.elems.bind fun xs => some (.int .i64 xs.length)
    | _, _ => none
  | .call ⟨.builtin .max, ⟨[x, y]⟩, _⟩ => (ρ x).bind fun a => (ρ y).bind fun b => match a, b with
    | .int k m, .int _ n => some (.int k (if n > m then n else m))
    | _, _ => none
  | .call ⟨.builtin .min, ⟨[x, y]⟩, _⟩ => (ρ x).bind fun a => (ρ y).bind fun b => match a, b with
    | .int k m, .int _ n => some (.int k (if n < m then n else m))
    | _, _ => none
  | _ => none

abbrev Rec := FuncId → List AV → List BX → Option (List AV × List BX)

def loadA (i : TyI) (cs : List AV) (off : Nat) : Option AV :=
  match i.d with
  | .struct _ => if off + i.sz ≤ cs.length ∧ (((cs.drop off).take i.sz).all fun c => c.strip.data) = true then some (.agg (((cs.drop off).take i.sz).map AV.strip)) else none
  | .arr _ _ => if off + i.sz ≤ cs.length ∧ (((cs.drop off).take i.sz).all fun c => c.strip.data) = true then some (.agg (((cs.drop off).take i.sz).map AV.strip)) else none
  | .other => none
  | _ => cs[off]?

/-- A result comes back to its caller: what is owned gets the caller's name. -/
def S.putRes (s : S) (draw : Bool) (dst : Option Nat) (rs : List AV) : S :=
  match rs with
  | [.own t e xs] => match draw, dst with
    | false, some d => if t % 2 = 1 then s.put dst (.sl xs) else (s.kill (tokS d)).put dst (.own (tokS d) e xs)
    | _, _ => s.put dst (.sl xs)
  | [v] => s.put dst v
  | rs => s.put dst (.tup (rs.map AV.strip))

/-- What is appended: a slice's elements, or a string's bytes. -/
def srcA (E : Env) (t u : TypeId) (b : AV) : Option (List AV) :=
  if u = t then b.elems else match b, (E.ty u).map TyI.d with
    | .str s, some .str => some (s.data.toList.map fun c => .int .u8 c.toNat)
    | _, _ => none

/-- A variable's name: its type, its slot. -/
def bid (t d : Nat) : Nat := t * 100000 + d % 100000

def stepOp (E : Env) (call : Rec) (draw : Bool) (o : Oper) (s : S) : Option S :=
  match o.op with
  | .assign (.const (.slice none 0 0)) => match draw, o.dst with
    | false, some d => match E.ty o.type with
      | some ⟨.slice e, _, _, _⟩ => some ((s.kill (tokS d)).put (some d) (.own (tokS d) e []))
      | _ => some (s.put o.dst .nilS)
    | _, _ => some (s.put o.dst .nilS)
  | .load t x => match E.ty t with
    | some i => (E.ev s.fr x).bind fun v => match v with
      | .el cs => (loadA i cs 0).bind fun v => some (s.put o.dst v)
      | .box d j off => (s.look d j).bind fun cs => (loadA i cs off).bind fun v =>
          some (s.put o.dst (v.shift d))
      | _ => none
    | none => none
  | .store t x y => match o.dst, E.ty t with
    | none, some i => (E.ev s.fr x).bind fun p => (E.ev s.fr y).bind fun v => match p with
      | .box d j off => match v with
        | .own tk e xs =>
          if draw then none else
          let nm := s.tokB d j off
          let s1 := (s.kill tk).kill nm
          (s1.look d j).bind fun cs => if i.sz = 1 ∧ off < cs.length then some (s1.setB d j (overw cs off [.own nm e xs])) else none
        | v => (s.look d j).bind fun cs =>
          if v.cells.all AV.one = true ∧ v.cells.length = i.sz ∧ off + v.cells.length ≤ cs.length ∧ (d = 0 ∨ v.data = true) then some (s.setB d j (overw cs off v.cells)) else none
      | _ => none
    | _, _ => none
  | .alloc t => match o.dst, E.ty t with
    | some d, some i => match s.bx (bid t d) with
      | none => some ((s.setB 0 (bid t d) i.zero).put (some d) (.box 0 (bid t d) 0))
      | some _ => none
    | _, _ => none
  | .box t x => match o.dst with
    | some d => match s.bx (bid t d) with
      | none => (E.ev s.fr x).bind fun v => if v.cells.all AV.one = true then some ((s.setB 0 (bid t d) v.strip.cells).put (some d) (.box 0 (bid t d) 0)) else none
      | some _ => none
    | none => none
  | .buildSlice t n ps => match o.dst, E.ty t with
    | some d, some ⟨.slice e, _, _, _⟩ => match E.ty e with
      | some ei => (partsA (E.ev s.fr) ps.toList).bind fun l =>
          if l.map (·.1) = List.range n ∧ l.length = n ∧ (l.all fun p => p.2.data && p.2.elemOk ei.sz) = true ∧ 0 < ei.sz ∧ n * ei.sz ≤ 16777216
          then some (if draw then s.put (some d) (.sl (l.map (·.2))) else (s.kill (tokS d)).put (some d) (.own (tokS d) e (l.map (·.2)))) else none
      | none => none
    | _, _ => none
  | .makeSlice t x y => if draw then none else match o.dst, E.ty t with
    | some d, some ⟨.slice e, _, _, _⟩ => match E.ty e with
      | some ei => (E.ev s.fr x).bind fun a => (E.ev s.fr y).bind fun b => match a, b with
        | .int _ m, .int _ n =>
          if 0 ≤ n ∧ n ≤ 9223372036854775807 ∧ ei.bytes * n ≤ 281474976710656 ∧ 0 < ei.sz then
            if m = 0 then some ((s.kill (tokS d)).put (some d) (.own (tokS d) e []))
            else if m = n then match s.bx (bid e d) with
              | none => some ((s.setB 0 (bid e d) ((List.replicate n.toNat ei.zero).flatten)).put (some d) (.bs 0 (bid e d) n.toNat))
              | some _ => none
            else none
          else none
        | _, _ => none
      | none => none
    | _, _ => none
  | .call ⟨.builtin .append, ⟨[x, y]⟩, ⟨[t, u]⟩⟩ => if draw then none else match o.dst, E.ty t with
    | some d, some ⟨.slice e, _, _, _⟩ => match E.ty e with
      | some ei =>
          (E.ev s.fr x).bind fun a => (E.ev s.fr y).bind fun b => (srcA E t u b).bind fun ys =>
          match a with
          | .own tk ea xs =>
            if ea = e ∧ 0 < ei.sz ∧ (xs.length + ys.length) * ei.bytes ≤ 140737488355328 ∧ xs.length + ys.length ≤ 4611686018427387904 ∧ (ys.all (AV.elemOk ei.sz)) = true
            then some ((s.kill tk).put (some d) (.own tk e (xs ++ ys))) else none
          | .nilS =>
            if 0 < ei.sz ∧ ys.length * ei.bytes ≤ 140737488355328 ∧ ys.length ≤ 4611686018427387904 ∧ (ys.all (AV.elemOk ei.sz)) = true
            then some ((s.kill (tokS d)).put (some d) (.own (tokS d) e ys)) else none
          | _ => none
      | none => none
    | _, _ => none
  | .call ⟨.value f, xs, _⟩ => (E.ev s.fr f).bind fun fv => match fv with
    | .fn g caps => (argsA (E.ev s.fr) xs.toList).bind fun l =>
        let args := l ++ caps
        if args.all AV.data = true then
          (call g args []).bind fun r => if r.2.isEmpty then some (s.putRes draw o.dst r.1) else none
        else if draw then none else
          (call g (args.map (AV.shift 1)) (s.bx :: s.rest)).bind fun r => match r.2 with
          | bx' :: rest' => some (S.putRes { fr := fun i => dropB (s.fr i), bx := bx', rest := rest' } draw o.dst r.1)
          | [] => none
    | _ => none
  | .convert src dst x => match draw, o.dst, (E.ty dst).map TyI.d, E.ev s.fr x with
    | false, some d, some (.slice e), some (.str b) => if isU8 E e && (E.ty src).isSome then match s.bx (bid e d) with
      | none => some ((s.setB 0 (bid e d) (b.data.toList.map fun c => .int .u8 c.toNat)).put (some d) (.bs 0 (bid e d) b.size))
      | some _ => none else none
    | false, _, some .str, some (.bs k i n) => match (E.ty src).map TyI.d with
      | some (.slice e) => if isU8 E e then (s.look k i).bind fun cs => if n ≤ cs.length then (intsA (cs.take n)).bind fun ns => some (s.put o.dst (.str (pushAll ns))) else none else none
      | _ => none
    | _, _, _, _ => (valOp E (E.ev s.fr) (.convert src dst x)).bind fun v => some (s.put o.dst v)
  | op => (valOp E (E.ev s.fr) op).bind fun v => some (s.put o.dst v)

/-- One operation of a region: carried out, or passed by. -/
def stepReg (E : Env) (call : Rec) (draw : Bool) (ops : Array Oper) (o : Oper) (s : S) : Option S :=
  match o.guard with
  | none => stepOp E call draw o s
  | some (j, want) => match (ops[j]?).bind (·.dst) with
    | some g => match s.fr g with
      | .bool b => if b = want then stepOp E call draw o s else some (s.put o.dst (.tup []))
      | .tup _ => some (s.put o.dst (.tup []))
      | _ => none
    | none => none

def runReg (E : Env) (call : Rec) (draw : Bool) (ops : Array Oper) : List Oper → S → Option S
  | [], s => some s
  | o :: r, s => (stepReg E call draw ops o s).bind (runReg E call draw ops r)

/-! Regions whose order is drawn: which operations may change places. -/
inductive Cls where
  | val | rd | wr | nw | cl | bar
  deriving DecidableEq

def cls : Op → Cls
  | .load _ (.global _) => .val
  | .load .. => .rd
  | .store .. => .wr
  | .alloc _ | .box .. => .nw
  | .call ⟨.builtin .len, _, _⟩ => .val
  | .call ⟨.value _, _, _⟩ => .cl
  | .call ⟨.builtin .max, _, _⟩ => .val
  | .call ⟨.builtin .min, _, _⟩ => .val
  | .call _ | .makeSlice .. => .bar
  | _ => .val

def clsOk : Cls → Cls → Bool
  | .bar, _ | _, .bar => false
  | .rd, .wr | .wr, .rd | .rd, .nw | .nw, .rd | .wr, .wr | .wr, .nw | .nw, .wr | .nw, .nw => false
  | _, _ => true

/-- For each operation the set of those that come ahead of it in whatever order (as bits). -/
def masks (ops : List Oper) : List Nat :=
  ops.foldl (fun acc o => acc ++ [o.after.toList.foldl (fun s e => if Region.binds .any e then s ||| 2 ^ e.on ||| acc.getD e.on 0 else s) 0]) []

def drawOk (ops : Array Oper) : Bool :=
  let ms := masks ops.toList
  ((List.range ops.size).all fun j => ((ops[j]?).map fun o => o.after.toList.all fun e => !Region.binds .any e || decide (e.on < j)).getD false) &&
  (List.range ops.size).all fun j => (List.range j).all fun i =>
    (ms.getD j 0).testBit i || (match ops[i]?, ops[j]? with
      | some a, some b => a.apart ops b && clsOk (cls a.op) (cls b.op)
      | _, _ => false)

def ofL : List (Nat × AV) → Nat → AV
  | [], _ => .any
  | (j, v) :: l, i => if i = j then v else ofL l i

def ofB : List (Nat × Option (List AV)) → BX
  | [], _ => none
  | (j, v) :: l, i => if i = j then v else ofB l i

/-- A value that leads to a variable that is not kept is forgotten. -/
def san1 (bs : List Nat) : AV → Bool
  | .box 0 i _ => bs.contains i
  | _ => true

def san (bs : List Nat) : AV → AV
  | .box 0 i off => if bs.contains i then .box 0 i off else .any
  | .bs 0 i n => if bs.contains i then .bs 0 i n else .any
  | .fn f caps => if caps.all (san1 bs) then .fn f caps else .any
  | v => v

/-- Only the named slots and variables are kept. -/
def S.tidy (s : S) : Option (List Nat × List Nat) → S
  | none => s
  | some (ks, bs) => { s with fr := ofL (ks.map fun k => (k, san bs (s.fr k))), bx := ofB (bs.map fun i => (i, (s.bx i).map (List.map (san bs)))) }

inductive Ex where
  | normal
  | exit (id : Nat)
  | ret

def iter : Nat → (S → Option (Ex × S)) → S → Option (Ex × S)
  | 0, _, _ => none
  | n + 1, g, s => (g s).bind fun r => match r.1 with
    | .normal => iter n g r.2
    | x => some (x, r.2)

open Classical in
/-- As many rounds as it takes. -/
noncomputable def iterL (g : S → Option (Ex × S)) (s : S) : Option (Ex × S) := if h : ∃ r n, iter n g s = some r then some h.choose else none

def headId : Code → Nat
  | .region id _ _ => id
  | .seq a b => match a with
    | .skip => headId b
    | _ => headId a
  | .cond _ a _ => headId a
  | .block _ c => headId c
  | .loop c => headId c
  | _ => 0

def tidyN (k : Option (List Nat × List Nat)) (r : Ex × S) : Ex × S := match r.1 with
  | .normal => (.normal, r.2.tidy k)
  | _ => r

def exec (E : Env) (call : Rec) (it : (S → Option (Ex × S)) → S → Option (Ex × S)) (f : FuncId) : Code → S → Option (Ex × S)
  | .skip, s => some (.normal, s)
  | .region id ops draw, s => (runReg E call draw ops ops.toList s).bind fun s' => some (.normal, s'.tidy (E.keep f id))
  | .seq a b, s => (exec E call it f a s).bind fun r => match r.1 with
    | .normal => exec E call it f b r.2
    | x => some (x, r.2)
  | .cond c a b, s => match E.ev s.fr c with
    | some (.bool t) => if t then exec E call it f a s else exec E call it f b s
    | _ => none
  | .block id c, s => (exec E call it f c s).bind fun r => match r.1 with
    | .exit j => if j = id then some (.normal, r.2) else some (.exit j, r.2)
    | x => some (x, r.2)
  | .loop c, s => it (fun s => (exec E call it f c s).map (tidyN (E.keepL f (headId c)))) (s.tidy (E.keepL f (headId c)))
  | .exit id, s => some (.exit id, s)
  | .ret, s => some (.ret, s)
  | .scope c, s => exec E call it f c s
  | .label _, s => some (.normal, s)
  | _, _ => none

/-- What is looked at once a function: the slots that are written are there; where an order is drawn it doesn't matter. -/
def codeOk (nt : Nat) : Code → Bool
  | .region _ ops draw => (ops.all fun o => match o.dst with | some d => decide (d < nt) | none => true) && (!draw || drawOk ops)
  | .seq a b => codeOk nt a && codeOk nt b
  | .cond _ a b => codeOk nt a && codeOk nt b
  | .block _ c => codeOk nt c
  | .loop c => codeOk nt c
  | .scope c => codeOk nt c
  | _ => true

def resA (E : Env) (s : S) : List ResultVar → Option (List AV)
  | [] => some []
  | .tmp t :: r => (resA E s r).bind fun l => some (s.fr t :: l)
  | .cell a t :: r => match s.fr a, E.ty t with
    | .box 0 j off, some i => (s.bx j).bind fun cs => (loadA i cs off).bind fun v => (resA E s r).bind fun l => some (v :: l)
    | _, _ => none

def resOk (v : AV) : Bool := v.strip.data

/-- What is seen from outside: a function's body run, its results taken. -/
def body (E : Env) (call : Rec) (it : (S → Option (Ex × S)) → S → Option (Ex × S)) (f : FuncId) (args : List AV) (rest : List BX) : Option (List AV × List BX) :=
  (E.fns f).bind fun fn => fn.body.bind fun c =>
    (exec E call it f c ⟨fun i => args.getD i .any, fun _ => none, rest⟩).bind fun r => match r.1 with
      | .exit _ => none
      | _ => (resA E r.2 fn.results.toList).bind fun rs => if rs.all resOk then some (rs, r.2.rest) else none

/-- So many calls deep, so many rounds: for trying out. -/
def callN (E : Env) (ext : Rec) (k : Nat) : Nat → Rec
  | 0, _, _, _ => none
  | n + 1, f, args, rest => match ext f args rest with
    | some r => some r
    | none => body E (callN E ext k n) (iter k) f args rest

end Go.Avm

/-
  The abstract machine, part 2: what its values stand for in the model's memory, and that its plain operations compute what the model computes. No condition but those named.
-/
namespace Go.Avm
set_option linter.unusedVariables false

abbrev Ext := Nat → Option Nat

/-- A cell that is never written again. -/
def St (x : Ext) (a : Addr) : Prop := ∀ n, x a.block = some n → a.off < n

inductive RepD (G : Nat → Value) (x : Ext) (w : World) : AV → Value → Prop
  | any (v : Value) : RepD G x w .any v
  | bool (b : Bool) : RepD G x w (.bool b) (.bool b)
  | int (k : IntKind) (n : Int) : RepD G x w (.int k n) (.int k n)
  | str (s : ByteArray) : RepD G x w (.str s) (.string s)
  | nilI : RepD G x w .nilI .nilIface
  | nilF : RepD G x w .nilF .nilFunc
  | nilS : RepD G x w .nilS (.slice none 0 0)
  | nilP : RepD G x w .nilP (.pointer none)
  | err (g : Nat) : RepD G x w (.err g) (G g)
  | fn (f : FuncId) : RepD G x w (.fn f []) (.func (.func f) #[] #[])
  | sl0 (A : Option Addr) (c : Nat) : RepD G x w (.sl []) (.slice A 0 c)
  | sl (xs : List AV) (ad : Addr) (c sz : Nat) (f : Nat → Nat → Value) (hl : xs.length ≤ c)
      (hs : ∀ (i : Nat) (y : AV), xs[i]? = some y → y.cells.length = sz)
      (hc : ∀ (i j : Nat) (y u : AV), xs[i]? = some y → y.cells[j]? = some u → w.cell? (ad.add (i * sz + j)) = some (f i j) ∧ St x (ad.add (i * sz + j)))
      (hr : ∀ (i j : Nat) (y u : AV), xs[i]? = some y → y.cells[j]? = some u → RepD G x w u (f i j)) : RepD G x w (.sl xs) (.slice (some ad) xs.length c)
  | agg (cs : List AV) (vs : List Value) (hl : cs.length = vs.length) (hr : ∀ (j : Nat) (u : AV) (v : Value), cs[j]? = some u → vs[j]? = some v → RepD G x w u v) :
      RepD G x w (.agg cs) (.agg vs.toArray)
  | tup (cs : List AV) (vs : List Value) (hl : cs.length = vs.length) (hr : ∀ (j : Nat) (u : AV) (v : Value), cs[j]? = some u → vs[j]? = some v → RepD G x w u v) :
      RepD G x w (.tup cs) (.tuple vs.toArray)
  | el (cs : List AV) (ad : Addr) (f : Nat → Value)
      (hc : ∀ (j : Nat) (u : AV), cs[j]? = some u → w.cell? (ad.add j) = some (f j) ∧ St x (ad.add j))
      (hr : ∀ (j : Nat) (u : AV), cs[j]? = some u → RepD G x w u (f j)) : RepD G x w (.el cs) (.pointer (some ad))

theorem RepD.mono {G : Nat → Value} {x x' : Ext} {w w' : World} (H : ∀ ad u, w.cell? ad = some u → St x ad → w'.cell? ad = some u ∧ St x' ad) {a : AV} {v : Value}
    (h : RepD G x w a v) : RepD G x' w' a v := by
  induction h with
  | any v => exact .any v
  | bool b => exact .bool b
  | int k n => exact .int k n
  | str s => exact .str s
  | nilI => exact .nilI
  | nilF => exact .nilF
  | nilS => exact .nilS
  | nilP => exact .nilP
  | err g => exact .err g
  | fn f => exact .fn f
  | sl0 A c => exact .sl0 A c
  | sl xs ad c sz f hl hs hc hr ih =>
    exact .sl xs ad c sz f hl hs (fun i j y u h1 h2 => H _ _ (hc i j y u h1 h2).1 (hc i j y u h1 h2).2) (fun i j y u h1 h2 => ih i j y u h1 h2)
  | agg cs vs hl hr ih => exact .agg cs vs hl (fun j u v h1 h2 => ih j u v h1 h2)
  | tup cs vs hl hr ih => exact .tup cs vs hl (fun j u v h1 h2 => ih j u v h1 h2)
  | el cs ad f hc hr ih => exact .el cs ad f (fun j u h1 => H _ _ (hc j u h1).1 (hc j u h1).2) (fun j u h1 => ih j u h1)

structure Gh where
  x : Ext
  m : Nat → Nat → Option Nat
  r : Nat → Option Nat

def OwnOK (P : Program) (h : Gh) (w : World) (t : Nat) (e : TypeId) (xs : List AV) (v : Value) : Prop :=
  (xs = [] ∧ v = .slice none 0 0) ∨
  ∃ (g cap : Nat) (cs : Array Value) (i : TypeInfo), v = .slice (some ⟨g, 0, none⟩) xs.length cap ∧ w.heap[g]? = some (.cells cs e (0, 0)) ∧ P.info? e = some i ∧
    cs.size = cap * i.size ∧ xs.length ≤ cap ∧ cap ≤ maxLen ∧ h.r t = some g ∧ h.x g = some (xs.length * i.size) ∧ ∀ y ∈ xs, y.cells.length = i.size

def RepC (G : Nat → Value) (x : Ext) (w : World) (m : Nat → Nat → Option Nat) : AV → Value → Prop
  | .box d i off, v => ∃ g, m d i = some g ∧ v = .pointer (some ⟨g, off, none⟩)
  | .own .., _ => False
  | .bs .., _ => False
  | .fn f caps, v => caps = [] ∧ v = .func (.func f) #[] #[]
  | c, v => RepD G x w c v

def Rep (P : Program) (G : Nat → Value) (h : Gh) (w : World) : AV → Value → Prop
  | .box d i off, v => ∃ g, h.m d i = some g ∧ v = .pointer (some ⟨g, off, none⟩)
  | .bs d i n, v => ∃ g cap, h.m d i = some g ∧ n ≤ cap ∧ v = .slice (some ⟨g, 0, none⟩) n cap
  | .own t e xs, v => RepD G h.x w (.sl xs) v ∧ OwnOK P h w t e xs v
  | .fn f caps, v => ∃ vs : List Value, v = .func (.func f) #[] vs.toArray ∧ caps.length = vs.length ∧ ∀ (j : Nat) (c : AV) (u : Value), caps[j]? = some c → vs[j]? = some u → RepC G h.x w h.m c u
  | a, v => RepD G h.x w a v

section
variable {P : Program} {G : Nat → Value} {h : Gh} {w : World}

theorem repC_data {c : AV} {v : Value} (hd : c.data = true) (H : RepD G h.x w c v) : RepC G h.x w h.m c v := by
  cases c <;> simp_all [AV.data, RepC]
  cases H; rfl

theorem rep_of_data {a : AV} {v : Value} (H : RepD G h.x w a v) (hd : a.data = true) : Rep P G h w a v := by
  cases a <;> simp_all [AV.data, Rep]
  cases H
  exact ⟨[], by simp⟩

theorem rep_data {a : AV} {v : Value} (hd : a.data = true) (H : Rep P G h w a v) : RepD G h.x w a v := by
  cases a <;> simp_all [AV.data, Rep]
  obtain ⟨vs, rfl, hl⟩ := H
  have : vs = [] := List.eq_nil_of_length_eq_zero hl.symm
  subst this
  exact .fn _

/-- What is owned may be read. -/
theorem rep_strip {a : AV} {v : Value} (H : Rep P G h w a v) : Rep P G h w a.strip v := by
  cases a <;> try exact H
  exact H.1

theorem rep_strip_data {a : AV} {v : Value} (H : Rep P G h w a v) (hd : a.strip.data = true) : RepD G h.x w a.strip v := rep_data hd (rep_strip H)

theorem rep_any (v : Value) : Rep P G h w .any v := RepD.any v

theorem rep_agg {cs : List AV} {v : Value} (H : Rep P G h w (.agg cs) v) : ∃ vs : List Value, v = .agg vs.toArray ∧ cs.length = vs.length ∧ ∀ (j : Nat) (u : AV) (v : Value), cs[j]? = some u → vs[j]? = some v → RepD G h.x w u v := by
  cases H with
  | agg _ vs hl hr => exact ⟨vs, rfl, hl, hr⟩
end

/-! The types' table. -/
inductive ZeroC : AV → Value → Prop
  | bool : ZeroC (.bool false) (.bool false)
  | int (k : IntKind) : ZeroC (.int k 0) (.int k 0)
  | str : ZeroC (.str ⟨#[]⟩) (.string ⟨#[]⟩)
  | nilI : ZeroC .nilI .nilIface
  | nilF : ZeroC .nilF .nilFunc
  | nilS : ZeroC .nilS (.slice none 0 0)
  | nilP : ZeroC .nilP (.pointer none)
  | any (v : Value) : ZeroC .any v

theorem ZeroC.rep {G : Nat → Value} {x : Ext} {w : World} {c : AV} {v : Value} (h : ZeroC c v) : RepD G x w c v := by
  cases h <;> constructor

theorem ZeroC.one {c : AV} {v : Value} (h : ZeroC c v) : c.cells = [c] := by cases h <;> rfl

def Und (P : Program) (t : TypeId) : TyD → Prop
  | .int k => P.underlying t = some (.int k)
  | .bool => P.underlying t = some .bool
  | .str => P.underlying t = some .string
  | .slice e => P.underlying t = some (.slice e)
  | .struct fs => ∃ fields : Array Field, P.underlying t = some (.struct fields) ∧ fields.toList.map (fun f => (f.offset, f.type)) = fs
  | .arr n e => P.underlying t = some (.array n e)
  | .iface => ∃ ms, P.underlying t = some (.interface ms)
  | .func => ∃ a b c, P.underlying t = some (.func a b c)
  | .ptr e => P.underlying t = some (.pointer e)
  | .other => ∃ d, P.underlying t = some d

structure TyOk (P : Program) (t : TypeId) (i : TyI) : Prop where
  info : ∃ (inf : TypeInfo) (z : Value), P.info? t = some inf ∧ inf.size = i.sz ∧ inf.bytes = i.bytes ∧ inf.zero = some z ∧ i.zero.length = z.cells.size ∧ i.zero.length = i.sz ∧
    ∀ (j : Nat) (c : AV) (u : Value), i.zero[j]? = some c → z.cells[j]? = some u → ZeroC c u
  und : Und P t i.d

structure Env.Ok (E : Env) : Prop where
  ty : ∀ t i, E.ty t = some i → TyOk E.P t i
  fns : ∀ f fn, E.fns f = some fn → E.P.funcs[f]? = some fn ∧ (fn.name == "runtime.NumGoroutine") = false ∧ ∀ c, fn.body = some c → codeOk fn.ntmps c = true
  mixed : E.P.follows .mixedOrders = true
  eqs : ∀ t, E.eqOk t = true → E.P.stoodInHeld t = false ∧ E.P.eqGuardType E.P.depth t = false ∧ ∀ fields, E.P.underlying t = some (.struct fields) → ∀ f ∈ fields, f.name ≠ "_"
  closed : ∀ t i fs, E.ty t = some i → i.d = .struct fs → ∀ p ∈ fs, (E.ty p.2).isSome = true

theorem TyOk.sizeOf {P : Program} {t : TypeId} {i : TyI} (h : TyOk P t i) (w : World) : (Go.sizeOf t).run P w = .ok i.sz w := by
  obtain ⟨inf, z, h1, h2, _⟩ := h.info
  simp [Go.sizeOf, typeInfo, h1, h2]

theorem TyOk.isAgg {P : Program} {t : TypeId} {i : TyI} (h : TyOk P t i) (w : World) :
    (match i.d with | .struct _ => True | .arr _ _ => True | _ => False) → (Go.isAgg t).run P w = .ok true w := by
  have hu := h.und
  intro hd
  cases hi : i.d <;> simp only [hi] at hd hu <;> simp only [Und] at hu
  · obtain ⟨fields, hf, _⟩ := hu
    simp [Go.isAgg, run_underlying hf]
  · simp [Go.isAgg, run_underlying hu]

theorem TyOk.notAgg {P : Program} {t : TypeId} {i : TyI} (h : TyOk P t i) (w : World) :
    (match i.d with | .struct _ => False | .arr _ _ => False | .other => False | _ => True) → (Go.isAgg t).run P w = .ok false w := by
  have hu := h.und
  intro hd
  cases hi : i.d <;> simp only [hi] at hd hu <;> simp only [Und] at hu <;> first
    | (obtain ⟨a, b, c, hu⟩ := hu; simp [Go.isAgg, run_underlying hu])
    | (obtain ⟨a, hu⟩ := hu; simp [Go.isAgg, run_underlying hu])
    | simp [Go.isAgg, run_underlying hu]

theorem TyOk.zeroValue {P : Program} {t : TypeId} {i : TyI} (h : TyOk P t i) : ∃ z : Value, (∀ w, (Go.zeroValue t).run P w = .ok z w) ∧ i.zero.length = z.cells.size ∧ i.zero.length = i.sz ∧
    ∀ (j : Nat) (c : AV) (u : Value), i.zero[j]? = some c → z.cells[j]? = some u → ZeroC c u := by
  obtain ⟨inf, z, h1, h2, h3, h4, h5, h6, h7⟩ := h.info
  exact ⟨z, fun w => by simp [Go.zeroValue, typeInfo, h1, h4], h5, h6, h7⟩

/-! Operands. -/
structure Ctx (E : Env) (G : Nat → Value) (h : Gh) (fr : Nat → AV) (a : Act) (w : World) : Prop where
  slots : ∀ i, Rep E.P G h w (fr i) (a.tmps.getD i undef)
  glob : ∀ g cs, E.glob g = some cs → RepD G h.x w (.el cs) (.pointer (some ⟨g, 0, none⟩))
  ifaces : ∀ g, ∃ T u, G g = .iface T u

section
variable {E : Env} {G : Nat → Value} {h : Gh} {fr : Nat → AV} {a : Act} {w : World}

theorem constA_rep {v : Value} {c : AV} (hc : constA v = some c) : RepD G h.x w c v := by
  unfold constA at hc
  split at hc <;> first | (cases hc; constructor) | simp at hc
theorem constA_data {v : Value} {c : AV} (hc : constA v = some c) : c.data = true := by
  unfold constA at hc
  split at hc <;> first | (cases hc; rfl) | simp at hc

theorem ev_sound (hc : Ctx E G h fr a w) {x : Operand} {v : AV} (hv : E.ev fr x = some v) : Rep E.P G h w v (a.eval x) := by
  cases x with
  | tmp t => simp only [Env.ev, Option.some.injEq] at hv; subst hv; exact hc.slots t
  | const c => exact rep_of_data (constA_rep hv) (constA_data hv)
  | global g =>
    simp only [Env.ev, Option.map_eq_some_iff] at hv
    obtain ⟨cs, hcs, rfl⟩ := hv
    exact hc.glob g cs hcs
  | func f => simp only [Env.ev, Option.some.injEq] at hv; subst hv; exact ⟨[], rfl, rfl, by simp⟩

theorem rep_elems {P : Program} {v : AV} {u : Value} {xs : List AV} (H : Rep P G h w v u) (he : v.elems = some xs) : ∃ A c, u = .slice A xs.length c ∧ xs.length ≤ c ∧ RepD G h.x w (.sl xs) u := by
  have H' : RepD G h.x w (.sl xs) u := by
    cases v <;> simp only [AV.elems, Option.some.injEq, reduceCtorEq] at he
    · subst he; cases H; exact .sl0 _ _
    · subst he; exact H
    · subst he; exact H.1
  cases H' with
  | sl0 A c => exact ⟨A, c, rfl, Nat.zero_le _, .sl0 A c⟩
  | sl _ ad c sz f hl hs hc hr => exact ⟨_, c, rfl, hl, .sl xs ad c sz f hl hs hc hr⟩

end
end Go.Avm

/-
  The abstract machine, part 3: each operation that only computes a value computes the model's.
-/
namespace Go.Avm
set_option linter.unusedVariables false
set_option linter.unusedSimpArgs false

section
variable {E : Env} {G : Nat → Value} {h : Gh} {fr : Nat → AV} {a : Act} {w : World}

/-- What a value operation must do. -/
def Does (E : Env) (G : Nat → Value) (h : Gh) (a : Act) (w : World) (o : Oper) (v : AV) : Prop :=
  ∃ u, (execOp a.eval o).run E.P w = .ok (.value u) w ∧ Rep E.P G h w v u

theorem rep_int {P : Program} {k : IntKind} {n : Int} {u : Value} (H : Rep P G h w (.int k n) u) : u = .int k n := by cases H; rfl
theorem rep_bool {P : Program} {b : Bool} {u : Value} (H : Rep P G h w (.bool b) u) : u = .bool b := by cases H; rfl
theorem rep_str {P : Program} {s : ByteArray} {u : Value} (H : Rep P G h w (.str s) u) : u = .string s := by cases H; rfl
theorem rep_nilI {P : Program} {u : Value} (H : Rep P G h w .nilI u) : u = .nilIface := by cases H; rfl
theorem rep_err {P : Program} {g : Nat} {u : Value} (H : Rep P G h w (.err g) u) : u = G g := by cases H; rfl
theorem mk_int (P : Program) (k : IntKind) (n : Int) : Rep P G h w (.int k n) (.int k n) := RepD.int k n
theorem mk_bool (P : Program) (b : Bool) : Rep P G h w (.bool b) (.bool b) := RepD.bool b
theorem mk_str (P : Program) (s : ByteArray) : Rep P G h w (.str s) (.string s) := RepD.str s

theorem und_of {E : Env} (hE : E.Ok) {t : TypeId} {d : TyD} (ht : (E.ty t).map TyI.d = some d) : Und E.P t d := by
  obtain ⟨i, hi, rfl⟩ := Option.map_eq_some_iff.1 ht
  exact (hE.ty t i hi).und

theorem run_eql_bool {P : Program} {t : TypeId} (ht : P.underlying t = some .bool) (p q : Bool) (w : World) : (Go.binOp .eql t (.bool p) (.bool q)).run P w = .ok (.bool (p == q)) w := by
  have : ∀ d, (Op.equalIn (d + 1) t (.bool p) (.bool q)).run P w = .ok (p == q) w := fun d => by simp [Op.equalIn, run_underlying ht]
  simp only [Go.binOp]
  simp [Op.equal, Op.maxDepth, this 9999]
theorem run_neq_bool {P : Program} {t : TypeId} (ht : P.underlying t = some .bool) (p q : Bool) (w : World) : (Go.binOp .neq t (.bool p) (.bool q)).run P w = .ok (.bool (!(p == q))) w := by
  have : ∀ d, (Op.equalIn (d + 1) t (.bool p) (.bool q)).run P w = .ok (p == q) w := fun d => by simp [Op.equalIn, run_underlying ht]
  simp only [Go.binOp]
  simp [Op.equal, Op.maxDepth, this 9999]
theorem run_eql_ifn {P : Program} {t : TypeId} {ms : Array (String × TypeId)} (ht : P.underlying t = some (.interface ms)) (T : TypeId) (u : Value) (w : World) : (Go.binOp .eql t (.iface T u) .nilIface).run P w = .ok (.bool false) w := by
  have : ∀ d, (Op.equalIn (d + 1) t (.iface T u) .nilIface).run P w = .ok false w := fun d => by simp [Op.equalIn, run_underlying ht]
  simp only [Go.binOp]
  simp [Op.equal, Op.maxDepth, this 9999]
theorem run_neq_ifn {P : Program} {t : TypeId} {ms : Array (String × TypeId)} (ht : P.underlying t = some (.interface ms)) (T : TypeId) (u : Value) (w : World) : (Go.binOp .neq t (.iface T u) .nilIface).run P w = .ok (.bool true) w := by
  have : ∀ d, (Op.equalIn (d + 1) t (.iface T u) .nilIface).run P w = .ok false w := fun d => by simp [Op.equalIn, run_underlying ht]
  simp only [Go.binOp]
  simp [Op.equal, Op.maxDepth, this 9999]
theorem run_eql_nn {P : Program} {t : TypeId} {ms : Array (String × TypeId)} (ht : P.underlying t = some (.interface ms)) (w : World) : (Go.binOp .eql t .nilIface .nilIface).run P w = .ok (.bool true) w := by
  have : ∀ d, (Op.equalIn (d + 1) t .nilIface .nilIface).run P w = .ok true w := fun d => by simp [Op.equalIn, run_underlying ht]
  simp only [Go.binOp]
  simp [Op.equal, Op.maxDepth, this 9999]
theorem run_neq_nn {P : Program} {t : TypeId} {ms : Array (String × TypeId)} (ht : P.underlying t = some (.interface ms)) (w : World) : (Go.binOp .neq t .nilIface .nilIface).run P w = .ok (.bool false) w := by
  have : ∀ d, (Op.equalIn (d + 1) t .nilIface .nilIface).run P w = .ok true w := fun d => by simp [Op.equalIn, run_underlying ht]
  simp only [Go.binOp]
  simp [Op.equal, Op.maxDepth, this 9999]

theorem rep_nilP {P : Program} {u : Value} (H : Rep P G h w .nilP u) : u = .pointer none := by cases H; rfl

theorem run_eql_ptr {P : Program} {t e : TypeId} (ht : P.underlying t = some (.pointer e)) (a b : Option Addr) (hab : a = none ∨ b = none) (w : World) :
    (Go.binOp .eql t (.pointer a) (.pointer b)).run P w = .ok (.bool (a.isNone && b.isNone)) w ∧ (Go.binOp .neq t (.pointer a) (.pointer b)).run P w = .ok (.bool (!(a.isNone && b.isNone))) w := by
  have : ∀ d, (Op.equalIn (d + 1) t (.pointer a) (.pointer b)).run P w = .ok (a.isNone && b.isNone) w := fun d => by
    rcases hab with rfl | rfl
    · simp [Op.equalIn, run_underlying ht]
    · cases a <;> simp [Op.equalIn, run_underlying ht]
  constructor
  · simp only [Go.binOp]
    simp [Op.equal, Op.maxDepth, this 9999]
  · simp only [Go.binOp]
    simp [Op.equal, Op.maxDepth, this 9999]

theorem run_eql_same {P : Program} {t e : TypeId} {n : Nat} (ht : P.underlying t = some (.pointer e)) (hs : ∀ w, (Go.sizeOf e).run P w = .ok n w) (hn : 0 < n) (a : Addr) (w : World) :
    (Go.binOp .eql t (.pointer (some a)) (.pointer (some a))).run P w = .ok (.bool true) w ∧ (Go.binOp .neq t (.pointer (some a)) (.pointer (some a))).run P w = .ok (.bool false) w := by
  have hne : n ≠ 0 := by omega
  have : ∀ d, (Op.equalIn (d + 1) t (.pointer (some a)) (.pointer (some a))).run P w = .ok true w := fun d => by
    simp [Op.equalIn, run_underlying ht, hs, hne, sameAddr]
  constructor
  · simp only [Go.binOp]
    simp [Op.equal, Op.maxDepth, this 9999]
  · simp only [Go.binOp]
    simp [Op.equal, Op.maxDepth, this 9999]

theorem eqGuard_ptr {op : BinOp} {t : TypeId} {x y : Operand} (a b : Option Addr) : eqGuard op t x y (.pointer a) (.pointer b) = pure () := by
  cases op <;> rfl

theorem eqCell_sound {P : Program} {x : Ext} {a b : AV} {u v : Value} {r : Bool} {t : TypeId} {i : TyI} (ht : TyOk P t i) (h : eqCell i.d a b = some r) (ha : RepD G x w a u) (hb : RepD G x w b v) (d : Nat) :
    (Op.equalIn (d + 1) t u v).run P w = .ok r w ∧ (match i.d with | .struct _ => False | .arr _ _ => False | .other => False | _ => True) := by
  have hu := ht.und
  unfold eqCell at h
  split at h
  · rename_i k0 k m k' n hd
    split at h
    · rename_i hkk
      subst hkk
      simp only [Option.some.injEq] at h
      subst h
      rw [hd] at hu
      cases ha
      cases hb
      exact ⟨run_equalIn_int w d t k k0 m n hu, by rw [hd]; trivial⟩
    · simp at h
  · rename_i p q hd
    simp only [Option.some.injEq] at h
    subst h
    rw [hd] at hu
    cases ha
    cases hb
    exact ⟨run_equalIn_string w d t p q hu, by rw [hd]; trivial⟩
  · rename_i p q hd
    simp only [Option.some.injEq] at h
    subst h
    rw [hd] at hu
    cases ha
    cases hb
    exact ⟨run_equalIn_bool' w d t p q hu, by rw [hd]; trivial⟩
  · simp at h

theorem eqFs_sound (hE : E.Ok) {x : Ext} {cs ds : List AV} {us vs : List Value} (hcl : cs.length = us.length) (hdl : ds.length = vs.length)
    (hc : ∀ (j : Nat) (c : AV) (u : Value), cs[j]? = some c → us[j]? = some u → RepD G x w c u) (hd : ∀ (j : Nat) (c : AV) (u : Value), ds[j]? = some c → vs[j]? = some u → RepD G x w c u) (d : Nat) :
    ∀ (fl : List Field) (r : Bool), (∀ f ∈ fl, f.name ≠ "_") → eqFs E (fl.map fun f => (f.offset, f.type)) cs ds = some r → (Op.eqFields (d + 1) us.toArray vs.toArray fl).run E.P w = .ok r w
  | [], r, _, h => by simp [eqFs] at h; subst h; rfl
  | f :: fl, r, hn, h => by
    simp only [List.map_cons, eqFs] at h
    split at h
    · rename_i i hi
      simp only [Option.bind_eq_some_iff] at h
      obtain ⟨p, hp, q, hq, e, he, h⟩ := h
      have hlp : f.offset < us.length := by have := (List.getElem?_eq_some_iff.1 hp).1; omega
      have hlq : f.offset < vs.length := by have := (List.getElem?_eq_some_iff.1 hq).1; omega
      obtain ⟨h1, h2⟩ := eqCell_sound (hE.ty _ _ hi) he (hc _ p us[f.offset] hp (by simp)) (hd _ q vs[f.offset] hq (by simp)) d
      have hag := (hE.ty _ _ hi).notAgg w h2
      have hpa : (part f.type us.toArray f.offset).run E.P w = .ok us[f.offset] w := by simp [part, hag, hlp]
      have hpb : (part f.type vs.toArray f.offset).run E.P w = .ok vs[f.offset] w := by simp [part, hag, hlq]
      have hname : f.name ≠ "_" := hn f List.mem_cons_self
      simp only [Op.eqFields, if_pos hname, Sem.run_bind, hpa, hpb, h1, Result.andThen_ok]
      cases e with
      | true =>
        simp only [if_true] at h
        simp only [Bool.not_true, Bool.false_eq_true, if_false]
        exact eqFs_sound hE hcl hdl hc hd d fl r (fun g hg => hn g (List.mem_cons_of_mem _ hg)) h
      | false =>
        simp only [Bool.false_eq_true, if_false, Option.some.injEq] at h
        subst h
        rfl
    · simp at h

theorem binA_sound (hE : E.Ok) (hc : Ctx E G h fr a w) {op : BinOp} {t : TypeId} {x y : Operand} {p q r : AV} (hp : E.ev fr x = some p) (hq : E.ev fr y = some q)
    (hr : binA E op t x y p q = some r) : ∃ u, (do eqGuard op t x y (a.eval x) (a.eval y); Go.binOp op t (a.eval x) (a.eval y) : Sem Value).run E.P w = .ok u w ∧ Rep E.P G h w r u := by
  have h1 := ev_sound hc hp
  have h2 := ev_sound hc hq
  unfold binA at hr
  split at hr
  · -- numbers
    rename_i k m k' n
    rw [rep_int h1, rep_int h2]
    split at hr
    · split at hr
      · simp at hr
      · rename_i hn
        simp only [Option.some.injEq] at hr
        subst hr
        refine ⟨_, ?_, mk_int _ _ _⟩
        simp only [Go.binOp, Op.shift, if_neg hn]
        rfl
    · split at hr
      · simp at hr
      · rename_i hn
        simp only [Option.some.injEq] at hr
        subst hr
        refine ⟨_, ?_, mk_int _ _ _⟩
        simp only [Go.binOp, Op.shift, if_neg hn]
        rfl
    · split at hr
      · rename_i hk
        subst hk
        split at hr <;> first
          | (simp only [Option.some.injEq] at hr; subst hr; refine ⟨_, ?_, mk_int _ _ _⟩; simp [go_sem]; done)
          | (simp only [Option.some.injEq] at hr; subst hr; refine ⟨_, ?_, mk_bool _ _⟩; simp [go_sem]; done)
          | (split at hr; · simp at hr
             rename_i hn
             simp only [Option.some.injEq] at hr; subst hr; refine ⟨_, ?_, mk_int _ _ _⟩; simp [go_sem, hn]; done)
          | (unfold bitsA at hr
             simp only at hr
             split at hr <;> first
               | (simp only [Option.some.injEq] at hr; subst hr; refine ⟨_, ?_, mk_int _ _ _⟩; simp [Go.binOp, Op.intBits, eqGuard]; done)
               | simp at hr
               | contradiction)
          | simp at hr
      · simp at hr
  · rename_i s1 s2
    rw [rep_str h1, rep_str h2]
    split at hr <;> first
      | (split at hr
         · rename_i hn
           simp only [Option.some.injEq] at hr; subst hr; refine ⟨_, ?_, mk_str _ _⟩
           have hn' : ¬ ((s1.size + s2.size : Nat) : Int) > 9223372036854775807 := by omega
           simp only [eqGuard_add, Go.binOp, Op.stringOp, IntKind.max_i64, if_neg hn']
           rfl
         · simp at hr)
      | (simp only [Option.some.injEq] at hr; subst hr; refine ⟨_, ?_, mk_bool _ _⟩; simp [Go.binOp, Op.stringOp, eqGuard_at_string])
      | simp at hr
  · rename_i b1 b2
    split at hr
    · rename_i ht
      have hu : E.P.underlying t = some .bool := und_of hE ht
      rw [rep_bool h1, rep_bool h2]
      split at hr <;> first
        | (simp only [Option.some.injEq] at hr; subst hr; refine ⟨_, ?_, mk_bool _ _⟩; simp only [eqGuard_at_bool, Sem.run_bind, Sem.run_pure, Result.andThen_ok, run_eql_bool hu, run_neq_bool hu])
        | simp at hr
    · simp at hr
  · rename_i g
    split at hr
    · rename_i ht
      obtain ⟨ms, hu⟩ := und_of hE ht
      obtain ⟨T, u, hG⟩ := hc.ifaces g
      rw [rep_err h1, rep_nilI h2, hG]
      split at hr <;> first
        | (simp only [Option.some.injEq] at hr; subst hr; refine ⟨_, ?_, mk_bool _ _⟩; simp only [eqGuard_at_iface, Sem.run_bind, Sem.run_pure, Result.andThen_ok, run_eql_ifn hu, run_neq_ifn hu])
        | simp at hr
    · simp at hr
  · split at hr
    · rename_i ht
      obtain ⟨ms, hu⟩ := und_of hE ht
      split at hr
      · rename_i hcst
        have hgd : ∀ op, eqGuard op t x y .nilIface .nilIface = pure () := by
          intro op
          cases x <;> cases y <;> simp [isConst] at hcst <;> first | exact eqGuard_nil_constL .. | exact eqGuard_nil_constR ..
        rw [rep_nilI h1, rep_nilI h2]
        split at hr <;> first
          | (simp only [Option.some.injEq] at hr; subst hr; refine ⟨_, ?_, mk_bool _ _⟩; simp only [hgd, Sem.run_bind, Sem.run_pure, Result.andThen_ok, run_eql_nn hu, run_neq_nn hu])
          | simp at hr
      · simp at hr
    · simp at hr
  · -- structs
    rename_i cs ds
    split at hr
    · rename_i fs ht
      split at hr
      · rename_i hok
        obtain ⟨hs1, hs2, hs3⟩ := hE.eqs t hok
        obtain ⟨fields, hu, hfl⟩ := und_of hE ht
        obtain ⟨us, hu1, hu2, hu3⟩ := rep_agg h1
        obtain ⟨vs, hv1, hv2, hv3⟩ := rep_agg h2
        have hff : E.P.fieldsOf t = fields := by simp [Program.fieldsOf, hu]
        have key : ∀ r, eqFs E fs cs ds = some r → (Op.equalIn 10000 t (.agg us.toArray) (.agg vs.toArray)).run E.P w = .ok r w := by
          intro r hr
          rw [run_equalIn_struct w 9999 t _ _ (by rw [hff]; exact hu) hs1, hff]
          exact eqFs_sound hE hu2 hv2 hu3 hv3 9998 fields.toList r (fun f hf => hs3 fields hu f (by simpa using hf)) (by rw [hfl]; exact hr)
        rw [hu1, hv1]
        split at hr
        · rw [Option.map_eq_some_iff] at hr
          obtain ⟨r0, hr0, rfl⟩ := hr
          refine ⟨_, ?_, mk_bool _ _⟩
          rw [Sem.run_bind, run_eqGuard_agg w _ t x y _ _ hs2, Result.andThen_ok, run_eql_struct, key r0 hr0, Result.andThen_ok]
        · rw [Option.map_eq_some_iff] at hr
          obtain ⟨r0, hr0, rfl⟩ := hr
          refine ⟨_, ?_, mk_bool _ _⟩
          rw [Sem.run_bind, run_eqGuard_agg w _ t x y _ _ hs2, Result.andThen_ok, run_neq_struct, key r0 hr0, Result.andThen_ok]
        · simp at hr
      · simp at hr
    · simp at hr
  · -- a pointer and nil
    split at hr
    · rename_i ht
      have hu : E.P.underlying t = some (.pointer _) := und_of hE ht
      obtain ⟨g, hg, hpt⟩ := h1
      rw [hpt, rep_nilP h2]
      obtain ⟨k1, k2⟩ := run_eql_ptr hu (some ⟨g, _, none⟩) none (.inr rfl) w
      split at hr <;> first
        | (simp only [Option.some.injEq] at hr; subst hr; exact ⟨_, by rw [eqGuard_ptr, Sem.run_bind, Sem.run_pure, Result.andThen_ok]; first | exact k1 | exact k2, mk_bool _ _⟩)
        | simp at hr
    · simp at hr
  · split at hr
    · rename_i ht
      have hu : E.P.underlying t = some (.pointer _) := und_of hE ht
      obtain ⟨g, hg, hpt⟩ := h2
      rw [hpt, rep_nilP h1]
      obtain ⟨k1, k2⟩ := run_eql_ptr hu none (some ⟨g, _, none⟩) (.inl rfl) w
      split at hr <;> first
        | (simp only [Option.some.injEq] at hr; subst hr; exact ⟨_, by rw [eqGuard_ptr, Sem.run_bind, Sem.run_pure, Result.andThen_ok]; first | exact k1 | exact k2, mk_bool _ _⟩)
        | simp at hr
    · simp at hr
  · split at hr
    · rename_i e ht
      split at hr
      · rename_i hcond
        obtain ⟨rfl, rfl, rfl, hsz⟩ := hcond
        have hu : E.P.underlying t = some (.pointer e) := und_of hE ht
        obtain ⟨g, hg, hpt⟩ := h1
        obtain ⟨g', hg', hpt'⟩ := h2
        rw [hg] at hg'
        cases hg'
        rw [hpt, hpt']
        cases hei : E.ty e with
        | none => simp [hei] at hsz
        | some ei =>
          have hsz : 0 < ei.sz := by simpa [hei] using hsz
          obtain ⟨k1, k2⟩ := run_eql_same hu (hE.ty e ei hei).sizeOf hsz ⟨g, _, none⟩ w
          split at hr <;> first
            | (simp only [Option.some.injEq] at hr; subst hr; exact ⟨_, by rw [eqGuard_ptr, Sem.run_bind, Sem.run_pure, Result.andThen_ok]; first | exact k1 | exact k2, mk_bool _ _⟩)
            | simp at hr
      · simp at hr
    · simp at hr
  · split at hr
    · rename_i ht
      have hu : E.P.underlying t = some (.pointer _) := und_of hE ht
      rw [rep_nilP h1, rep_nilP h2]
      obtain ⟨k1, k2⟩ := run_eql_ptr hu none none (.inl rfl) w
      split at hr <;> first
        | (simp only [Option.some.injEq] at hr; subst hr; exact ⟨_, by rw [eqGuard_ptr, Sem.run_bind, Sem.run_pure, Result.andThen_ok]; first | exact k1 | exact k2, mk_bool _ _⟩)
        | simp at hr
    · simp at hr
  · simp at hr

theorem partsA_sound (hc : Ctx E G h fr a w) : ∀ {ps : List (Nat × Operand)} {l : List (Nat × AV)}, partsA (E.ev fr) ps = some l →
    l.length = ps.length ∧ ∀ (j : Nat) (q : Nat × AV) (p : Nat × Operand), l[j]? = some q → ps[j]? = some p → q.1 = p.1 ∧ Rep E.P G h w q.2 (a.eval p.2)
  | [], l, hl => by simp [partsA] at hl; subst hl; simp
  | (i, x) :: r, l, hl => by
    simp only [partsA, Option.bind_eq_some_iff] at hl
    obtain ⟨v, hv, l', hl', heq⟩ := hl
    simp only [Option.some.injEq] at heq
    subst heq
    obtain ⟨h1, h2⟩ := partsA_sound hc hl'
    refine ⟨by simp [h1], fun j q p hq hp => ?_⟩
    cases j with
    | zero => simp at hq hp; subst hq; subst hp; exact ⟨rfl, rep_strip (ev_sound hc hv)⟩
    | succ j => exact h2 j q p (by simpa using hq) (by simpa using hp)

theorem argsA_sound (hc : Ctx E G h fr a w) : ∀ {ps : List Operand} {l : List AV}, argsA (E.ev fr) ps = some l →
    l.length = ps.length ∧ ∀ (j : Nat) (q : AV) (p : Operand), l[j]? = some q → ps[j]? = some p → Rep E.P G h w q (a.eval p)
  | [], l, hl => by simp [argsA] at hl; subst hl; simp
  | x :: r, l, hl => by
    simp only [argsA, Option.bind_eq_some_iff] at hl
    obtain ⟨v, hv, l', hl', heq⟩ := hl
    simp only [Option.some.injEq] at heq
    subst heq
    obtain ⟨h1, h2⟩ := argsA_sound hc hl'
    refine ⟨by simp [h1], fun j q p hq hp => ?_⟩
    cases j with
    | zero => simp at hq hp; subst hq; subst hp; exact rep_strip (ev_sound hc hv)
    | succ j => exact h2 j q p (by simpa using hq) (by simpa using hp)
end
end Go.Avm

/-
  The abstract machine, part 4: the rest of the operations that only compute a value, and all of them together.
-/
namespace Go.Avm
set_option linter.unusedVariables false
set_option linter.unusedSimpArgs false

section
variable {E : Env} {G : Nat → Value} {h : Gh} {fr : Nat → AV} {a : Act} {w : World}

theorem repD_cells {x : Ext} (hif : ∀ g, ∃ T u, G g = .iface T u) {v : AV} {u : Value} (hd : v.data = true) (H : RepD G x w v u) :
    v.cells.length = u.cells.size ∧ ∀ (j : Nat) (c : AV) (y : Value), v.cells[j]? = some c → u.cells[j]? = some y → RepD G x w c y := by
  have H0 := H
  cases H with
  | any v => simp [AV.data] at hd
  | err g =>
    obtain ⟨T, u, hG⟩ := hif g
    refine ⟨by simp [AV.cells, Value.cells, hG], fun j c y hj hy => ?_⟩
    cases j with
    | zero => simp only [AV.cells, Value.cells, hG, List.getElem?_cons_zero, Option.some.injEq] at hj hy; subst hj; simp at hy; subst hy; rw [← hG]; exact .err g
    | succ j => simp [AV.cells] at hj
  | agg cs vs hl hr => exact ⟨by simp [AV.cells, Value.cells, hl], fun j c y hj hy => hr j c y hj (by simpa [Value.cells] using hy)⟩
  | _ =>
    refine ⟨by simp [AV.cells, Value.cells], fun j c y hj hy => ?_⟩
    cases j with
    | zero =>
      simp only [AV.cells, Value.cells, List.getElem?_cons_zero, Option.some.injEq] at hj hy
      subst hj
      simp at hy
      subst hy
      exact H0
    | succ j => simp [AV.cells] at hj

theorem foldl_zip (l : List Value) : ∀ (k off : Nat) (cs : Array Value), off + k + l.length ≤ cs.size →
    ((l.zipIdx k).foldl (fun cs (p : Value × Nat) => cs.setIfInBounds (off + p.2) p.1) cs).toList = cs.toList.take (off + k) ++ l ++ cs.toList.drop (off + k + l.length) := by
  induction l with
  | nil => intro k off cs hk; simp
  | cons v l ih =>
    intro k off cs hk
    simp only [List.length_cons] at hk
    simp only [List.zipIdx_cons, List.foldl_cons]
    rw [ih (k + 1) off (cs.setIfInBounds (off + k) v) (by simp; omega)]
    have hlt : off + k < cs.size := by omega
    simp only [Array.toList_setIfInBounds, List.length_cons]
    have hlt' : off + k < cs.toList.length := by simpa using hlt
    rw [List.drop_set_of_lt (by omega), show off + (k + 1) = off + k + 1 from by omega, List.take_succ_eq_append_getElem (by simp; omega)]
    simp only [List.getElem_set_self, List.append_assoc, List.singleton_append]
    rw [List.take_set_of_le (Nat.le_refl _), show off + k + 1 + l.length = off + k + (l.length + 1) from by omega]

theorem overw_get {α : Type} {cs vs : List α} {off : Nat} (hl : off + vs.length ≤ cs.length) (j : Nat) :
    (cs.take off ++ vs ++ cs.drop (off + vs.length))[j]? = if j < off then cs[j]? else if j < off + vs.length then vs[j - off]? else cs[j]? := by
  rw [List.append_assoc]
  by_cases h1 : j < off
  · rw [if_pos h1, List.getElem?_append_left (by simp; omega), List.getElem?_take, if_pos h1]
  · rw [if_neg h1, List.getElem?_append_right (by simp; omega)]
    have : (cs.take off).length = off := by simp; omega
    rw [this]
    by_cases h2 : j < off + vs.length
    · rw [if_pos h2, List.getElem?_append_left (by omega)]
    · rw [if_neg h2, List.getElem?_append_right (by omega), List.getElem?_drop]
      congr 1
      omega

theorem overw_length {α : Type} {cs vs : List α} {off : Nat} (hl : off + vs.length ≤ cs.length) : (cs.take off ++ vs ++ cs.drop (off + vs.length)).length = cs.length := by
  simp; omega

theorem fillA_sound (hE : E.Ok) (hif : ∀ g, ∃ T u, G g = .iface T u) {x : Ext} {fs : List (Nat × TypeId)} (place : Nat → Option (Nat × Nat))
    (hp : ∀ i off t ti, fs[i]? = some (off, t) → E.ty t = some ti → place i = some (off, ti.sz)) :
    ∀ (l : List (Nat × AV)) (vs : List (Nat × Value)) (cs r : List AV) (us : Array Value), fillA E fs cs l = some r → l.length = vs.length →
      (∀ (j : Nat) (q : Nat × AV) (p : Nat × Value), l[j]? = some q → vs[j]? = some p → q.1 = p.1 ∧ (q.2.data = true → RepD G x w q.2 p.2)) →
      cs.length = us.size → (∀ (j : Nat) (c : AV) (y : Value), cs[j]? = some c → us[j]? = some y → RepD G x w c y) →
      ∃ rs : Array Value, Instr.fill place us vs = some rs ∧ r.length = rs.size ∧ ∀ (j : Nat) (c : AV) (y : Value), r[j]? = some c → rs[j]? = some y → RepD G x w c y
  | [], vs, cs, r, us, hf, hl, _, hlen, hr => by
    simp [fillA] at hf
    subst hf
    have : vs = [] := List.eq_nil_of_length_eq_zero hl.symm
    subst this
    exact ⟨us, rfl, hlen, hr⟩
  | (i, v) :: l, vs, cs, r, us, hf, hl, hrel, hlen, hr => by
    cases vs with
    | nil => simp at hl
    | cons p vs =>
      obtain ⟨i', u⟩ := p
      have h0 := hrel 0 (i, v) (i', u) rfl rfl
      obtain ⟨rfl, hrep⟩ := h0
      simp only [fillA] at hf
      split at hf
      · simp at hf
      · rename_i off t hfs
        split at hf
        · simp at hf
        · rename_i ti hti
          split at hf
          · rename_i hcond
            obtain ⟨hsz, hfit, hd⟩ := hcond
            have hrep := hrep hd
            obtain ⟨hcl, hcr⟩ := repD_cells hif hd hrep
            simp only at hcl hcr
            have hpl := hp i off t ti hfs hti
            have harr : (u.cells.zipIdx.foldl (fun cs (c, j) => cs.setIfInBounds (off + j) c) us).toList = us.toList.take off ++ u.cells.toList ++ us.toList.drop (off + u.cells.toList.length) := by
              have := foldl_zip u.cells.toList 0 off us (by simp; omega)
              rw [← Array.foldl_toList, Array.toList_zipIdx]
              simpa using this
            have hfitU : off + u.cells.toList.length ≤ us.toList.length := by simp; omega
            have hfitA : off + v.cells.length ≤ cs.length := hfit
            obtain ⟨rs, h1, h2, h3⟩ := fillA_sound hE hif place hp l vs (overw cs off v.cells) r (u.cells.zipIdx.foldl (fun cs (c, j) => cs.setIfInBounds (off + j) c) us) hf (by simpa using hl)
              (fun j q p hq hp' => hrel (j + 1) q p (by simpa using hq) (by simpa using hp'))
              (by
                have h4 := overw_length hfitU
                rw [← harr] at h4
                simp only [overw]
                rw [overw_length hfitA, hlen]
                simpa using h4.symm)
              (fun j c y hj hy => by
                simp only [overw] at hj
                rw [overw_get hfitA] at hj
                rw [← Array.getElem?_toList, harr, overw_get hfitU] at hy
                have e1 : u.cells.toList.length = v.cells.length := by simp [hcl]
                rw [e1] at hy
                split at hj
                · rename_i hlt
                  rw [if_pos hlt] at hy
                  exact hr j c y hj (by simpa using hy)
                · rename_i hge
                  rw [if_neg hge] at hy
                  split at hj
                  · rename_i hlt2
                    rw [if_pos hlt2] at hy
                    exact hcr (j - off) c y hj (by simpa using hy)
                  · rename_i hge2
                    rw [if_neg hge2] at hy
                    exact hr j c y hj (by simpa using hy))
            refine ⟨rs, ?_, h2, h3⟩
            simp only [Instr.fill, hpl]
            have hbad : (u.cells.size ≠ ti.sz || off + u.cells.size > us.size) = false := by simp; omega
            rw [hbad]
            exact h1
          · simp at hf

theorem boundA_sound (hc : Ctx E G h fr a w) {d : Nat} {x : Option Operand} {n : Int} (hb : boundA (E.ev fr) d x = some n) :
    (x = none ∧ n = d) ∨ ∃ y k, x = some y ∧ a.eval y = .int k n := by
  cases x with
  | none => simp [boundA] at hb; exact .inl ⟨rfl, hb.symm⟩
  | some y =>
    simp only [boundA, Option.bind_eq_some_iff] at hb
    obtain ⟨v, hv, hb⟩ := hb
    split at hb
    · rename_i k m
      simp only [Option.some.injEq] at hb
      subst hb
      exact .inr ⟨y, k, rfl, rep_int (ev_sound hc hv)⟩
    · simp at hb

/-- The bounds of a slice expression. -/
theorem bounds_run {P : Program} (w : World) (isS : Bool) (len cap : Nat) (lo hi : Option Value) (l u : Int)
    (hlo : (lo = none ∧ l = 0) ∨ ∃ k, lo = some (.int k l)) (hhi : (hi = none ∧ u = len) ∨ ∃ k, hi = some (.int k u))
    (h0 : 0 ≤ l) (h1 : l ≤ u) (h2 : u ≤ cap) : (Instr.sliceBounds isS len cap lo hi none).run P w = .ok (l.toNat, u.toNat, cap) w := by
  have hU : 0 ≤ u ∧ u ≤ (cap : Int) := ⟨by omega, h2⟩
  have hL : 0 ≤ l ∧ l ≤ ((u.toNat : Nat) : Int) := ⟨h0, by omega⟩
  rcases hlo with ⟨rfl, rfl⟩ | ⟨k, rfl⟩ <;> rcases hhi with ⟨rfl, rfl⟩ | ⟨k', rfl⟩
  · simp [Instr.sliceBounds]
  · simp [Instr.sliceBounds, Instr.sliceBound, asIntOf, hU]
  · have hL' : 0 ≤ l ∧ l ≤ (len : Int) := ⟨h0, h1⟩
    simp [Instr.sliceBounds, Instr.sliceBound, asIntOf, hL']
  · simp only [Instr.sliceBounds, Instr.sliceBound, asIntOf, Sem.run_bind, Sem.run_pure, Result.andThen_ok, if_pos hU, if_pos hL]
end
end Go.Avm

/-
  The abstract machine, part 5: every operation that only computes a value computes the model's.
-/
namespace Go.Avm
set_option linter.unusedVariables false
set_option linter.unusedSimpArgs false

section
variable {E : Env} {G : Nat → Value} {h : Gh} {fr : Nat → AV} {a : Act} {w : World}

theorem add_add (ad : Addr) (m n : Nat) : (ad.add m).add n = ad.add (m + n) := by
  unfold Addr.add
  by_cases hm : m = 0 <;> by_cases hn : n = 0 <;> simp [hm, hn]
  omega

theorem drop_el {x : Ext} {cs : List AV} {ad : Addr} (off : Nat) (H : RepD G x w (.el cs) (.pointer (some ad))) : RepD G x w (.el (cs.drop off)) (.pointer (some (ad.add off))) := by
  cases H with
  | el _ _ f hc hr =>
    refine .el _ _ (fun j => f (off + j)) (fun j u hj => ?_) (fun j u hj => ?_)
    · rw [List.getElem?_drop] at hj
      rw [add_add]
      exact hc _ _ hj
    · rw [List.getElem?_drop] at hj
      exact hr _ _ hj

theorem struct_fields {P : Program} {t : TypeId} {fs : List (Nat × TypeId)} (hu : Und P t (.struct fs)) : ∃ fields : Array Field, P.underlying t = some (.struct fields) ∧ ∀ (i off : Nat) (ft : TypeId), fs[i]? = some (off, ft) → ∃ f : Field, fields[i]? = some f ∧ f.offset = off ∧ f.type = ft := by
  obtain ⟨fields, h1, rfl⟩ := hu
  refine ⟨fields, h1, fun i off ft hi => ?_⟩
  simp only [List.getElem?_map, Option.map_eq_some_iff] at hi
  obtain ⟨f, hf, he⟩ := hi
  simp only [Prod.mk.injEq] at he
  exact ⟨f, by simpa using hf, he.1, he.2⟩

theorem el_ptr {x : Ext} {cs : List AV} {u : Value} (H : RepD G x w (.el cs) u) : ∃ ad, u = .pointer (some ad) := by cases H; exact ⟨_, rfl⟩

theorem does_fieldAddr (hE : E.Ok) (hc : Ctx E G h fr a w) {o : Oper} {t : TypeId} {x : Operand} {f : Nat} {v : AV} (ho : o.op = .fieldAddr t x f)
    (hv : valOp E (E.ev fr) (.fieldAddr t x f) = some v) : Does E G h a w o v := by
  simp only [valOp] at hv
  split at hv
  · rename_i fs sz by_ zero ht
    split at hv
    · rename_i off ft hfs
      split at hv
      · rename_i fi hfi
        split at hv
        · simp at hv
        · rename_i hnz
          obtain ⟨fields, hu, hfl⟩ := struct_fields (hE.ty t _ ht).und
          obtain ⟨fd, hfd, h1, h2⟩ := hfl f off ft hfs
          subst h1
          subst h2
          have hsz := (hE.ty _ _ hfi).sizeOf
          simp only [Option.bind_eq_some_iff] at hv
          obtain ⟨p, hp, hv⟩ := hv
          have hrep := ev_sound hc hp
          have key : ∀ ad : Addr, a.eval x = .pointer (some ad) → (execOp a.eval o).run E.P w = .ok (.value (.pointer (some (ad.add fd.offset)))) w := by
            intro ad had
            simp [execOp, ho, Instr.fieldAt, run_underlying hu, hfd, had, Instr.sureAddr, fieldPlace, hsz, hnz]
          split at hv
          · rename_i d i off'
            simp only [Option.some.injEq] at hv
            subst hv
            obtain ⟨g, hm, hpt⟩ := hrep
            refine ⟨_, key _ hpt, g, hm, ?_⟩
            rw [Addr.add_lit]
          · rename_i cs
            simp only [Option.some.injEq] at hv
            subst hv
            have hr : RepD G h.x w (.el cs) (a.eval x) := hrep
            obtain ⟨ad, had⟩ := el_ptr hr
            rw [had] at hr
            exact ⟨_, key _ had, drop_el _ hr⟩
          · simp at hv
      · simp at hv
    · simp at hv
  · simp at hv

theorem elem_cell {x : Ext} {xs : List AV} {A : Option Addr} {n c : Nat} (H : RepD G x w (.sl xs) (.slice A n c)) {i : Nat} {y : AV} (hi : xs[i]? = some y) :
    ∃ ad, A = some ad ∧ RepD G x w (.el y.cells) (.pointer (some (ad.add (i * y.cells.length)))) := by
  cases H with
  | sl0 => simp at hi
  | sl _ ad c sz f hl hs hc hr =>
    refine ⟨ad, rfl, ?_⟩
    rw [hs i y hi]
    refine .el _ _ (fun j => f i j) (fun j u hj => ?_) (fun j u hj => hr i j y u hi hj)
    rw [add_add]
    exact hc i j y u hi hj

theorem does_indexAddr (hE : E.Ok) (hc : Ctx E G h fr a w) {o : Oper} {t : TypeId} {x i : Operand} {v : AV} (ho : o.op = .indexAddr t x i)
    (hv : valOp E (E.ev fr) (.indexAddr t x i) = some v) : Does E G h a w o v := by
  simp only [valOp, Option.bind_eq_some_iff] at hv
  obtain ⟨p, hp, q, hq, hv⟩ := hv
  have h1 := ev_sound hc hp
  have h2 := ev_sound hc hq
  split at hv
  · rename_i k n
    have hi := rep_int h2
    split at hv
    · rename_i e sz by_ zero ht
      have hu : E.P.underlying t = some (.slice e) := (hE.ty t _ ht).und
      split at hv
      · rename_i ei hei
        have hsz := (hE.ty _ _ hei).sizeOf
        split at hv
        · rename_i dd jj m
          split at hv
          · rename_i hb
            simp only [Option.some.injEq] at hv
            subst hv
            obtain ⟨g, cap, hg, hmc, hA⟩ := h1
            refine ⟨.pointer (some ⟨g, n.toNat * ei.sz, none⟩), ?_, g, hg, rfl⟩
            have hb2 : n < (m : Int) := hb.2
            have hnn : ¬ (n < 0 ∨ (m : Int) ≤ n) := by omega
            have e1 : (⟨g, 0, none⟩ : Addr).add (n.toNat * ei.sz) = ⟨g, n.toNat * ei.sz, none⟩ := by rw [Addr.add_lit]; simp
            simp [execOp, ho, Instr.indexAt, run_underlying hu, hA, hi, asIntOf, hb, hsz, e1]
          · simp at hv
        · simp only [Option.bind_eq_some_iff] at hv
          obtain ⟨xs, hxs, y, hy, hv⟩ := hv
          split at hv
          · rename_i hlen
            simp only [Option.some.injEq] at hv
            subst hv
            obtain ⟨A, c, hA, hlc, hr⟩ := rep_elems h1 hxs
            unfold lIdx at hy
            split at hy
            · rename_i h0
              rw [hA] at hr
              obtain ⟨ad, rfl, hel⟩ := elem_cell hr hy
              have hlt : n.toNat < xs.length := (List.getElem?_eq_some_iff.1 hy).1
              have hb : 0 ≤ n ∧ n < (xs.length : Int) := ⟨h0, by omega⟩
              rw [hlen] at hel
              refine ⟨_, ?_, hel⟩
              simp [execOp, ho, Instr.indexAt, run_underlying hu, hA, hi, asIntOf, hb, hsz]
            · simp at hy
          · simp at hv
      · simp at hv
    · rename_i len e sz by_ zero ht
      have hu : E.P.underlying t = some (.array len e) := (hE.ty t _ ht).und
      split at hv
      · rename_i ei hei
        have hsz := (hE.ty _ _ hei).sizeOf
        split at hv
        · rename_i hb
          have key : ∀ ad : Addr, a.eval x = .pointer (some ad) → (execOp a.eval o).run E.P w = .ok (.value (.pointer (some (ad.add (n.toNat * ei.sz))))) w := by
            intro ad had
            simp [execOp, ho, Instr.indexAt, run_underlying hu, had, hi, asIntOf, hb, hsz, Instr.sureAddr]
          split at hv
          · simp only [Option.some.injEq] at hv
            subst hv
            obtain ⟨g, hm, hpt⟩ := h1
            refine ⟨_, key _ hpt, g, hm, ?_⟩
            rw [Addr.add_lit]
          · rename_i cs
            simp only [Option.some.injEq] at hv
            subst hv
            have hr : RepD G h.x w (.el cs) (a.eval x) := h1
            obtain ⟨ad, had⟩ := el_ptr hr
            rw [had] at hr
            exact ⟨_, key _ had, drop_el _ hr⟩
          · simp at hv
        · simp at hv
      · simp at hv
    · simp at hv
  · simp at hv

theorem agg_get {P : Program} {cs : List AV} {u : Value} (H : Rep P G h w (.agg cs) u) {j : Nat} {c : AV} (hj : cs[j]? = some c) : ∃ vs y, u = .agg vs ∧ vs[j]? = some y ∧ RepD G h.x w c y := by
  obtain ⟨vs, rfl, hl, hr⟩ := rep_agg H
  have hlt : j < vs.length := by have := (List.getElem?_eq_some_iff.1 hj).1; omega
  exact ⟨_, vs[j], rfl, by simp, hr j c _ hj (by simp)⟩

theorem rep_of_repD_scalar {P : Program} {c : AV} {y : Value} (H : RepD G h.x w c y) : Rep P G h w c y := by
  have H0 := H
  cases H <;> first
    | exact H0
    | exact ⟨[], rfl, rfl, by simp⟩

theorem sub_sl {x : Ext} {xs : List AV} {A : Option Addr} {c sz l u : Nat} (hlc : xs.length ≤ c) (H : RepD G x w (.sl xs) (.slice A xs.length c)) (hl : l ≤ u) (hu : u ≤ xs.length) (hall : ∀ y ∈ xs, y.cells.length = sz) :
    RepD G x w (.sl ((xs.take u).drop l)) (.slice (if c = l then A else A.map (·.add (l * sz))) (u - l) (c - l)) := by
  have hlen : ((xs.take u).drop l).length = u - l := by simp; omega
  by_cases hn : u - l = 0
  · have : (xs.take u).drop l = [] := List.eq_nil_of_length_eq_zero (by rw [hlen, hn])
    rw [this, hn]
    exact .sl0 _ _
  · have hcl : c ≠ l := by omega
    rw [if_neg hcl, ← hlen]
    generalize hn' : xs.length = n at H
    cases H with
    | sl0 => simp at hu; omega
    | sl _ ad c sz' f hl' hs hc hr =>
      have h0 : xs[0]? = some xs[0] := by simp
      have hsz : sz' = sz := by rw [← hs 0 xs[0] h0, hall _ (List.getElem_mem _)]
      subst hsz
      refine .sl _ (ad.add (l * sz')) _ sz' (fun i j => f (l + i) j) (by rw [hlen]; omega) (fun i y hi => ?_) (fun i j y v hi hj => ?_) (fun i j y v hi hj => ?_)
      all_goals
        rw [List.getElem?_drop, List.getElem?_take] at hi
        split at hi
        · first
            | exact hs _ y hi
            | (have := hc (l + i) j y v hi hj
               rw [add_add, ← Nat.add_assoc, ← Nat.add_mul]
               exact this)
            | exact hr _ j y v hi hj
        · simp at hi

theorem does_index (hE : E.Ok) (hc : Ctx E G h fr a w) {o : Oper} {t : TypeId} {x i : Operand} {v : AV} (ho : o.op = .index t x i)
    (hv : valOp E (E.ev fr) (.index t x i) = some v) : Does E G h a w o v := by
  simp only [valOp, Option.bind_eq_some_iff] at hv
  obtain ⟨p, hp, q, hq, hv⟩ := hv
  have h1 := ev_sound hc hp
  have h2 := ev_sound hc hq
  split at hv
  · rename_i k n
    have hi := rep_int h2
    split at hv
    · rename_i sz by_ zero s ht
      have hu : E.P.underlying t = some .string := (hE.ty t _ ht).und
      have hs := rep_str h1
      simp only [Option.bind_eq_some_iff, Option.some.injEq] at hv
      obtain ⟨b, hb, rfl⟩ := hv
      refine ⟨_, ?_, mk_int _ _ _⟩
      have hb' : (if 0 ≤ n then s[n.toNat]? else none) = some b := hb
      simp [execOp, ho, Instr.index, run_underlying hu, hs, hi, asIntOf, hb']
    · rename_i len e sz by_ zero cs ht
      have hu : E.P.underlying t = some (.array len e) := (hE.ty t _ ht).und
      have key : ∀ (d : TyD) (b2 : Nat) (z2 : List AV), E.ty e = some ⟨d, 1, b2, z2⟩ → (match d with | .struct _ => False | .arr _ _ => False | .other => False | _ => True) →
          (if 0 ≤ n ∧ n < (len : Int) then cs[n.toNat]? else none) = some v → Does E G h a w o v := by
        intro d b2 z2 hei hd hcs
        split at hcs
        · rename_i hb
          obtain ⟨vs, y, hvs, hy, hr⟩ := agg_get h1 hcs
          have hsz := (hE.ty _ _ hei).sizeOf
          have hag := fun w => (hE.ty _ _ hei).notAgg w hd
          refine ⟨y, ?_, rep_of_repD_scalar hr⟩
          simp [execOp, ho, Instr.index, run_underlying hu, hvs, hi, asIntOf, hb, hsz, part, hag, hy]
        · simp at hcs
      split at hv
      · rename_i hei; exact key _ _ _ hei trivial hv
      · rename_i hei; exact key _ _ _ hei trivial hv
      · rename_i hei; exact key _ _ _ hei trivial hv
      · simp at hv
    · simp at hv
  · simp at hv

theorem does_field (hE : E.Ok) (hc : Ctx E G h fr a w) {o : Oper} {t : TypeId} {x : Operand} {f : Nat} {v : AV} (ho : o.op = .field t x f)
    (hv : valOp E (E.ev fr) (.field t x f) = some v) : Does E G h a w o v := by
  simp only [valOp] at hv
  split at hv
  · rename_i fs sz by_ zero ht
    split at hv
    · rename_i off ft hfs
      obtain ⟨fields, hu, hfl⟩ := struct_fields (hE.ty t _ ht).und
      obtain ⟨fd, hfd, h1, h2⟩ := hfl f off ft hfs
      subst h1
      subst h2
      split at hv
      · rename_i fs2 sz2 b2 z2 hft
        have hsz := (hE.ty _ _ hft).sizeOf
        have hag := fun w => (hE.ty _ _ hft).isAgg w trivial
        simp only [Option.bind_eq_some_iff] at hv
        obtain ⟨p, hp, hv⟩ := hv
        split at hv
        · rename_i cs
          split at hv
          · rename_i hfit
            simp only [Option.some.injEq] at hv
            subst hv
            obtain ⟨vs, hvs, hl, hr⟩ := rep_agg (ev_sound hc hp)
            refine ⟨.agg ((vs.drop fd.offset).take sz2).toArray, ?_, ?_⟩
            · have he : (vs.toArray.extract fd.offset (fd.offset + sz2)) = ((vs.drop fd.offset).take sz2).toArray := by
                apply Array.ext'
                simp
              simp [execOp, ho, Instr.field, run_underlying hu, hfd, hvs, asAgg, part, hag, hsz]
            · refine RepD.agg _ _ (by simp [hl]) (fun j c y hj hy => ?_)
              rw [List.getElem?_take] at hj hy
              split at hj
              · rename_i hlt
                rw [if_pos hlt, List.getElem?_drop] at hy
                rw [List.getElem?_drop] at hj
                exact hr _ c y hj hy
              · simp at hj
          · simp at hv
        · simp at hv
      · simp at hv
      · simp at hv
      · rename_i ei hn1 hn2 hn3 hei
        have hag := fun w => (hE.ty _ _ hei).notAgg w (by
          obtain ⟨d, s2, b2, z2⟩ := ei
          cases d <;> first | trivial | exact absurd rfl (hn1 _ _ _ _) | exact absurd rfl (hn2 _ _ _ _ _) | exact absurd rfl (hn3 _ _ _))
        simp only [Option.bind_eq_some_iff] at hv
        obtain ⟨p, hp, hv⟩ := hv
        split at hv
        · rename_i cs
          obtain ⟨vs, y, hvs, hy, hr⟩ := agg_get (ev_sound hc hp) hv
          refine ⟨y, ?_, rep_of_repD_scalar hr⟩
          simp [execOp, ho, Instr.field, run_underlying hu, hfd, hvs, asAgg, part, hag, hy]
        · simp at hv
      · simp at hv
    · simp at hv
  · simp at hv

theorem does_slice (hE : E.Ok) (hc : Ctx E G h fr a w) {o : Oper} {t : TypeId} {x : Operand} {lo hi : Option Operand} {v : AV} (ho : o.op = .slice t x lo hi none)
    (hv : valOp E (E.ev fr) (.slice t x lo hi none) = some v) : Does E G h a w o v := by
  simp only [valOp, Option.bind_eq_some_iff] at hv
  obtain ⟨p, hp, hv⟩ := hv
  have h1 := ev_sound hc hp
  have hbd : ∀ (d : Nat) (b : Option Operand) (n : Int), boundA (E.ev fr) d b = some n → (b.map a.eval = none ∧ n = d) ∨ ∃ k, b.map a.eval = some (.int k n) := by
    intro d b n hb
    rcases boundA_sound hc hb with ⟨rfl, rfl⟩ | ⟨y, k, rfl, hy⟩
    · exact .inl ⟨rfl, rfl⟩
    · exact .inr ⟨k, by simp [hy]⟩
  split at hv
  · rename_i sz by_ zero s ht
    have hu : E.P.underlying t = some .string := (hE.ty t _ ht).und
    have hs := rep_str h1
    simp only [Option.bind_eq_some_iff] at hv
    obtain ⟨l, hl, u, hu', hv⟩ := hv
    split at hv
    · rename_i hb
      obtain ⟨h0, hlu, hus⟩ := hb
      simp only [Option.some.injEq] at hv
      subst hv
      have hl' : (lo.map a.eval = none ∧ l = 0) ∨ ∃ k, lo.map a.eval = some (.int k l) := by simpa using hbd 0 lo l hl
      have hr := bounds_run (P := E.P) w false s.size s.size (lo.map a.eval) (hi.map a.eval) l u hl' (hbd _ hi u hu') h0 hlu hus
      refine ⟨_, ?_, mk_str _ _⟩
      simp [execOp, ho, Instr.sliceAt, Instr.slice, run_underlying hu, hs, hr]
    · simp at hv
  · rename_i e sz by_ zero ht
    have hu : E.P.underlying t = some (.slice e) := (hE.ty t _ ht).und
    split at hv
    case h_2 => simp at hv
    rename_i ei hei
    have hsz := (hE.ty _ _ hei).sizeOf
    simp only [Option.bind_eq_some_iff] at hv
    obtain ⟨xs, hxs, l, hl, u, hu', hv⟩ := hv
    split at hv
    · rename_i hb
      obtain ⟨h0, hlu, hus, hall⟩ := hb
      have hall : ∀ y ∈ xs, y.cells.length = ei.sz := by simpa using hall
      simp only [Option.some.injEq] at hv
      subst hv
      obtain ⟨A, c, hA, hlc, hrep⟩ := rep_elems h1 hxs
      have hl' : (lo.map a.eval = none ∧ l = 0) ∨ ∃ k, lo.map a.eval = some (.int k l) := by simpa using hbd 0 lo l hl
      have hr := bounds_run (P := E.P) w true xs.length c (lo.map a.eval) (hi.map a.eval) l u hl' (hbd _ hi u hu') h0 hlu (by omega)
      have hsub := sub_sl (l := l.toNat) (u := u.toNat) hlc (hA ▸ hrep) (by omega) (by omega) hall
      refine ⟨_, ?_, hsub⟩
      simp [execOp, ho, Instr.sliceAt, Instr.slice, run_underlying hu, hA, hr, hsz]
    · simp at hv
  · simp at hv

theorem does_build (hE : E.Ok) (hc : Ctx E G h fr a w) {o : Oper} {t : TypeId} {ps : Array (Nat × Operand)} {v : AV} (ho : o.op = .build t ps)
    (hv : valOp E (E.ev fr) (.build t ps) = some v) : Does E G h a w o v := by
  have hmap : ∀ l, partsA (E.ev fr) ps.toList = some l → l.length = (ps.toList.map fun (p : Nat × Operand) => (p.1, a.eval p.2)).length ∧
      ∀ (j : Nat) (q : Nat × AV) (p : Nat × Value), l[j]? = some q → (ps.toList.map fun (p : Nat × Operand) => (p.1, a.eval p.2))[j]? = some p → q.1 = p.1 ∧ (q.2.data = true → RepD G h.x w q.2 p.2) := by
    intro l hl
    obtain ⟨h1, h2⟩ := partsA_sound hc hl
    refine ⟨by simp [h1], fun j q p hq hp => ?_⟩
    rw [List.getElem?_map, Option.map_eq_some_iff] at hp
    obtain ⟨p', hp', rfl⟩ := hp
    obtain ⟨h3, h4⟩ := h2 j q p' hq hp'
    exact ⟨h3, fun hd => rep_data hd h4⟩
  have hdo : ∀ (cells : Array Value) (r : List AV), E.P.built t (ps.toList.map fun (p : Nat × Operand) => (p.1, a.eval p.2)) = some cells → r.length = cells.size →
      (∀ (j : Nat) (c : AV) (y : Value), r[j]? = some c → cells[j]? = some y → RepD G h.x w c y) → Does E G h a w o (.agg r) := by
    intro cells r hb hl hr
    refine ⟨.agg cells, ?_, ?_⟩
    · have := run_build (P := E.P) w t (ps.map fun (p : Nat × Operand) => (p.1, a.eval p.2)) cells (by simpa using hb)
      simp [execOp, ho, this]
    · exact RepD.agg r cells.toList (by simpa using hl) (fun j c y hj hy => hr j c y hj (by simpa using hy))
  simp only [valOp] at hv
  split at hv
  · rename_i fs sz by_ zero ht
    obtain ⟨inf, z, hi1, hi2, hi3, hz, hzl, hzl2, hzr⟩ := (hE.ty t _ ht).info
    obtain ⟨fields, hu, hfl⟩ := (hE.ty t _ ht).und
    simp only [Option.bind_eq_some_iff, Option.map_eq_some_iff] at hv
    obtain ⟨l, hl, r, hr, rfl⟩ := hv
    obtain ⟨h1, h2⟩ := hmap l hl
    have hcl := hE.closed t _ fs ht rfl
    obtain ⟨places, hpl, hpg⟩ : ∃ places, fields.toList.mapM (fun f => (E.P.info? f.type).map fun i => (f.offset, i.size)) = some places ∧
        ∀ (i : Nat) (off : Nat) (ft : TypeId) (ti : TyI), fs[i]? = some (off, ft) → E.ty ft = some ti → places[i]? = some (off, ti.sz) := by
      have gen : ∀ (fl : List Field), (∀ f ∈ fl, (E.ty f.type).isSome = true) → ∃ places, fl.mapM (fun f => (E.P.info? f.type).map fun i => (f.offset, i.size)) = some places ∧
          ∀ (i : Nat) (off : Nat) (ft : TypeId) (ti : TyI), (fl.map fun f => (f.offset, f.type))[i]? = some (off, ft) → E.ty ft = some ti → places[i]? = some (off, ti.sz) := by
        intro fl
        induction fl with
        | nil => intro _; exact ⟨[], by simp, by simp⟩
        | cons f fl ih =>
          intro hall
          obtain ⟨places, h3, h4⟩ := ih (fun g hg => hall g (List.mem_cons_of_mem _ hg))
          obtain ⟨ti, hti⟩ := Option.isSome_iff_exists.1 (hall f List.mem_cons_self)
          obtain ⟨inf2, z2, hj1, hj2, _⟩ := (hE.ty _ _ hti).info
          refine ⟨(f.offset, ti.sz) :: places, by simp [List.mapM_cons, hj1, hj2, h3], fun i off ft ti' hi ht' => ?_⟩
          cases i with
          | zero =>
            simp only [List.map_cons, List.getElem?_cons_zero, Option.some.injEq, Prod.mk.injEq] at hi
            obtain ⟨rfl, rfl⟩ := hi
            rw [hti] at ht'
            cases ht'
            rfl
          | succ i => exact h4 i off ft ti' (by simpa using hi) ht'
      obtain ⟨places, h3, h4⟩ := gen fields.toList (fun f hf => hcl (f.offset, f.type) (by rw [← hfl]; exact List.mem_map_of_mem hf))
      exact ⟨places, h3, by rw [← hfl]; exact h4⟩
    obtain ⟨rs, hf1, hf2, hf3⟩ := fillA_sound (w := w) (x := h.x) hE hc.ifaces (fun x => (places.toArray)[x]?) (fun i off ft ti h3 h4 => by simpa using hpg i off ft ti h3 h4)
      l _ zero r z.cells hr h1 h2 hzl (fun j c y hj hy => (hzr j c y hj hy).rep)
    refine hdo rs r ?_ hf2 hf3
    simp only [Program.built, hi1, hu, hz, hpl]
    exact hf1
  · rename_i n e sz by_ zero ht
    split at hv
    · rename_i ti hti
      obtain ⟨inf, z, hi1, hi2, hi3, hz, hzl, hzl2, hzr⟩ := (hE.ty t _ ht).info
      obtain ⟨inf2, z2, hj1, hj2, _⟩ := (hE.ty e _ hti).info
      have hu : E.P.underlying t = some (.array n e) := (hE.ty t _ ht).und
      simp only [Option.bind_eq_some_iff, Option.map_eq_some_iff] at hv
      obtain ⟨l, hl, r, hr, rfl⟩ := hv
      obtain ⟨h1, h2⟩ := hmap l hl
      obtain ⟨rs, hf1, hf2, hf3⟩ := fillA_sound (w := w) (x := h.x) hE hc.ifaces (fun i => some (i * inf2.size, inf2.size)) (fun i off ft ti' h3 h4 => by
          simp only [List.getElem?_map, Option.map_eq_some_iff, Prod.mk.injEq] at h3
          obtain ⟨j, hj, rfl, rfl⟩ := h3
          rw [hti] at h4
          cases h4
          have hje : j = i := by
            rw [List.getElem?_range] at hj
            · simpa using hj.symm
            · have := (List.getElem?_eq_some_iff.1 hj).1; simpa using this
          subst hje
          rw [hj2])
        l _ zero r z.cells hr h1 h2 hzl (fun j c y hj hy => (hzr j c y hj hy).rep)
      refine hdo rs r ?_ hf2 hf3
      simp only [Program.built, hi1, hu, hz, hj1]
      exact hf1
    · simp at hv
  · simp at hv

theorem mapM_ev (hc : Ctx E G h fr a w) : ∀ {xs : List Operand} {l : List AV}, xs.mapM (E.ev fr) = some l → l.length = xs.length ∧ ∀ (j : Nat) (q : AV) (x : Operand), l[j]? = some q → xs[j]? = some x → Rep E.P G h w q (a.eval x)
  | [], l, hl => by simp at hl; subst hl; simp
  | x :: r, l, hl => by
    simp only [List.mapM_cons, Option.bind_eq_bind, Option.bind_eq_some_iff, Option.pure_def, Option.some.injEq] at hl
    obtain ⟨v, hv, l', hl', rfl⟩ := hl
    obtain ⟨h1, h2⟩ := mapM_ev hc hl'
    refine ⟨by simp [h1], fun j q p hq hp => ?_⟩
    cases j with
    | zero => simp at hq hp; subst hq; subst hp; exact ev_sound hc hv
    | succ j => exact h2 j q p (by simpa using hq) (by simpa using hp)

theorem isU8_und (hE : E.Ok) {e : TypeId} (h : isU8 E e = true) : E.P.underlying e = some (.int .u8) ∧ ∃ i, E.ty e = some i ∧ i.sz = 1 := by
  unfold isU8 at h
  split at h
  · rename_i by_ z he
    exact ⟨(hE.ty e _ he).und, _, he, rfl⟩
  · simp at h

theorem intsA_get : ∀ {xs : List AV} {ns : List Int}, intsA xs = some ns → xs = ns.map (AV.int .u8)
  | [], ns, h => by simp [intsA] at h; subst h; rfl
  | x :: r, ns, h => by
    cases x <;> try (simp [intsA] at h; done)
    rename_i k n
    cases k <;> try (simp [intsA] at h; done)
    simp only [intsA, Option.map_eq_some_iff] at h
    obtain ⟨l, hl, rfl⟩ := h
    rw [intsA_get hl]
    rfl

/-- The bytes of a slice that is read, as a string. -/
theorem run_bytes {P : Program} {x : Ext} {xs : List AV} {ns : List Int} {A : Option Addr} {c : Nat} (H : RepD G x w (.sl xs) (.slice A xs.length c)) (hns : intsA xs = some ns) (hE : E.Ok) {e : TypeId} (hu8 : isU8 E e = true) :
    ∀ k, (Conv.bytesToString (.slice A xs.length k)).run P w = .ok (.string (pushAll ns)) w := by
  intro k
  have hx := intsA_get hns
  subst hx
  cases A with
  | none =>
    have : ns = [] := by
      generalize hl2 : ns.map (AV.int .u8) = l at H
      generalize hm : l.length = m at H
      cases H with
      | sl0 => cases ns with
        | nil => rfl
        | cons n ns => simp at hl2
    subst this
    simp [Conv.bytesToString, pushAll]
  | some ad =>
    refine run_bytesToString w ad _ k ns ?_
    generalize hm : (ns.map (AV.int .u8)).length = m at H
    have hl : m = ns.length := by rw [← hm]; simp
    have := run_loadCells_list (P := P) w ad (ns.map (Value.int .u8)) (fun j v hj => ?_)
    · rw [List.length_map] at this
      rw [hl]
      exact this
    · generalize hl2 : ns.map (AV.int .u8) = l at H
      cases H with
      | sl0 => 
        have : ns = [] := by cases ns with | nil => rfl | cons n ns => simp at hl2
        subst this
        simp at hj
      | sl _ _ _ sz f h1 h2 h3 h4 =>
        subst hl2
        rw [List.getElem?_map, Option.map_eq_some_iff] at hj
        obtain ⟨n, hn, rfl⟩ := hj
        have hi : (ns.map (AV.int .u8))[j]? = some (.int .u8 n) := by rw [List.getElem?_map, hn]; rfl
        have hs := h2 j _ hi
        simp only [AV.cells, List.length_cons, List.length_nil] at hs
        obtain ⟨k1, _⟩ := h3 j 0 _ (.int .u8 n) hi rfl
        have k2 := h4 j 0 _ (.int .u8 n) hi rfl
        generalize hf : f j 0 = u at k1 k2
        cases k2
        rw [← hs] at k1
        simpa using k1

theorem valOp_sound (hE : E.Ok) (hc : Ctx E G h fr a w) {o : Oper} {v : AV} (hv : valOp E (E.ev fr) o.op = some v) : Does E G h a w o v := by
  cases ho : o.op with
  | move x => rw [ho] at hv; exact ⟨_, by simp [execOp, ho], ev_sound hc hv⟩
  | assign x => rw [ho] at hv; exact ⟨_, by simp [execOp, ho], ev_sound hc hv⟩
  | pick c x y =>
    rw [ho] at hv
    simp only [valOp, Option.bind_eq_some_iff] at hv
    obtain ⟨p, hp, hv⟩ := hv
    split at hv
    · rename_i t
      have hb := rep_bool (ev_sound hc hp)
      split at hv
      · rename_i ht; exact ⟨_, by simp [execOp, ho, hb, asBool, ht], ev_sound hc hv⟩
      · rename_i ht; exact ⟨_, by simp [execOp, ho, hb, asBool, ht], ev_sound hc hv⟩
    · simp at hv
  | binOp op t x y yt =>
    rw [ho] at hv
    simp only [valOp, Option.bind_eq_some_iff] at hv
    obtain ⟨p, hp, q, hq, hv⟩ := hv
    obtain ⟨u, h1, h2⟩ := binA_sound hE hc hp hq hv
    refine ⟨u, ?_, h2⟩
    simp only [execOp, ho, Sem.run_bind] at h1 ⊢
    rw [h1]
    simp
  | unOp op t x =>
    rw [ho] at hv
    simp only [valOp, Option.bind_eq_some_iff] at hv
    obtain ⟨p, hp, hv⟩ := hv
    have hr := ev_sound hc hp
    unfold unA at hv
    split at hv
    · simp only [Option.some.injEq] at hv; subst hv
      exact ⟨_, by simp [execOp, ho, rep_bool hr, Op.unary], mk_bool _ _⟩
    · simp only [Option.some.injEq] at hv; subst hv
      exact ⟨_, by simp [execOp, ho, rep_int hr, Op.unary, Op.intArith], mk_int _ _ _⟩
    · simp at hv
  | convert src dst x =>
    rw [ho] at hv
    simp only [valOp, Option.bind_eq_some_iff] at hv
    obtain ⟨p, hp, hv⟩ := hv
    have hr := ev_sound hc hp
    unfold convA at hv
    split at hv
    · rename_i k0 n d1 k h1 h2
      simp only [Option.some.injEq] at hv; subst hv
      have hu2 : E.P.underlying dst = some (.int k) := und_of hE h2
      have hu1 := und_of hE h1
      obtain ⟨d, hd⟩ : ∃ d, E.P.underlying src = some d := by
        cases d1 <;> simp only [Und] at hu1 <;> first | exact ⟨_, hu1⟩ | (obtain ⟨x, y, z, hu1⟩ := hu1; exact ⟨_, hu1⟩) | (obtain ⟨x, y⟩ := hu1; first | exact ⟨_, y⟩ | exact ⟨_, y.1⟩)
      exact ⟨_, by simp [execOp, ho, rep_int hr, Go.convert, run_underlying hd, run_underlying hu2, Conv.intToInt], mk_int _ _ _⟩
    · rename_i s h1 h2
      simp only [Option.some.injEq] at hv; subst hv
      have hu2 : E.P.underlying dst = some .string := und_of hE h2
      have hu1 : E.P.underlying src = some .string := und_of hE h1
      exact ⟨_, by simp [execOp, ho, rep_str hr, Go.convert, run_underlying hu1, run_underlying hu2], mk_str _ _⟩
    · rename_i k0 n k1 h1 h2
      simp only [Option.some.injEq] at hv; subst hv
      have hu2 : E.P.underlying dst = some .string := und_of hE h2
      have hu1 : E.P.underlying src = some (.int k1) := und_of hE h1
      exact ⟨_, by simp [execOp, ho, rep_int hr, Go.convert, run_underlying hu1, run_underlying hu2, Conv.intToString], mk_str _ _⟩
    · rename_i e h1 h2
      split at hv
      · rename_i hu8
        simp only [Option.bind_eq_some_iff, Option.some.injEq] at hv
        obtain ⟨xs, hxs, ns, hns, rfl⟩ := hv
        have hu2 : E.P.underlying dst = some .string := und_of hE h2
        have hu1 : E.P.underlying src = some (.slice e) := und_of hE h1
        obtain ⟨hue, hse⟩ := isU8_und hE hu8
        obtain ⟨A, c, hA, hlc, hrep⟩ := rep_elems hr hxs
        rw [hA] at hrep
        have hgo := run_bytes (P := E.P) hrep hns hE hu8
        refine ⟨.string (pushAll ns), ?_, mk_str _ _⟩
        simp only [execOp, ho, Sem.run_bind, Go.convert, run_underlying hu1, run_underlying hu2, hA, Result.andThen_ok]
        cases A <;> simp [run_underlying hue, hgo _]
      · simp at hv
    · simp at hv
  | nilCheck x =>
    rw [ho] at hv
    simp only [valOp, Option.bind_eq_some_iff] at hv
    obtain ⟨p, hp, hv⟩ := hv
    have hr := ev_sound hc hp
    split at hv
    · simp only [Option.some.injEq] at hv; subst hv
      obtain ⟨g, hm, hpt⟩ := hr
      exact ⟨_, by simp [execOp, ho, hpt], g, hm, rfl⟩
    · simp only [Option.some.injEq] at hv; subst hv
      have hr' : RepD G h.x w (.el _) (a.eval x) := hr
      obtain ⟨ad, had⟩ := el_ptr hr'
      rw [had] at hr'
      exact ⟨_, by simp [execOp, ho, had], hr'⟩
    · simp at hv
  | build t ps => exact does_build hE hc ho (by rw [← ho]; exact hv)
  | fieldAddr t x f => exact does_fieldAddr hE hc ho (by rw [← ho]; exact hv)
  | field t x f => exact does_field hE hc ho (by rw [← ho]; exact hv)
  | indexAddr t x i => exact does_indexAddr hE hc ho (by rw [← ho]; exact hv)
  | index t x i => exact does_index hE hc ho (by rw [← ho]; exact hv)
  | slice t x lo hi mx =>
    cases mx with
    | none => exact does_slice hE hc ho (by rw [← ho]; exact hv)
    | some m => rw [ho] at hv; simp [valOp] at hv
  | extract x i =>
    rw [ho] at hv
    simp only [valOp, Option.bind_eq_some_iff] at hv
    obtain ⟨p, hp, hv⟩ := hv
    have hr := ev_sound hc hp
    split at hv
    · rename_i vs
      have hr' : RepD G h.x w (.tup vs) (a.eval x) := hr
      generalize hu : a.eval x = u at hr'
      cases hr' with
      | tup _ us hl hrr =>
        have hlt : i < us.length := by have := (List.getElem?_eq_some_iff.1 hv).1; omega
        exact ⟨us[i], by simp [execOp, ho, hu, Instr.extract, hlt], rep_of_repD_scalar (hrr i v us[i] hv (by simp))⟩
    · simp at hv
  | makeFunc fn first caps =>
    rw [ho] at hv
    match fn, first, ho, hv with
    | .func f, ⟨[]⟩, ho, hv =>
      simp only [valOp, Option.bind_eq_some_iff] at hv
      obtain ⟨l, hl, hv⟩ := hv
      split at hv
      · rename_i hall
        simp only [Option.some.injEq] at hv; subst hv
        obtain ⟨h1, h2⟩ := mapM_ev hc hl
        refine ⟨.func (.func f) #[] (caps.map a.eval), by simp [execOp, ho, Instr.makeFunc], (caps.map a.eval).toList, by rw [Array.toArray_toList], by simp [h1], fun j c u hj hu => ?_⟩
        simp only [Array.toList_map, List.getElem?_map, Option.map_eq_some_iff] at hu
        obtain ⟨x, hx, rfl⟩ := hu
        have hrx := h2 j c x hj hx
        have hcm : c ∈ l := List.mem_of_getElem? hj
        have := List.all_eq_true.1 hall c hcm
        cases c <;> first
          | exact hrx
          | exact repC_data this (rep_data this hrx)
      · simp at hv
    | .func f, ⟨_ :: _⟩, ho, hv => simp [valOp] at hv
    | .method _, _, ho, hv => simp [valOp] at hv
    | .methodOf _ _, _, ho, hv => simp [valOp] at hv
    | .via _ _ _ _, _, ho, hv => simp [valOp] at hv
    | .yield _, _, ho, hv => simp [valOp] at hv
  | call c =>
    rw [ho] at hv
    have key : (∃ x t, c = ⟨.builtin .len, ⟨[x]⟩, ⟨[t]⟩⟩) ∨ (∃ x y ts, c = ⟨.builtin .max, ⟨[x, y]⟩, ts⟩) ∨ (∃ x y ts, c = ⟨.builtin .min, ⟨[x, y]⟩, ts⟩) := by
      unfold valOp at hv
      split at hv <;> first | (simp at hv; done) | (rename_i heq; cases heq; done) | (rename_i heq; simp only [Op.call.injEq] at heq; exact .inl ⟨_, _, heq⟩) | (rename_i heq; simp only [Op.call.injEq] at heq; exact .inr (.inl ⟨_, _, _, heq⟩)) | (rename_i heq; simp only [Op.call.injEq] at heq; exact .inr (.inr ⟨_, _, _, heq⟩))
    rcases key with ⟨x, t, rfl⟩ | ⟨x, y, ts, rfl⟩ | ⟨x, y, ts, rfl⟩
    rotate_left
    · simp only [valOp, Option.bind_eq_some_iff] at hv
      obtain ⟨p, hp, q, hq, hv⟩ := hv
      split at hv
      · simp only [Option.some.injEq] at hv; subst hv
        have e1 := rep_int (ev_sound hc hp)
        have e2 := rep_int (ev_sound hc hq)
        exact ⟨_, by simp [execOp, ho, resolve, invoke, builtin, Builtin.max_, Builtin.max2, e1, e2], mk_int _ _ _⟩
      · simp at hv
    · simp only [valOp, Option.bind_eq_some_iff] at hv
      obtain ⟨p, hp, q, hq, hv⟩ := hv
      split at hv
      · simp only [Option.some.injEq] at hv; subst hv
        have e1 := rep_int (ev_sound hc hp)
        have e2 := rep_int (ev_sound hc hq)
        exact ⟨_, by simp [execOp, ho, resolve, invoke, builtin, Builtin.min_, Builtin.min2, e1, e2], mk_int _ _ _⟩
      · simp at hv
    simp only [valOp, Option.bind_eq_some_iff] at hv
    obtain ⟨p, hp, hv⟩ := hv
    have hr := ev_sound hc hp
    split at hv
    · rename_i sz by_ zero s ht
      have hu : E.P.underlying t = some .string := (hE.ty t _ ht).und
      simp only [Option.some.injEq] at hv; subst hv
      exact ⟨_, by simp [execOp, ho, resolve, invoke, builtin, Builtin.len_, run_underlying hu, rep_str hr, goInt], mk_int _ _ _⟩
    · rename_i e sz by_ zero dd jj m ht
      have hu : E.P.underlying t = some (.slice e) := (hE.ty t _ ht).und
      simp only [Option.some.injEq] at hv
      subst hv
      obtain ⟨g, cap, hg, hmc, hA⟩ := hr
      exact ⟨_, by simp [execOp, ho, resolve, invoke, builtin, Builtin.len_, run_underlying hu, hA, goInt], mk_int _ _ _⟩
    · rename_i e _ _ _ ht _
      have hu : E.P.underlying t = some (.slice e) := (hE.ty t _ ht).und
      simp only [Option.bind_eq_some_iff, Option.some.injEq] at hv
      obtain ⟨xs, hxs, rfl⟩ := hv
      obtain ⟨A, cp, hA, _, _⟩ := rep_elems hr hxs
      exact ⟨_, by simp [execOp, ho, resolve, invoke, builtin, Builtin.len_, run_underlying hu, hA, goInt], mk_int _ _ _⟩
    · simp at hv
  | _ => rw [ho] at hv; simp [valOp] at hv
end
end Go.Avm

/-
  The abstract machine, part 6: what a state of the machine stands for, and how that is kept while memory grows.
-/
namespace Go.Avm
set_option linter.unusedVariables false
set_option linter.unusedSimpArgs false

def Gh.sh (h : Gh) (d : Nat) : Gh := { h with m := fun d' i => h.m (d + d') i }

def BoxOK (P : Program) (G : Nat → Value) (h : Gh) (w : World) (d i : Nat) (cs : List AV) : Prop :=
  ∃ (g : Nat) (vs : List Value) (T : TypeId) (fz : Nat × Nat), h.m d i = some g ∧ (w.heap[g]? = some (.cells vs.toArray T fz) ∧ (fz = (0, 0) ∨ vs.length ≤ fz.1) ∧ T = i / 100000 ∧ (cs.length = vs.length ∨ P.underlying T = some (.int .u8))) ∧ h.x g = some 0 ∧ cs.length ≤ vs.length ∧
    ∀ (j : Nat) (c : AV) (u : Value), cs[j]? = some c → vs[j]? = some u → Rep P G (h.sh d) w c u ∧ c.tokOk = true

/-- What stands all the time: blocks that nobody touches, the errors' own blocks, and that these are different errors. -/
structure Pins (E : Env) (G : Nat → Value) (h : Gh) (w : World) : Prop where
  blk : ∀ b ∈ E.pinB, E.pinP b (w.heap[b]?) ∧ b < w.heap.size ∧ (∀ d i, h.m d i ≠ some b) ∧ ∀ t, h.r t ≠ some b
  err : ∀ g, (E.glob g).isSome = true → ∃ (a : Addr) (c : Array Value) (t : TypeId), G g = .iface E.errT (.pointer (some a)) ∧ w.heap[a.block]? = some (.cells c t (0, 0)) ∧ (∀ d i, h.m d i ≠ some a.block) ∧ ∀ t, h.r t ≠ some a.block
  ne : ∀ g g', (E.glob g).isSome = true → (E.glob g').isSome = true → G g = G g' → g = g'

/-- Pins stand where memory has only grown and no new variable or row lies on them. -/
theorem Pins.mono {E : Env} {G : Nat → Value} {h h' : Gh} {w w' : World} (H : Pins E G h w)
    (hw : ∀ b, b < w.heap.size → (∀ d i, h.m d i ≠ some b) → (∀ t, h.r t ≠ some b) → w'.heap[b]? = w.heap[b]? ∧ b < w'.heap.size ∧ (∀ d i, h'.m d i ≠ some b) ∧ ∀ t, h'.r t ≠ some b) : Pins E G h' w' :=
  { blk := fun b hb => by
      obtain ⟨h1, h2, h3, h4⟩ := H.blk b hb
      obtain ⟨k1, k2, k3, k4⟩ := hw b h2 h3 h4
      exact ⟨by rw [k1]; exact h1, k2, k3, k4⟩
    err := fun g hg => by
      obtain ⟨a, c, t, h1, h2, h3, h4⟩ := H.err g hg
      have hlt : a.block < w.heap.size := by
        by_cases h : a.block < w.heap.size
        · exact h
        · rw [Array.getElem?_eq_none (by omega)] at h2; cases h2
      obtain ⟨k1, k2, k3, k4⟩ := hw a.block hlt h3 h4
      exact ⟨a, c, t, h1, k1.trans h2, k3, k4⟩
    ne := H.ne }

structure Sim (E : Env) (G : Nat → Value) (W0 : World) (h0 : Gh) (n : Nat) (h : Gh) (s : S) (a : Act) (w : World) : Prop where
  defers : a.defers = []
  size : n ≤ a.tmps.size
  slots : ∀ i, Rep E.P G h w (s.fr i) (a.tmps.getD i undef)
  boxes : ∀ d i cs, s.look d i = some cs → BoxOK E.P G h w d i cs
  none0 : ∀ d i, s.look d i = none → h.m d i = none
  outer : ∀ d i, h.m (d + 1) i = h0.m (d + 1) i
  inj : ∀ d i d' i' g, h.m d i = some g → h.m d' i' = some g → d = d' ∧ i = i'
  base : ∀ i g, h.m 0 i = some g → W0.heap.size ≤ g
  mlt : ∀ d i g, h.m d i = some g → g < w.heap.size
  rows : ∀ t g, h.r t = some g → (W0.heap.size ≤ g ∨ ∃ t', h0.r t' = some g) ∧ g < w.heap.size ∧ ∀ d i, h.m d i ≠ some g
  rinj : ∀ t t' g, h.r t = some g → h.r t' = some g → t = t'
  os : w.os = W0.os
  tape : w.tape = W0.tape
  output : w.output = W0.output
  hsize : W0.heap.size ≤ w.heap.size
  kept : ∀ g, g < W0.heap.size → (∀ d i, h0.m (d + 1) i ≠ some g) → (∀ t, h0.r t ≠ some g) → w.heap[g]? = W0.heap[g]?
  xold : ∀ g, g < W0.heap.size → (∀ t, h0.r t ≠ some g) → h.x g = h0.x g
  froz : ∀ ad u, W0.cell? ad = some u → St h0.x ad → w.cell? ad = some u ∧ St h.x ad
  glob : ∀ g cs, E.glob g = some cs → RepD G h.x w (.el cs) (.pointer (some ⟨g, 0, none⟩))
  ifaces : ∀ g, ∃ T u, G g = .iface T u
  err0 : Pins E G h0 W0

section
variable {E : Env} {G : Nat → Value} {W0 : World} {h0 h h' : Gh} {n : Nat} {s : S} {a : Act} {w w' : World}

theorem Sim.ctx (H : Sim E G W0 h0 n h s a w) : Ctx E G h s.fr a w := ⟨H.slots, H.glob, H.ifaces⟩

theorem Sim.pins (H : Sim E G W0 h0 n h s a w) : Pins E G h w :=
  H.err0.mono (fun b h1 h2 h3 => by
    refine ⟨H.kept b h1 (fun d i => h2 (d + 1) i) h3, Nat.lt_of_lt_of_le h1 H.hsize, fun d i he => ?_, fun t he => ?_⟩
    · cases d with
      | zero => have := H.base i b he; omega
      | succ d => rw [H.outer] at he; exact h2 (d + 1) i he
    · rcases (H.rows t b he).1 with k | ⟨t', k⟩
      · omega
      · exact h3 t' k)

theorem sh_zero (h : Gh) : h.sh 0 = h := by
  unfold Gh.sh
  simp

theorem getD_set (t : Array Value) (d : Nat) (u : Value) (hd : d < t.size) (i : Nat) : (t.setIfInBounds d u).getD i undef = if i = d then u else t.getD i undef := by
  simp only [Array.getD_eq_getD_getElem?]
  by_cases h : i = d
  · subst h; simp [hd]
  · rw [if_neg h, Array.getElem?_setIfInBounds_ne (Ne.symm h)]

theorem Sim.put (H : Sim E G W0 h0 n h s a w) {v : AV} {u : Value} (hr : Rep E.P G h w v u) {dst : Option Nat} (hd : ∀ d, dst = some d → d < n) :
    Sim E G W0 h0 n h (s.put dst v) (a.put dst u) w := by
  cases dst with
  | none => exact H
  | some d =>
    have hdn := hd d rfl
    have hlt : d < a.tmps.size := Nat.lt_of_lt_of_le hdn H.size
    exact { H with
      size := by simpa [Act.put] using H.size
      slots := fun i => by
        simp only [S.put, Act.put, upd, getD_set _ _ _ hlt]
        split
        · exact hr
        · exact H.slots i
      boxes := fun d' i cs hl => H.boxes d' i cs hl
      none0 := fun d' i hl => H.none0 d' i hl }

def killO : Option Nat → AV → AV
  | none, v => v
  | some t, v => killV t v

/-- A step of memory: which cells stay, which variables, which owned rows. -/
structure Stp (h h' : Gh) (w w' : World) (tk : Option Nat) : Prop where
  cell : ∀ ad u, w.cell? ad = some u → St h.x ad → w'.cell? ad = some u ∧ St h'.x ad
  m : ∀ d i g, h.m d i = some g → h'.m d i = some g
  r : ∀ t g, some t ≠ tk → h.r t = some g → w'.heap[g]? = w.heap[g]? ∧ h'.r t = some g ∧ h'.x g = h.x g

theorem Stp.sh {tk : Option Nat} (H : Stp h h' w w' tk) (d : Nat) : Stp (h.sh d) (h'.sh d) w w' tk := ⟨H.cell, fun d' i g hm => H.m _ i g hm, H.r⟩

theorem Rep.stp {P : Program} {tk : Option Nat} (H : Stp h h' w w' tk) {v : AV} {u : Value} (hr : Rep P G h w v u) : Rep P G h' w' (killO tk v) u := by
  have hk : ∀ v, (∀ t e xs, v ≠ .own t e xs) → killO tk v = v := by
    intro v hv
    cases tk with
    | none => rfl
    | some t => cases v <;> first | rfl | exact absurd rfl (hv _ _ _)
  cases v with
  | own t e xs =>
    have hOwn : some t ≠ tk → Rep P G h' w' (.own t e xs) u := by
      intro hne
      obtain ⟨h1, h2⟩ := hr
      refine ⟨RepD.mono H.cell h1, ?_⟩
      rcases h2 with h2 | ⟨g, cap, cs, i, e1, e2, e3, e4, e5, e6, e7, e8, e9⟩
      · exact .inl h2
      · obtain ⟨k1, k2, k3⟩ := H.r t g hne e7
        exact .inr ⟨g, cap, cs, i, e1, k1.trans e2, e3, e4, e5, e6, k2, k3.trans e8, e9⟩
    cases tk with
    | none => exact hOwn (by simp)
    | some t' =>
      show Rep P G h' w' (killV t' (.own t e xs)) u
      simp only [killV]
      split
      · exact rep_any _
      · rename_i hne; exact hOwn (by simpa using hne)
  | box d i off =>
    rw [hk _ (by simp)]
    obtain ⟨g, h1, h2⟩ := hr
    exact ⟨g, H.m _ _ _ h1, h2⟩
  | bs d i n =>
    rw [hk _ (by simp)]
    obtain ⟨g, cap, h1, h2⟩ := hr
    exact ⟨g, cap, H.m _ _ _ h1, h2⟩
  | fn f caps =>
    rw [hk _ (by simp)]
    obtain ⟨vs, h1, h2, h3⟩ := hr
    refine ⟨vs, h1, h2, fun j c u hj hu => ?_⟩
    have := h3 j c u hj hu
    cases c <;> first
      | exact this
      | exact RepD.mono H.cell this
      | (obtain ⟨g, h4, h5⟩ := this; exact ⟨g, H.m _ _ _ h4, h5⟩)
  | _ => rw [hk _ (by simp)]; exact RepD.mono H.cell hr

theorem killV_strip (t : Nat) (c : AV) : (killV t c).strip = c.strip ∨ (killV t c).strip = .any := by
  cases c <;> simp [killV]
  split <;> simp [AV.strip]

theorem strip_not_own (c : AV) : ∀ t e xs, c.strip ≠ .own t e xs := by cases c <;> simp [AV.strip]

theorem killO_strip (tk : Option Nat) (c : AV) : killO tk c.strip = c.strip := by
  cases tk with
  | none => rfl
  | some t => cases c <;> rfl

theorem killO_tok (tk : Option Nat) {c : AV} (h : c.tokOk = true) : (killO tk c).tokOk = true := by
  cases tk with
  | none => exact h
  | some t =>
    cases c <;> try exact h
    simp only [killO, killV]
    split
    · rfl
    · exact h

/-- A variable that nobody has written stays. -/
theorem BoxOK.stp {P : Program} {tk : Option Nat} (H : Stp h h' w w' tk) {d i : Nat} {cs : List AV} (hb : BoxOK P G h w d i cs)
    (hsame : ∀ g, h.m d i = some g → w'.heap[g]? = w.heap[g]? ∧ h'.x g = h.x g) : BoxOK P G h' w' d i (cs.map (killO tk)) := by
  obtain ⟨g, vs, T, fz, h1, h2, h3, h4, h5⟩ := hb
  obtain ⟨k1, k2⟩ := hsame g h1
  refine ⟨g, vs, T, fz, H.m _ _ _ h1, ⟨k1.trans h2.1, h2.2.1, h2.2.2.1, by simpa using h2.2.2.2⟩, k2.trans h3, by simpa using h4, fun j c u hj hu => ?_⟩
  rw [List.getElem?_map, Option.map_eq_some_iff] at hj
  obtain ⟨c0, hc0, rfl⟩ := hj
  obtain ⟨h6, h7⟩ := h5 j c0 u hc0 hu
  exact ⟨Rep.stp (H.sh d) h6, killO_tok tk h7⟩

theorem map_killO_none (cs : List AV) : cs.map (killO none) = cs := by
  show cs.map (fun v => v) = cs
  simp

/-- A step in which the same blocks stand: the tape alone has moved. -/
theorem Sim.drew (H : Sim E G W0 h0 n h s a w) : Sim E G W0 h0 n h s a { w with drawn := w.drawn + 1 } := by
  have S0 : Stp h h w { w with drawn := w.drawn + 1 } none := ⟨fun ad u h1 h2 => ⟨h1, h2⟩, fun d i g h1 => h1, fun t g h1 h2 => ⟨rfl, h2, rfl⟩⟩
  exact { H with
    slots := fun i => Rep.stp S0 (H.slots i)
    boxes := fun d i cs hl => by
      have := BoxOK.stp S0 (H.boxes d i cs hl) (fun g _ => ⟨rfl, rfl⟩)
      rwa [map_killO_none] at this
    glob := fun g cs hg => RepD.mono S0.cell (H.glob g cs hg) }

def S.killO (s : S) : Option Nat → S
  | none => s
  | some t => s.kill t

theorem killO_fr (s : S) (tk : Option Nat) (i : Nat) : (s.killO tk).fr i = Avm.killO tk (s.fr i) := by cases tk <;> rfl

theorem killO_look (s : S) (tk : Option Nat) (d i : Nat) : (s.killO tk).look d i = (s.look d i).map (List.map (Avm.killO tk)) := by
  cases tk with
  | none =>
    show s.look d i = (s.look d i).map (List.map (Avm.killO none))
    cases s.look d i with
    | none => rfl
    | some cs => rw [Option.map_some, map_killO_none]
  | some t =>
    cases d with
    | zero => rfl
    | succ d =>
      simp only [S.look, S.killO, S.kill, lookR, List.getElem?_cons_succ, List.getElem?_map]
      cases s.rest[d]? <;> rfl

theorem killO_none (s : S) (tk : Option Nat) (d i : Nat) : (s.killO tk).look d i = none ↔ s.look d i = none := by
  rw [killO_look]; simp

/-- Memory grows, a name of an owned row may pass away; nothing of the elder blocks changes but, maybe, that row's. -/
theorem Sim.grow {tk : Option Nat} (H : Sim E G W0 h0 n h s a w) (St : Stp h h' w w' tk)
    (hsame : ∀ d i g, h.m d i = some g → w'.heap[g]? = w.heap[g]? ∧ h'.x g = h.x g)
    (hold : ∀ g, g < W0.heap.size → (∀ d i, h0.m (d + 1) i ≠ some g) → (∀ t, h0.r t ≠ some g) → w'.heap[g]? = w.heap[g]?)
    (hxold : ∀ g, g < W0.heap.size → (∀ t, h0.r t ≠ some g) → h'.x g = h.x g)
    (hm : h'.m = h.m) (hos : w'.os = w.os) (htape : w'.tape = w.tape) (hout : w'.output = w.output) (hsz : w.heap.size ≤ w'.heap.size)
    (hr : ∀ t g, h'.r t = some g → (W0.heap.size ≤ g ∨ ∃ t', h0.r t' = some g) ∧ g < w'.heap.size ∧ ∀ d i, h.m d i ≠ some g)
    (hrinj : ∀ t t' g, h'.r t = some g → h'.r t' = some g → t = t') : Sim E G W0 h0 n h' (s.killO tk) a w' := by
  exact
  { defers := H.defers
    size := H.size
    slots := fun i => by rw [killO_fr]; exact Rep.stp St (H.slots i)
    boxes := fun d i cs hl => by
      rw [killO_look, Option.map_eq_some_iff] at hl
      obtain ⟨cs0, h1, rfl⟩ := hl
      exact BoxOK.stp St (H.boxes d i cs0 h1) (fun g hg => hsame d i g hg)
    none0 := fun d i hi => by rw [hm]; exact H.none0 d i ((killO_none s tk d i).1 hi)
    outer := fun d i => by rw [hm]; exact H.outer d i
    inj := fun d i d' i' g h1 h2 => H.inj d i d' i' g (by rw [← hm]; exact h1) (by rw [← hm]; exact h2)
    base := fun i g h1 => H.base i g (by rw [← hm]; exact h1)
    mlt := fun d i g h1 => Nat.lt_of_lt_of_le (H.mlt d i g (by rw [← hm]; exact h1)) hsz
    rows := fun t g h1 => by rw [hm]; exact hr t g h1
    rinj := hrinj
    os := hos.trans H.os
    tape := htape.trans H.tape
    output := hout.trans H.output
    hsize := Nat.le_trans H.hsize hsz
    kept := fun g h1 h2 h3 => (hold g h1 h2 h3).trans (H.kept g h1 h2 h3)
    xold := fun g h1 h2 => (hxold g h1 h2).trans (H.xold g h1 h2)
    froz := fun ad u h1 h2 => by
      obtain ⟨h3, h4⟩ := H.froz ad u h1 h2
      exact St.cell ad u h3 h4
    glob := fun g cs hg => RepD.mono St.cell (H.glob g cs hg)
    ifaces := H.ifaces
    err0 := H.err0 }
end
end Go.Avm

/-
  The abstract machine, part 7: what the operations that make and write memory do to a state.
-/
namespace Go.Avm
set_option linter.unusedVariables false
set_option linter.unusedSimpArgs false

section
variable {E : Env} {G : Nat → Value} {W0 : World} {h0 h h' : Gh} {n : Nat} {s : S} {a : Act} {w w' : World}

theorem rep_one {P : Program} (hif : ∀ g, ∃ T u, G g = .iface T u) {c : AV} {u : Value} (ho : c.one = true) (H : Rep P G h w c u) : u.oneCell' = true := by
  cases c <;> simp only [AV.one, reduceCtorEq, Bool.false_eq_true] at ho
  case fn f caps => obtain ⟨vs, rfl, _⟩ := H; rfl
  case box d i off => obtain ⟨g, _, rfl⟩ := H; rfl
  case bs d i n => obtain ⟨g, cap, _, _, rfl⟩ := H; rfl
  case own t e xs => have H1 := H.1; cases H1 <;> rfl
  case err g => obtain ⟨T, v, hG⟩ := hif g; have H' : RepD G h.x w (.err g) u := H; cases H'; rw [hG]; rfl
  all_goals (have H' : RepD G h.x w _ u := H; cases H' <;> rfl)

/-- The cells of a value, one by one. -/
theorem rep_cells {P : Program} (hif : ∀ g, ∃ T u, G g = .iface T u) {v : AV} {u : Value} (h1 : v.cells.all AV.one = true) (H : Rep P G h w v u) :
    v.cells.length = u.cells.size ∧ ∀ (j : Nat) (c : AV) (y : Value), v.cells[j]? = some c → u.cells[j]? = some y → Rep P G h w c y := by
  by_cases hagg : ∃ cs, v = .agg cs
  · obtain ⟨cs, rfl⟩ := hagg
    obtain ⟨vs, rfl, hl, hr⟩ := rep_agg H
    exact ⟨by simp [AV.cells, Value.cells, hl], fun j c y hj hy => rep_of_repD_scalar (hr j c y hj (by simpa [Value.cells] using hy))⟩
  · have hv : v.cells = [v] := by cases v <;> first | rfl | exact absurd ⟨_, rfl⟩ hagg
    rw [hv] at h1 ⊢
    have h1' : v.one = true := by simpa using h1
    have hu := rep_one hif h1' H
    have huc : u.cells = #[u] := by cases u <;> first | rfl | simp [Value.oneCell'] at hu
    rw [huc]
    refine ⟨by simp, fun j c y hj hy => ?_⟩
    cases j with
    | zero => simp at hj hy; subst hj; subst hy; exact H
    | succ j => simp at hj

theorem rep_shift {P : Program} {d : Nat} {c : AV} {u : Value} (H : Rep P G (h.sh d) w c u) : Rep P G h w (c.shift d) u := by
  cases c <;> try exact H
  case box d' i off => obtain ⟨g, h1, h2⟩ := H; exact ⟨g, by simpa [Gh.sh, Nat.add_comm] using h1, h2⟩
  case bs d' i n => obtain ⟨g, cap, h1, h2⟩ := H; exact ⟨g, cap, by simpa [Gh.sh, Nat.add_comm] using h1, h2⟩
  case fn f caps =>
    obtain ⟨vs, h1, h2, h3⟩ := H
    refine ⟨vs, h1, by simp [h2], fun j c u hj hu => ?_⟩
    rw [List.getElem?_map, Option.map_eq_some_iff] at hj
    obtain ⟨c0, hc0, rfl⟩ := hj
    have := h3 j c0 u hc0 hu
    cases c0 <;> try exact this
    obtain ⟨g, h4, h5⟩ := this
    exact ⟨g, by simpa [Gh.sh, Nat.add_comm] using h4, h5⟩

theorem repD_strip {x : Ext} {c : AV} {u : Value} (H : RepD G x w c u) : c.strip = c := by cases H <;> rfl

/-! Loads. -/
theorem loadA_el (hE : E.Ok) {t : TypeId} {i : TyI} (hi : E.ty t = some i) {cs : List AV} {ad : Addr} {v : AV} (H : RepD G h.x w (.el cs) (.pointer (some ad))) (hv : loadA i cs 0 = some v) :
    ∃ u, (Instr.loadAt t (.pointer (some ad))).run E.P w = .ok u w ∧ Rep E.P G h w v u := by
  have hok := hE.ty t i hi
  cases H with
  | el _ _ f hc hr =>
    have hagg : (match i.d with | .struct _ => True | .arr _ _ => True | _ => False) → 0 + i.sz ≤ cs.length → v = .agg (((cs.drop 0).take i.sz).map AV.strip) →
        ∃ u, (Instr.loadAt t (.pointer (some ad))).run E.P w = .ok u w ∧ Rep E.P G h w v u := by
      intro hd hfit hv
      have hag := hok.isAgg w hd
      have hrun := run_loadCells (P := E.P) w ad i.sz f (fun j hj => by
        have : cs[j]? = some cs[j] := by simp
        exact (hc j _ this).1)
      refine ⟨.agg ((List.range i.sz).map f).toArray, by simp [Instr.loadAt, Instr.sureAddr, loadVar, hag, hok.sizeOf, hrun], ?_⟩
      rw [hv]
      refine RepD.agg _ _ (by simp; omega) (fun j c y hj hy => ?_)
      rw [List.getElem?_map, Option.map_eq_some_iff] at hj
      obtain ⟨c0, hc0, rfl⟩ := hj
      rw [List.getElem?_take] at hc0
      split at hc0
      · rename_i hlt
        have hc0' : cs[j]? = some c0 := by simpa using hc0
        rw [List.getElem?_map, List.getElem?_range hlt] at hy
        simp only [Option.map_some, Option.some.injEq] at hy
        subst hy
        have := hr j c0 hc0'
        rwa [repD_strip this]
      · simp at hc0
    have hone : (match i.d with | .struct _ => False | .arr _ _ => False | .other => False | _ => True) → cs[0]? = some v →
        ∃ u, (Instr.loadAt t (.pointer (some ad))).run E.P w = .ok u w ∧ Rep E.P G h w v u := by
      intro hd hv
      have hag := hok.notAgg w hd
      have h1 := (hc 0 v hv).1
      rw [Addr.add_zero'] at h1
      exact ⟨f 0, by simp [Instr.loadAt, Instr.sureAddr, loadVar, hag, h1], rep_of_repD_scalar (hr 0 v hv)⟩
    unfold loadA at hv
    split at hv
    · rename_i hd
      split at hv
      · rename_i hb
        simp only [Option.some.injEq] at hv
        exact hagg (by rw [hd]; trivial) hb.1 hv.symm
      · simp at hv
    · rename_i hd
      split at hv
      · rename_i hb
        simp only [Option.some.injEq] at hv
        exact hagg (by rw [hd]; trivial) hb.1 hv.symm
      · simp at hv
    · simp at hv
    · rename_i hn1 hn2 hn3
      refine hone ?_ hv
      cases hd : i.d <;> first | trivial | exact absurd hd (hn1 _) | exact absurd hd (hn2 _ _) | exact absurd hd hn3

theorem loadA_box (hE : E.Ok) {t : TypeId} {i : TyI} (hi : E.ty t = some i) {d j off : Nat} {cs : List AV} {g : Nat} {v : AV} (hg : h.m d j = some g) (H : BoxOK E.P G h w d j cs) (hv : loadA i cs off = some v) :
    ∃ u, (Instr.loadAt t (.pointer (some ⟨g, off, none⟩))).run E.P w = .ok u w ∧ Rep E.P G h w (v.shift d) u := by
  have hok := hE.ty t i hi
  obtain ⟨g', vs, T, fz, hm, ⟨hb, hfz, hT⟩, hx, hl, hr⟩ := H
  rw [hg] at hm
  cases hm
  have hcell : ∀ k, w.cell? ⟨g, k, none⟩ = vs[k]? := fun k => by simp [World.cell?, hb]
  have hagg : (match i.d with | .struct _ => True | .arr _ _ => True | _ => False) → off + i.sz ≤ cs.length → (((cs.drop off).take i.sz).all fun c => c.strip.data) = true →
      v = .agg (((cs.drop off).take i.sz).map AV.strip) →
      ∃ u, (Instr.loadAt t (.pointer (some ⟨g, off, none⟩))).run E.P w = .ok u w ∧ Rep E.P G h w (v.shift d) u := by
    intro hd hfit hdat hv
    have hag := hok.isAgg w hd
    have hrun := run_loadCells (P := E.P) w ⟨g, off, none⟩ i.sz (fun k => vs.getD (off + k) undef) (fun k hk => by
      rw [Addr.add_lit, hcell]
      have : off + k < vs.length := by omega
      simp [List.getD, this])
    refine ⟨.agg ((List.range i.sz).map fun k => vs.getD (off + k) undef).toArray, by simp [Instr.loadAt, Instr.sureAddr, loadVar, hag, hok.sizeOf, hrun], ?_⟩
    have hsh : v.shift d = v := by rw [hv]; rfl
    rw [hsh, hv]
    refine RepD.agg _ _ (by simp; omega) (fun k c y hj hy => ?_)
    rw [List.getElem?_map, Option.map_eq_some_iff] at hj
    obtain ⟨c0, hc0, rfl⟩ := hj
    have hdat0 : c0.strip.data = true := List.all_eq_true.1 hdat c0 (List.mem_of_getElem? hc0)
    rw [List.getElem?_take] at hc0
    split at hc0
    · rename_i hlt
      rw [List.getElem?_drop] at hc0
      rw [List.getElem?_map, List.getElem?_range hlt] at hy
      simp only [Option.map_some, Option.some.injEq] at hy
      have hlt2 : off + k < vs.length := by omega
      have hy' : vs[off + k]? = some y := by rw [← hy]; simp [List.getD, hlt2]
      have h2 : Rep E.P G (h.sh d) w c0.strip y := rep_strip (hr (off + k) c0 y hc0 hy').1
      exact rep_data (h := h.sh d) hdat0 h2
    · simp at hc0
  have hone : (match i.d with | .struct _ => False | .arr _ _ => False | .other => False | _ => True) → cs[off]? = some v →
      ∃ u, (Instr.loadAt t (.pointer (some ⟨g, off, none⟩))).run E.P w = .ok u w ∧ Rep E.P G h w (v.shift d) u := by
    intro hd hv
    have hag := hok.notAgg w hd
    have hlt : off < vs.length := by have := (List.getElem?_eq_some_iff.1 hv).1; omega
    have h1 := hr off v vs[off] hv (by simp)
    refine ⟨vs[off], by simp [Instr.loadAt, Instr.sureAddr, loadVar, hag, hcell, hlt], ?_⟩
    exact rep_shift h1.1
  unfold loadA at hv
  split at hv
  · rename_i hd
    split at hv
    · rename_i hb'
      simp only [Option.some.injEq] at hv
      exact hagg (by rw [hd]; trivial) hb'.1 hb'.2 hv.symm
    · simp at hv
  · rename_i hd
    split at hv
    · rename_i hb'
      simp only [Option.some.injEq] at hv
      exact hagg (by rw [hd]; trivial) hb'.1 hb'.2 hv.symm
    · simp at hv
  · simp at hv
  · rename_i hn1 hn2 hn3
    refine hone ?_ hv
    cases hd : i.d <;> first | trivial | exact absurd hd (hn1 _) | exact absurd hd (hn2 _ _) | exact absurd hd hn3

/-! Variables. -/
theorem lookR_modify (rest : List BX) (d i : Nat) (cs : List AV) (d' i' : Nat) (hd : (rest[d]?).isSome = true) :
    lookR (rest.modify d (fun f => upd f i (some cs))) d' i' = if d' = d ∧ i' = i then some cs else lookR rest d' i' := by
  obtain ⟨f, hf⟩ := Option.isSome_iff_exists.1 hd
  unfold lookR
  rw [List.getElem?_modify]
  by_cases h1 : d = d'
  · subst h1
    simp only [if_true, hf, Option.map_eq_map, Option.map_some, Option.bind_some, upd, true_and]
  · rw [if_neg (fun h => h1 h.1.symm)]
    simp [h1]

theorem look_setB {d i : Nat} {cs : List AV} (hs : (s.look d i).isSome = true) (cs' : List AV) (d' i' : Nat) : (s.setB d i cs').look d' i' = if d' = d ∧ i' = i then some cs' else s.look d' i' := by
  cases d with
  | zero =>
    cases d' with
    | zero => simp [S.setB, S.look, lookR, upd]
    | succ d' => simp [S.setB, S.look, lookR]
  | succ d =>
    have hsome : (s.rest[d]?).isSome = true := by
      simp only [S.look, lookR, List.getElem?_cons_succ] at hs
      cases hr : s.rest[d]? with
      | none => simp [hr] at hs
      | some f => rfl
    cases d' with
    | zero => simp [S.setB, S.look, lookR]
    | succ d' =>
      have := lookR_modify s.rest d i cs' d' i' hsome
      simpa [S.setB, S.look, lookR] using this

theorem setB_bx {d i : Nat} {cs : List AV} (hs : (s.look d i).isSome = true) (cs' : List AV) (i' : Nat) : (s.setB d i cs').bx i' = none ↔ s.bx i' = none := by
  cases d with
  | zero =>
    simp only [S.setB, upd]
    split
    · rename_i h1
      subst h1
      simp only [reduceCtorEq, false_iff]
      intro h2
      simp [S.look, lookR, h2] at hs
    · rfl
  | succ d => rfl

theorem setB_fr {d i : Nat} {cs : List AV} : (s.setB d i cs).fr = s.fr := by cases d <;> rfl

/-- A variable is written. -/
theorem Sim.setBox (H : Sim E G W0 h0 n h s a w) {d i : Nat} {cs cs' : List AV} {g : Nat} {vs vs' : List Value} {T : TypeId} {fz : Nat × Nat} (hfz : fz = (0, 0) ∨ vs.length ≤ fz.1) (hT : T = i / 100000 ∧ (cs'.length = vs'.length ∨ E.P.underlying T = some (.int .u8))) (hvl : vs'.length = vs.length) (hl : s.look d i = some cs) (hg : h.m d i = some g)
    (hb : w.heap[g]? = some (.cells vs.toArray T fz)) (hx : h.x g = some 0) (hlen : cs'.length ≤ vs'.length)
    (hr : ∀ (j : Nat) (c : AV) (u : Value), cs'[j]? = some c → vs'[j]? = some u → Rep E.P G (h.sh d) w c u ∧ c.tokOk = true) :
    Sim E G W0 h0 n h (s.setB d i cs') a (w.setRow g vs'.toArray) := by
  have hSt : Stp h h w (w.setRow g vs'.toArray) none := by
    refine ⟨fun ad u h1 h2 => ?_, fun _ _ _ h1 => h1, fun t g' _ h2 => ?_⟩
    · have hne : ad.block ≠ g := by
        rintro rfl
        exact absurd (h2 0 hx) (Nat.not_lt_zero _)
      exact ⟨by rw [cell_setRow_other w g _ ad hne]; exact h1, h2⟩
    · have hne : g' ≠ g := by rintro rfl; exact (H.rows t g' h2).2.2 d i hg
      exact ⟨setRow_other w g g' _ hne, h2, rfl⟩
  have hsome : (s.look d i).isSome = true := by rw [hl]; rfl
  exact
  { defers := H.defers
    size := H.size
    slots := fun k => by rw [setB_fr]; exact Rep.stp hSt (H.slots k)
    boxes := fun d' i' cs2 hl2 => by
      rw [look_setB (cs := cs) hsome] at hl2
      split at hl2
      · rename_i he
        obtain ⟨rfl, rfl⟩ := he
        cases hl2
        exact ⟨g, vs', T, fz, hg, ⟨setRow_heap w g _ _ T _ hb, by rw [hvl]; exact hfz, hT⟩, hx, hlen, fun j c u hj hu => by
          have := Rep.stp (hSt.sh d') (hr j c u hj hu).1
          exact ⟨this, (hr j c u hj hu).2⟩⟩
      · rename_i he
        have := BoxOK.stp hSt (H.boxes d' i' cs2 hl2) (fun g' hg' => by
          have hne : g' ≠ g := by
            rintro rfl
            exact he (H.inj d' i' d i g' hg' hg)
          exact ⟨setRow_other w g g' _ hne, rfl⟩)
        rwa [map_killO_none] at this
    none0 := fun d' i' hi => by
      rw [look_setB (cs := cs) hsome] at hi
      split at hi
      · simp at hi
      · exact H.none0 d' i' hi
    outer := H.outer
    inj := H.inj
    base := H.base
    mlt := fun d' i' g' h1 => by rw [setRow_size]; exact H.mlt d' i' g' h1
    rows := fun t g' h1 => by rw [setRow_size]; exact H.rows t g' h1
    rinj := H.rinj
    os := H.os
    tape := H.tape
    output := H.output
    hsize := by rw [setRow_size]; exact H.hsize
    kept := fun g' h1 h2 h3 => by
      have hne : g' ≠ g := by
        rintro rfl
        cases d with
        | zero => have := H.base i g' hg; omega
        | succ d => rw [H.outer] at hg; exact h2 d i hg
      rw [setRow_other w g g' _ hne]
      exact H.kept g' h1 h2 h3
    xold := H.xold
    froz := fun ad u h1 h2 => by
      obtain ⟨h3, h4⟩ := H.froz ad u h1 h2
      exact hSt.cell ad u h3 h4
    glob := fun g' cs2 hg2 => RepD.mono hSt.cell (H.glob g' cs2 hg2)
    ifaces := H.ifaces
    err0 := H.err0 }

def Gh.addM (h : Gh) (i g : Nat) : Gh := { h with x := upd h.x g (some 0), m := fun d' i' => if d' = 0 ∧ i' = i then some g else h.m d' i' }

theorem heap_new (w : World) (o : Obj) : (w.alloc o).heap[w.heap.size]? = some o := by simp only [World.alloc]; simp
theorem heap_old (w : World) (o : Obj) {g : Nat} (hg : g < w.heap.size) : (w.alloc o).heap[g]? = w.heap[g]? := by
  simp only [World.alloc, Array.getElem?_push]
  rw [if_neg (Nat.ne_of_lt hg)]

theorem cell_lt {w : World} {ad : Addr} {u : Value} (hc : w.cell? ad = some u) : ad.block < w.heap.size := World.block_lt_of_cell? w ad hc

/-- A variable is made. -/
theorem Sim.newBoxW (H : Sim E G W0 h0 n h s a w) {d : Nat} {T : TypeId} (hnone : s.bx d = none) {cs : List AV} {vs : List Value} {fz : Nat × Nat} (hT : T = d / 100000 ∧ (cs.length = vs.length ∨ E.P.underlying T = some (.int .u8))) (hlen : cs.length ≤ vs.length)
    (hsz : w'.heap.size = w.heap.size + 1) (hold : ∀ g, g < w.heap.size → w'.heap[g]? = w.heap[g]?) (hnew : w'.heap[w.heap.size]? = some (.cells vs.toArray T fz)) (hfz : fz = (0, 0) ∨ vs.length ≤ fz.1)
    (hos : w'.os = w.os) (htape : w'.tape = w.tape) (hout : w'.output = w.output)
    (hr : ∀ (j : Nat) (c : AV) (u : Value), cs[j]? = some c → vs[j]? = some u → Rep E.P G h w c u ∧ c.tokOk = true) :
    Sim E G W0 h0 n (h.addM d w.heap.size) (s.setB 0 d cs) a w' := by
  have hm0 := H.none0 0 d (by simp [S.look, lookR, hnone])
  have hmext : ∀ d' i' g', h.m d' i' = some g' → (h.addM d w.heap.size).m d' i' = some g' := by
    intro d' i' g' h1
    show (if d' = 0 ∧ i' = d then some w.heap.size else h.m d' i') = some g'
    rw [if_neg]
    · exact h1
    · rintro ⟨rfl, rfl⟩; rw [hm0] at h1; cases h1
  have hxold : ∀ g', g' < w.heap.size → (h.addM d w.heap.size).x g' = h.x g' := by
    intro g' h1
    show upd h.x w.heap.size (some 0) g' = h.x g'
    simp [upd, Nat.ne_of_lt h1]
  have hSt : Stp h (h.addM d w.heap.size) w w' none := by
    refine ⟨fun ad u h1 h2 => ?_, hmext, fun t g' _ h2 => ?_⟩
    · have hlt := cell_lt h1
      refine ⟨by unfold World.cell? at h1 ⊢; rw [hold _ hlt]; exact h1, fun k hk => h2 k ?_⟩
      rwa [hxold _ hlt] at hk
    · have hlt := (H.rows t g' h2).2.1
      exact ⟨hold _ hlt, h2, hxold g' hlt⟩
  have hcase : ∀ d' i' g', (h.addM d w.heap.size).m d' i' = some g' → (d' = 0 ∧ i' = d ∧ g' = w.heap.size) ∨ (¬ (d' = 0 ∧ i' = d) ∧ h.m d' i' = some g' ∧ g' < w.heap.size) := by
    intro d' i' g' h1
    have h1 : (if d' = 0 ∧ i' = d then some w.heap.size else h.m d' i') = some g' := h1
    split at h1
    · rename_i he; cases h1; exact .inl ⟨he.1, he.2, rfl⟩
    · rename_i he; exact .inr ⟨he, h1, H.mlt d' i' g' h1⟩
  exact
  { defers := H.defers
    size := H.size
    slots := fun k => Rep.stp hSt (H.slots k)
    boxes := fun d' i' cs2 hl2 => by
      by_cases he : d' = 0 ∧ i' = d
      · obtain ⟨rfl, rfl⟩ := he
        have : cs2 = cs := by simpa [S.setB, S.look, lookR, upd] using hl2.symm
        subst this
        refine ⟨w.heap.size, vs, T, fz, by show (if 0 = 0 ∧ i' = i' then _ else _) = _; simp, ⟨hnew, hfz, hT⟩, by show upd h.x w.heap.size (some 0) w.heap.size = _; simp [upd], hlen, fun j c u hj hu => ?_⟩
        have := Rep.stp hSt (hr j c u hj hu).1
        rw [sh_zero]
        exact ⟨this, (hr j c u hj hu).2⟩
      · have hl3 : s.look d' i' = some cs2 := by
          cases d' with
          | zero =>
            have hne : i' ≠ d := fun e => he ⟨rfl, e⟩
            simpa [S.setB, S.look, lookR, upd, hne] using hl2
          | succ d' => simpa [S.setB, S.look, lookR] using hl2
        have hb := H.boxes d' i' cs2 hl3
        have := BoxOK.stp hSt hb (fun g' hg' => ⟨hold _ (H.mlt d' i' g' hg'), hxold g' (H.mlt d' i' g' hg')⟩)
        rwa [map_killO_none] at this
    none0 := fun d' i' hi => by
      show (if d' = 0 ∧ i' = d then some w.heap.size else h.m d' i') = none
      cases d' with
      | zero =>
        have hne : i' ≠ d := by rintro rfl; simp [S.setB, S.look, lookR, upd] at hi
        rw [if_neg (fun e => hne e.2)]
        exact H.none0 0 i' (by simpa [S.setB, S.look, lookR, upd, hne] using hi)
      | succ d' =>
        rw [if_neg (by omega)]
        exact H.none0 (d' + 1) i' (by simpa [S.setB, S.look, lookR] using hi)
    outer := fun d' i' => by
      show (if d' + 1 = 0 ∧ i' = d then some w.heap.size else h.m (d' + 1) i') = _
      rw [if_neg (by omega)]
      exact H.outer d' i'
    inj := fun d1 i1 d2 i2 g' h1 h2 => by
      rcases hcase _ _ _ h1 with ⟨rfl, rfl, rfl⟩ | ⟨_, k1, k2⟩ <;> rcases hcase _ _ _ h2 with ⟨rfl, rfl, e⟩ | ⟨_, k3, k4⟩
      · exact ⟨rfl, rfl⟩
      · omega
      · omega
      · exact H.inj _ _ _ _ _ k1 k3
    base := fun i' g' h1 => by
      rcases hcase _ _ _ h1 with ⟨_, _, rfl⟩ | ⟨_, k1, k2⟩
      · exact H.hsize
      · exact H.base i' g' k1
    mlt := fun d' i' g' h1 => by
      rw [hsz]
      rcases hcase _ _ _ h1 with ⟨_, _, rfl⟩ | ⟨_, k1, k2⟩ <;> omega
    rows := fun t g' h1 => by
      obtain ⟨k1, k2, k3⟩ := H.rows t g' h1
      refine ⟨k1, by rw [hsz]; omega, fun d' i' h2 => ?_⟩
      rcases hcase _ _ _ h2 with ⟨_, _, e⟩ | ⟨_, k4, _⟩
      · omega
      · exact k3 _ _ k4
    rinj := H.rinj
    os := hos.trans H.os
    tape := htape.trans H.tape
    output := hout.trans H.output
    hsize := by rw [hsz]; have := H.hsize; omega
    kept := fun g' h1 h2 h3 => by rw [hold _ (Nat.lt_of_lt_of_le h1 H.hsize)]; exact H.kept g' h1 h2 h3
    xold := fun g' h1 h2 => (hxold g' (Nat.lt_of_lt_of_le h1 H.hsize)).trans (H.xold g' h1 h2)
    froz := fun ad u h1 h2 => by
      obtain ⟨h3, h4⟩ := H.froz ad u h1 h2
      exact hSt.cell ad u h3 h4
    glob := fun g' cs2 hg2 => RepD.mono hSt.cell (H.glob g' cs2 hg2)
    ifaces := H.ifaces
    err0 := H.err0 }

theorem Sim.newBox (H : Sim E G W0 h0 n h s a w) {d : Nat} {T : TypeId} (hnone : s.bx d = none) {cs : List AV} {vs : List Value} (hT : T = d / 100000 ∧ (cs.length = vs.length ∨ E.P.underlying T = some (.int .u8))) (hlen : cs.length ≤ vs.length)
    (hr : ∀ (j : Nat) (c : AV) (u : Value), cs[j]? = some c → vs[j]? = some u → Rep E.P G h w c u ∧ c.tokOk = true) :
    Sim E G W0 h0 n (h.addM d w.heap.size) (s.setB 0 d cs) a (w.alloc (.cells vs.toArray T)) :=
  H.newBoxW hnone hT hlen (World.size_alloc w _) (fun g hg => heap_old w _ hg) (heap_new w _) (.inl rfl) rfl rfl rfl hr

/-! Rows. -/
def Gh.addR (h : Gh) (t g k : Nat) : Gh := { h with x := upd h.x g (some k), r := upd h.r t (some g) }

theorem Sim.newRow (H : Sim E G W0 h0 n h s a w) (t k : Nat) (cur : Array Value) (e : TypeId) :
    Stp h (h.addR t w.heap.size k) w (w.alloc (.cells cur e)) (some t) ∧ Sim E G W0 h0 n (h.addR t w.heap.size k) (s.kill t) a (w.alloc (.cells cur e)) := by
  have hxold : ∀ g', g' < w.heap.size → (h.addR t w.heap.size k).x g' = h.x g' := by
    intro g' h1
    show upd h.x w.heap.size (some k) g' = h.x g'
    simp [upd, Nat.ne_of_lt h1]
  have hSt : Stp h (h.addR t w.heap.size k) w (w.alloc (.cells cur e)) (some t) := by
    refine ⟨fun ad u h1 h2 => ?_, fun _ _ _ h1 => h1, fun t' g' hne h2 => ?_⟩
    · have hlt := cell_lt h1
      refine ⟨by rw [World.cell?_alloc_lt w _ ad hlt]; exact h1, fun k hk => h2 k ?_⟩
      rwa [hxold _ hlt] at hk
    · have hlt := (H.rows t' g' h2).2.1
      have hne' : t' ≠ t := fun e => hne (by rw [e])
      exact ⟨heap_old w _ hlt, by show upd h.r t (some w.heap.size) t' = some g'; simpa [upd, hne'] using h2, hxold g' hlt⟩
  have hcase : ∀ t' g', (h.addR t w.heap.size k).r t' = some g' → (t' = t ∧ g' = w.heap.size) ∨ (t' ≠ t ∧ h.r t' = some g' ∧ g' < w.heap.size) := by
    intro t' g' h1
    have h1 : (if t' = t then some w.heap.size else h.r t') = some g' := h1
    split at h1
    · rename_i he; cases h1; exact .inl ⟨he, rfl⟩
    · rename_i he; exact .inr ⟨he, h1, (H.rows t' g' h1).2.1⟩
  refine ⟨hSt, Sim.grow (tk := some t) H hSt (fun d i g hg => ⟨heap_old w _ (H.mlt d i g hg), hxold g (H.mlt d i g hg)⟩)
    (fun g hg _ _ => heap_old w _ (Nat.lt_of_lt_of_le hg H.hsize)) (fun g hg _ => hxold g (Nat.lt_of_lt_of_le hg H.hsize)) rfl rfl rfl rfl (by rw [World.size_alloc]; omega) ?_ ?_⟩
  · intro t' g' h1
    rw [World.size_alloc]
    rcases hcase _ _ h1 with ⟨_, rfl⟩ | ⟨_, k1, k2⟩
    · exact ⟨.inl H.hsize, by omega, fun d i h2 => by have := H.mlt d i _ h2; omega⟩
    · obtain ⟨k3, k4, k5⟩ := H.rows t' g' k1
      exact ⟨k3, by omega, k5⟩
  · intro t1 t2 g' h1 h2
    rcases hcase _ _ h1 with ⟨rfl, e1⟩ | ⟨_, k1, k2⟩ <;> rcases hcase _ _ h2 with ⟨rfl, e2⟩ | ⟨_, k3, k4⟩
    · rfl
    · omega
    · omega
    · exact H.rinj _ _ _ k1 k3

/-- A row that is never written again. -/
theorem Sim.newFrozen (H : Sim E G W0 h0 n h s a w) (k : Nat) (cur : Array Value) (e : TypeId) :
    Stp h { h with x := upd h.x w.heap.size (some k) } w (w.alloc (.cells cur e)) none ∧ Sim E G W0 h0 n { h with x := upd h.x w.heap.size (some k) } s a (w.alloc (.cells cur e)) := by
  have hxold : ∀ g', g' < w.heap.size → upd h.x w.heap.size (some k) g' = h.x g' := by
    intro g' h1
    simp [upd, Nat.ne_of_lt h1]
  have hSt : Stp h { h with x := upd h.x w.heap.size (some k) } w (w.alloc (.cells cur e)) none := by
    refine ⟨fun ad u h1 h2 => ?_, fun _ _ _ h1 => h1, fun t' g' hne h2 => ?_⟩
    · have hlt := cell_lt h1
      refine ⟨by rw [World.cell?_alloc_lt w _ ad hlt]; exact h1, fun k' hk => h2 k' ?_⟩
      have hk : upd h.x w.heap.size (some k) ad.block = some k' := hk
      rwa [hxold _ hlt] at hk
    · have hlt := (H.rows t' g' h2).2.1
      exact ⟨heap_old w _ hlt, h2, hxold g' hlt⟩
  refine ⟨hSt, Sim.grow (tk := none) H hSt (fun d i g hg => ⟨heap_old w _ (H.mlt d i g hg), hxold g (H.mlt d i g hg)⟩)
    (fun g hg _ _ => heap_old w _ (Nat.lt_of_lt_of_le hg H.hsize)) (fun g hg _ => hxold g (Nat.lt_of_lt_of_le hg H.hsize)) rfl rfl rfl rfl (by rw [World.size_alloc]; omega) ?_ H.rinj⟩
  intro t' g' h1
  rw [World.size_alloc]
  obtain ⟨k3, k4, k5⟩ := H.rows t' g' h1
  exact ⟨k3, by omega, k5⟩

/-- The value of a row of the call's own. -/
theorem rep_own {P : Program} {t g cap : Nat} {e : TypeId} {xs : List AV} {cs : Array Value} {i : TypeInfo} (hb : w'.heap[g]? = some (.cells cs e (0, 0))) (hi : P.info? e = some i)
    (hcs : cs.size = cap * i.size) (hle : xs.length ≤ cap) (hmax : cap ≤ maxLen) (hr : h'.r t = some g) (hx : h'.x g = some (xs.length * i.size)) (hsz : ∀ y ∈ xs, y.cells.length = i.size)
    (hcell : ∀ (k j : Nat) (y c : AV), xs[k]? = some y → y.cells[j]? = some c → ∃ v, cs[k * i.size + j]? = some v ∧ RepD G h'.x w' c v) :
    Rep P G h' w' (.own t e xs) (.slice (some ⟨g, 0, none⟩) xs.length cap) := by
  refine ⟨?_, .inr ⟨g, cap, cs, i, rfl, hb, hi, hcs, hle, hmax, hr, hx, hsz⟩⟩
  refine .sl xs ⟨g, 0, none⟩ cap i.size (fun k j => cs.getD (k * i.size + j) undef) hle (fun k y hk => hsz y (List.mem_of_getElem? hk)) (fun k j y c hk hj => ?_) (fun k j y c hk hj => ?_)
  · obtain ⟨v, hv, _⟩ := hcell k j y c hk hj
    rw [Addr.add_lit]
    have hlt : k < xs.length := (List.getElem?_eq_some_iff.1 hk).1
    have hlt2 : j < i.size := by have := (List.getElem?_eq_some_iff.1 hj).1; rw [hsz y (List.mem_of_getElem? hk)] at this; exact this
    refine ⟨by simp [World.cell?, hb, hv, Array.getD_eq_getD_getElem?], fun q hq => ?_⟩
    have hq : h'.x g = some q := hq
    rw [hx] at hq
    cases hq
    show 0 + (k * i.size + j) < xs.length * i.size
    have : (k + 1) * i.size ≤ xs.length * i.size := Nat.mul_le_mul_right _ hlt
    rw [Nat.add_mul] at this
    omega
  · obtain ⟨v, hv, hr⟩ := hcell k j y c hk hj
    simpa [Array.getD_eq_getD_getElem?, hv] using hr

theorem Sim.rowIn (H : Sim E G W0 h0 n h s a w) {t g k k' : Nat} {cur new : Array Value} {e : TypeId} (hr : h.r t = some g) (hb : w.heap[g]? = some (.cells cur e (0, 0))) (hx : h.x g = some k) (hk : k ≤ k')
    (hpre : ∀ j, j < k → new[j]? = cur[j]?) :
    Stp h { h with x := upd h.x g (some k') } w (w.setRow g new) (some t) ∧ Sim E G W0 h0 n { h with x := upd h.x g (some k') } (s.kill t) a (w.setRow g new) := by
  obtain ⟨hg1, hg2, hg3⟩ := H.rows t g hr
  have hSt : Stp h { h with x := upd h.x g (some k') } w (w.setRow g new) (some t) := by
    refine ⟨fun ad u h1 h2 => ?_, fun _ _ _ h1 => h1, fun t' g' hne h2 => ?_⟩
    · by_cases hbk : ad.block = g
      · have hoff : ad.off < k := h2 k (by rw [hbk]; exact hx)
        refine ⟨?_, fun q hq => ?_⟩
        · have hnew := setRow_heap w g cur new e (0, 0) hb
          unfold World.cell? at h1 ⊢
          rw [hbk] at h1 ⊢
          rw [hb] at h1
          rw [hnew]
          simp only at h1 ⊢
          rw [hpre ad.off hoff]
          exact h1
        · have hq : upd h.x g (some k') ad.block = some q := hq
          rw [hbk] at hq
          simp [upd] at hq
          omega
      · refine ⟨by rw [cell_setRow_other w g _ ad hbk]; exact h1, fun q hq => h2 q ?_⟩
        have hq : upd h.x g (some k') ad.block = some q := hq
        simpa [upd, hbk] using hq
    · have hne' : g' ≠ g := by rintro rfl; exact hne (by rw [H.rinj _ _ _ h2 hr])
      exact ⟨setRow_other w g g' _ hne', h2, by show upd h.x g (some k') g' = _; simp [upd, hne']⟩
  have hne0 : ∀ g', g' < W0.heap.size → (∀ t, h0.r t ≠ some g') → g' ≠ g := by
    rintro g' h1 h2 rfl
    rcases hg1 with h3 | ⟨t', h3⟩
    · omega
    · exact h2 t' h3
  refine ⟨hSt, Sim.grow (tk := some t) H hSt (fun d i g' hg' => ?_) (fun g' hg' _ h3 => setRow_other w g g' _ (hne0 g' hg' h3)) (fun g' hg' h3 => ?_) rfl rfl rfl rfl (by rw [setRow_size]; exact Nat.le_refl _)
    (fun t' g' h1 => by rw [setRow_size]; exact H.rows t' g' h1) H.rinj⟩
  · have hne : g' ≠ g := by rintro rfl; exact hg3 d i hg'
    exact ⟨setRow_other w g g' _ hne, by show upd h.x g (some k') g' = _; simp [upd, hne]⟩
  · have hne : g' ≠ g := hne0 g' hg' h3
    show upd h.x g (some k') g' = _
    simp [upd, hne]
end
end Go.Avm
