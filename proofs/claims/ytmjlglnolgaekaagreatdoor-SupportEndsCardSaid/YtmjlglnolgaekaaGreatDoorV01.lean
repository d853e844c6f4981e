/- The abstract machine: values, states, operations, execution. -/
import Derived.Calls
import GoSem.Core.Code
set_option linter.unusedSimpArgs false
set_option linter.unusedVariables false
namespace Go.Vm

/-- Immutable value trees. -/
inductive I where
  | bool (b : Bool)
  | int (k : IntKind) (n : Int)
  | str (s : ByteArray)
  | sl (k : Nat) (cs : List I)
  | agg (cs : List I)
  | tup (cs : List I)
  | fn (f : FuncId) (caps : List I)
  | nilfn
  | pim (cs : List I) (off : Nat)
  | nilp
  | nils (k : Nat)
  | ifc (t : TypeId) (v : I)
  | nilifc
  | junk
  deriving Inhabited

/-- Values of a frame. -/
inductive F where
  | i (x : I)
  | own (l off len k : Nat)
  | ref (l off : Nat)
  | agg (cs : List F)
  | tup (cs : List F)
  | fn (f : FuncId) (caps : List F)
  deriving Inhabited

inductive Blk where
  | flat (cs : List I)
  | deep (cs : List F)
  deriving Inhabited

abbrev Env := List (Nat × Option F)
abbrev Heap := List (Nat × Blk)

def get : Env → Nat → Option F
  | [], _ => none
  | (k, v) :: e, t => if k = t then v else get e t
def hget : Heap → Nat → Option Blk
  | [], _ => none
  | (k, v) :: e, t => if k = t then some v else hget e t
def hset (l : Nat) (b : Blk) : Heap → Heap
  | [] => []
  | (k, v) :: e => if k = l then (k, b) :: e else (k, v) :: hset l b e

mutual
def F.mentions (l : Nat) : F → Bool
  | .i _ => false
  | .own m _ _ _ => m == l
  | .ref m _ => m == l
  | .agg cs => mentionsL l cs
  | .tup cs => mentionsL l cs
  | .fn _ cs => mentionsL l cs
def mentionsL (l : Nat) : List F → Bool
  | [] => false
  | c :: cs => c.mentions l || mentionsL l cs
end
def Blk.mentions (l : Nat) : Blk → Bool
  | .flat _ => false
  | .deep cs => mentionsL l cs
def Blk.cells : Blk → List F
  | .flat cs => cs.map .i
  | .deep cs => cs
def Blk.len : Blk → Nat
  | .flat cs => cs.length
  | .deep cs => cs.length

structure St where
  env : Env
  hp : Heap
  nxt : Nat
  prot : List Nat
  deriving Inhabited

/-- Take a label away: what speaks of it is forgotten. -/
def killEnv (l : Nat) : Env → Env
  | [] => []
  | (k, v) :: e => (k, match v with | some x => if x.mentions l then none else some x | none => none) :: killEnv l e
def killH (l : Nat) : Heap → Option Heap
  | [] => some []
  | (k, v) :: e => if k = l then killH l e else if v.mentions l then none else match killH l e with | some e' => some ((k, v) :: e') | none => none
def St.kill (st : St) (l : Nat) : Option St :=
  match killH l st.hp with
  | some h => some { st with env := killEnv l st.env, hp := h }
  | none => none
/-- A new block. -/
def St.create (st : St) (hint : Option Nat) (b : Blk) : Option (Nat × St) :=
  match hint with
  | none => match hget st.hp st.nxt with
    | none => some (st.nxt, { st with hp := (st.nxt, b) :: st.hp, nxt := st.nxt + 1 })
    | some _ => none
  | some l =>
    if st.prot.contains l || decide (1000 ≤ l) || b.mentions l then none else
    match st.kill l with
    | some st' => some (l, { st' with hp := (l, b) :: st'.hp })
    | none => none

/-! Conversions -/
mutual
def F.toI : F → Option I
  | .i x => some x
  | .own .. => none
  | .ref .. => none
  | .agg cs => match toIL cs with | some l => some (.agg l) | none => none
  | .tup cs => match toIL cs with | some l => some (.tup l) | none => none
  | .fn f cs => match toIL cs with | some l => some (.fn f l) | none => none
def toIL : List F → Option (List I)
  | [] => some []
  | c :: cs => match c.toI, toIL cs with | some x, some l => some (x :: l) | _, _ => none
end
def mkAgg (cs : List F) : F := match toIL cs with | some l => .i (.agg l) | none => .agg cs
def mkTup (cs : List F) : F := match toIL cs with | some l => .i (.tup l) | none => .tup cs
def mkFn (f : FuncId) (cs : List F) : F := match toIL cs with | some l => .i (.fn f l) | none => .fn f cs
def mkBlk (cs : List F) : Blk := match toIL cs with | some l => .flat l | none => .deep cs

def mapO {α β : Type} (f : α → Option β) : List α → Option (List β)
  | [] => some []
  | c :: cs => match f c, mapO f cs with | some x, some l => some (x :: l) | _, _ => none
/-- The immutable view of a value, as the heap now stands; n bounds the depth. -/
def snap (h : Heap) : Nat → F → Option I
  | 0, .i x => some x
  | _ + 1, .i x => some x
  | 0, _ => none
  | n + 1, .own l off len k => match hget h l with
    | some (.flat cs) => if off + len * k ≤ cs.length then some (.sl k ((cs.drop off).take (len * k))) else none
    | some (.deep cs) => if off + len * k ≤ cs.length then match mapO (fun c => snap h n c) ((cs.drop off).take (len * k)) with | some l => some (.sl k l) | none => none else none
    | none => none
  | n + 1, .ref l off => match hget h l with
    | some (.flat cs) => some (.pim cs off)
    | some (.deep cs) => match mapO (fun c => snap h n c) cs with | some l => some (.pim l off) | none => none
    | none => none
  | n + 1, .agg cs => match mapO (fun c => snap h n c) cs with | some l => some (.agg l) | none => none
  | n + 1, .tup cs => match mapO (fun c => snap h n c) cs with | some l => some (.tup l) | none => none
  | n + 1, .fn f cs => match mapO (fun c => snap h n c) cs with | some l => some (.fn f l) | none => none
def snapL (h : Heap) (n : Nat) (cs : List F) : Option (List I) := mapO (fun c => snap h n c) cs

/- Put the cells of a frozen block in the place of its label. -/
mutual
def F.subst (l : Nat) (cs : List I) : F → Option F
  | .i x => some (.i x)
  | .own m off len k => if m = l then (if off + len * k ≤ cs.length then some (.i (.sl k ((cs.drop off).take (len * k)))) else none) else some (.own m off len k)
  | .ref m off => if m = l then some (.i (.pim cs off)) else some (.ref m off)
  | .agg xs => match substL l cs xs with | some ys => some (mkAgg ys) | none => none
  | .tup xs => match substL l cs xs with | some ys => some (mkTup ys) | none => none
  | .fn f xs => match substL l cs xs with | some ys => some (mkFn f ys) | none => none
def substL (l : Nat) (cs : List I) : List F → Option (List F)
  | [] => some []
  | x :: xs => match x.subst l cs, substL l cs xs with | some y, some ys => some (y :: ys) | _, _ => none
end
def substEnv (l : Nat) (cs : List I) : Env → Env
  | [] => []
  | (k, v) :: e => (k, match v with | some x => x.subst l cs | none => none) :: substEnv l cs e
def substH (l : Nat) (cs : List I) : Heap → Option Heap
  | [] => some []
  | (k, b) :: e => if k = l then substH l cs e else
    match (match b with | .flat xs => some (.flat xs) | .deep xs => match substL l cs xs with | some ys => some (mkBlk ys) | none => none : Option Blk), substH l cs e with
    | some b', some e' => some ((k, b') :: e')
    | _, _ => none
/-- Freeze the flat block that a label stands for. -/
def St.freeze (st : St) (l : Nat) : Option St :=
  match hget st.hp l with
  | some (.flat cs) => match substH l cs st.hp with
    | some h => some { st with env := substEnv l cs st.env, hp := h }
    | none => none
  | _ => none

/-! Operands and operations -/
inductive Opd where
  | t (n : Nat)
  | c (x : I)
  | f (g : FuncId)
  deriving Inhabited

def St.val (st : St) : Opd → Option F
  | .t n => get st.env n
  | .c x => some (.i x)
  | .f g => some (.i (.fn g []))

inductive VOp where
  | mv (x : Opd)
  | nil (k : Nat) (hint : Option Nat)
  | pick (c a b : Opd)
  | alloc (zero : List I) (hint : Option Nat)
  | box (x : Opd) (hint : Option Nat)
  | build (zero : List I) (parts : List (Nat × Nat × Opd))
  | bsl (k n : Nat) (zero : List I) (parts : List (Nat × Nat × Opd)) (hint : Option Nat)
  | load (n : Option Nat) (a : Opd)
  | store (n : Nat) (a x : Opd)
  | bin (ty : Nat) (op : BinOp) (x y : Opd)
  | un (op : UnOp) (x : Opd)
  | cint (k : IntKind) (x : Opd)
  | cstr (x : Opd)
  | s2b (x : Opd) (hint : Option Nat)
  | b2s (x : Opd)
  | ifc (t : TypeId) (x : Opd)
  | mkfn (g : FuncId) (caps : List Opd)
  | mks (k bytes : Nat) (zero : List I) (len cap : Opd) (hint : Option Nat)
  | slice (k : Nat) (x : Opd) (lo hi mx : Option Opd)
  | fad (off : Nat) (x : Opd)
  | fld (off : Nat) (n : Option Nat) (x : Opd)
  | iad (k : Nat) (x i : Opd)
  | iada (k len : Nat) (x i : Opd)
  | ixs (x i : Opd)
  | ixa (k len : Nat) (n : Option Nat) (x i : Opd)
  | ext (x : Opd) (j : Nat)
  | len (str : Bool) (x : Opd)
  | app (k bytes : Nat) (str : Bool) (x y : Opd) (hint : Option Nat)
  | mnmx (mx : Bool) (x y : Opd)
  | nilchk (x : Opd)
  | call (g : FuncId) (args : List (Bool × Opd)) (hint : Option (Option Nat))
  | callv (x : Opd) (args : List (Bool × Opd)) (hint : Option (Option Nat))
  | eqs (neg : Bool) (n : Nat) (x y : Opd)
  | appz (k bytes : Nat) (zero : List I) (x n : Opd) (hint : Option Nat)
  | die
  | isnil (neg : Bool) (x : Opd)
  | copy (x y : Opd)
  | boxi (x : Opd)
  | fadi (off : Nat) (x : Opd)
  | loadi (n : Option Nat) (a : Opd)
  | loadl (lab : Nat) (n : Option Nat) (a : Opd)
  | storel (lab n : Nat) (a x : Opd)
  | fadl (lab off : Nat) (x : Opd)
  | mvi (x : Opd)
  | iadi (k : Nat) (x i : Opd)
  | loadli (lab : Nat) (n : Option Nat) (a : Opd)
  | calli (g : FuncId) (args : List (Bool × Opd))
  | takel (lab off own : Nat) (a : Opd)
  | bsli (k n : Nat) (zero : List I) (parts : List (Nat × Nat × Opd))
  | apl (lab k bytes : Nat) (x y : Opd)
  deriving Inhabited

inductive Stm where
  | op (dst : Option Nat) (guard : Option (Nat × Bool)) (op : VOp)
  | frz (t : Nat)
  | ownnil (t off k : Nat) (hint : Option Nat)
  | junk (t off : Nat)
  | ownt (t k : Nat) (hint : Option Nat)
  | frzc (t off : Nat)
  | pre (g s : Stm)
  deriving Inhabited

inductive VC where
  | skip
  | ret
  | exit (id : Nat)
  | seq (a b : VC)
  | cond (o : Opd) (a b : VC)
  | block (id : Nat) (b : VC)
  | loop (b : VC)
  | region (ops : List Stm) (keep : List Nat)
  | rangef (g : Opd) (ps : List Nat) (asg body : VC)
  | die
  deriving Inhabited

inductive VRes where
  | tmp (t : Nat)
  | cell (t : Nat) (n : Option Nat)
  deriving Inhabited

structure VFun where
  params : Nat
  body : VC
  results : List VRes
  fin : List Stm
  thr : Bool
  deriving Inhabited

structure Tab where
  fn : FuncId → Option VFun
  prim : FuncId → Option (List I → Option I)
  gen : FuncId → Bool

inductive Ex where
  | normal
  | ret
  | exit (id : Nat)
  deriving DecidableEq, Inhabited

/-! Pure operations -/
def I.cells : I → List I
  | .agg cs => cs
  | x => [x]
def F.cells : F → List F
  | .i x => x.cells.map .i
  | .agg cs => cs
  | x => [x]
def I.one : I → Bool
  | .agg _ => false
  | .tup _ => false
  | _ => true
def F.one : F → Bool
  | .i x => x.one
  | .agg _ => false
  | .tup _ => false
  | _ => true

def binI (ty : Nat) (op : BinOp) (x y : I) : Option I :=
  match x, y with
  | .int k a, .int k' b =>
    if k = k' then
      match op with
      | .add => some (.int k (k.wrap (a + b)))
      | .sub => some (.int k (k.wrap (a - b)))
      | .mul => some (.int k (k.wrap (a * b)))
      | .quo => if b = 0 then none else some (.int k (k.wrap (a.tdiv b)))
      | .rem => if b = 0 then none else some (.int k (a.tmod b))
      | .and => some (.int k (k.wrap (BitVec.ofInt k.bits a &&& BitVec.ofInt k.bits b).toNat))
      | .or => some (.int k (k.wrap (BitVec.ofInt k.bits a ||| BitVec.ofInt k.bits b).toNat))
      | .xor => some (.int k (k.wrap (BitVec.ofInt k.bits a ^^^ BitVec.ofInt k.bits b).toNat))
      | .eql => some (.bool (a == b))
      | .neq => some (.bool (a != b))
      | .lss => some (.bool (decide (a < b)))
      | .leq => some (.bool (decide (a ≤ b)))
      | .gtr => some (.bool (decide (a > b)))
      | .geq => some (.bool (decide (a ≥ b)))
      | .shl => if b < 0 then none else some (.int k (k.wrap (a * 2 ^ (min b.toNat k.bits))))
      | .shr => if b < 0 then none else some (.int k (a.fdiv (2 ^ (min b.toNat k.bits))))
      | _ => none
    else
      match op with
      | .shl => if b < 0 then none else some (.int k (k.wrap (a * 2 ^ (min b.toNat k.bits))))
      | .shr => if b < 0 then none else some (.int k (a.fdiv (2 ^ (min b.toNat k.bits))))
      | _ => none
  | .str a, .str b =>
    match op with
    | .add => if a.size + b.size ≤ 9223372036854775807 then some (.str (a ++ b)) else none
    | .eql => some (.bool (a.data.toList == b.data.toList))
    | .neq => some (.bool !(a.data.toList == b.data.toList))
    | .lss => some (.bool (Op.bytesLess a.data.toList b.data.toList))
    | .leq => some (.bool (Op.bytesLess a.data.toList b.data.toList || a.data.toList == b.data.toList))
    | .gtr => some (.bool !(Op.bytesLess a.data.toList b.data.toList || a.data.toList == b.data.toList))
    | .geq => some (.bool !(Op.bytesLess a.data.toList b.data.toList))
    | _ => none
  | .bool a, .bool b =>
    if ty = 1 then
      match op with
      | .eql => some (.bool (a == b))
      | .neq => some (.bool !(a == b))
      | _ => none
    else none
  | .ifc _ _, .nilifc =>
    if ty = 2 then
      match op with
      | .eql => some (.bool false)
      | .neq => some (.bool true)
      | _ => none
    else none
  | .nilifc, .nilifc =>
    if ty = 2 then
      match op with
      | .eql => some (.bool true)
      | .neq => some (.bool false)
      | _ => none
    else none
  | _, _ => none
def unI (op : UnOp) (x : I) : Option I :=
  match op, x with
  | .neg, .int k a => some (.int k (k.wrap (0 - a)))
  | .not, .bool b => some (.bool !b)
  | _, _ => none
def eqI : I → I → Option Bool
  | .str a, .str b => some (a.data.toList == b.data.toList)
  | _, _ => none
def eqL : List I → List I → Option Bool
  | [], [] => some true
  | x :: xs, y :: ys => match eqI x y, eqL xs ys with | some a, some b => some (a && b) | _, _ => none
  | _, _ => none
def natI : F → Option Nat
  | .i (.int _ n) => if 0 ≤ n then some n.toNat else none
  | _ => none
def optNat (st : St) (d : Nat) : Option Opd → Option Nat
  | none => some d
  | some o => match st.val o with | some v => natI v | none => none
def setAt {α : Type} (cs : List α) (off : Nat) (xs : List α) : List α :=
  match xs with
  | [x] => cs.set off x
  | xs => cs.take off ++ xs ++ cs.drop (off + xs.length)
def Blk.store (b : Blk) (off : Nat) (xs : List F) : Blk :=
  match b, toIL xs with
  | .flat cs, some is => .flat (setAt cs off is)
  | b, _ => .deep (setAt b.cells off xs)
def fillF (cells : List F) : List (Nat × Nat × Option F) → Option (List F)
  | [] => some cells
  | (off, n, some v) :: r => if v.cells.length = n ∧ off + n ≤ cells.length then fillF (setAt cells off v.cells) r else none
  | (_, _, none) :: _ => none
def St.parts (st : St) (ps : List (Nat × Nat × Opd)) : List (Nat × Nat × Option F) := ps.map fun (o, n, x) => (o, n, st.val x)
def byteI (b : UInt8) : I := .int .u8 b.toNat
def bytesOf : List I → Option (List UInt8)
  | [] => some []
  | .int .u8 n :: r => if 0 ≤ n ∧ n < 256 then (match bytesOf r with | some l => some (UInt8.ofNat n.toNat :: l) | none => none) else none
  | _ => none
def I.at (n : Option Nat) (cs : List I) (off : Nat) : Option I :=
  match n with
  | none => cs[off]?
  | some n => if off + n ≤ cs.length then some (.agg ((cs.drop off).take n)) else none
def F.at (n : Option Nat) (cs : List F) (off : Nat) : Option F :=
  match n with
  | none => cs[off]?
  | some n => if off + n ≤ cs.length then some (mkAgg ((cs.drop off).take n)) else none
def Blk.at (n : Option Nat) : Blk → Nat → Option F
  | .flat cs, off => (I.at n cs off).map .i
  | .deep cs, off => F.at n cs off
/-- The cells that an append takes, and how many elements they are. -/
def St.source (st : St) (k : Nat) (str : Bool) : F → Option (List F × Nat)
  | .i (.sl k' cs) => if k' = k ∧ 0 < k ∧ str = false then some (cs.map .i, cs.length / k) else none
  | .i (.str s) => if k = 1 ∧ str then some (s.data.toList.map (fun b => .i (byteI b)), s.size) else none
  | .i (.nils _) => if str then none else some ([], 0)
  | .own l off len k' => if k' = k ∧ str = false then match hget st.hp l with
      | some b => if off + len * k ≤ b.len then some ((b.cells.drop off).take (len * k), len) else none
      | none => none else none
  | _ => none
def Blk.ext (b : Blk) (off n : Nat) (xs : List F) : Blk :=
  match b, toIL xs with
  | .flat cs, some is => .flat ((cs.drop off).take n ++ is)
  | b, _ => .deep ((b.cells.drop off).take n ++ xs)

/-- No other block speaks of the label. -/
def noMent (l : Nat) (h : Heap) : Bool := h.all fun p => p.1 == l || !p.2.mentions l
/-- The elements of a copy go over into an owned slice. -/
def St.copyTo (st : St) (l off len : Nat) (news : List F) : Option (Option F × St) :=
  match hget st.hp l with
  | some b => if 0 < min news.length len ∧ off + min news.length len ≤ b.len ∧ (news.take (min news.length len)).all F.one then some (some (.i (.int .i64 (min news.length len : Nat))), { st with hp := hset l (b.store off (news.take (min news.length len))) st.hp }) else none
  | none => none
/-- An operation that calls nothing: its value (none for a store), and the state. -/
def evalOp (st : St) : VOp → Option (Option F × St)
  | .mv x => match st.val x with | some v => some (some v, st) | none => none
  | .nil k hint => if k = 0 then none else match st.create hint (.flat []) with | some (l, st') => some (some (.own l 0 0 k), st') | none => none
  | .pick c a b => match st.val c with
    | some (.i (.bool t)) => if t then (match st.val a with | some v => some (some v, st) | none => none) else (match st.val b with | some v => some (some v, st) | none => none)
    | _ => none
  | .alloc zero hint => match st.create hint (.flat zero) with | some (l, st') => some (some (.ref l 0), st') | none => none
  | .box x hint => match st.val x with
    | some v => match st.create hint (mkBlk v.cells) with | some (l, st') => some (some (.ref l 0), st') | none => none
    | none => none
  | .build zero ps => match fillF (zero.map .i) (st.parts ps) with | some cs => some (some (mkAgg cs), st) | none => none
  | .bsl k n zero ps hint => if k = 0 then none else match fillF (zero.map .i) (st.parts ps) with
    | some cs => match st.create hint (mkBlk cs) with | some (l, st') => some (some (.own l 0 n k), st') | none => none
    | none => none
  | .load n a => match st.val a with
    | some (.ref l off) => match hget st.hp l with
      | some b => match b.at n off with
        | some v => some (some v, st)
        | none => none
      | none => none
    | some (.i (.pim cs off)) => match I.at n cs off with | some v => some (some (.i v), st) | none => none
    | _ => none
  | .store n a x => match st.val a, st.val x with
    | some (.ref l off), some v => match hget st.hp l with
      | some b => if v.cells.length = n ∧ v.cells.all F.one ∧ off + n ≤ b.len then some (none, { st with hp := hset l (b.store off v.cells) st.hp }) else none
      | none => none
    | _, _ => none
  | .bin ty op x y => match st.val x, st.val y with
    | some (.i a), some (.i b) => match binI ty op a b with | some v => some (some (.i v), st) | none => none
    | _, _ => none
  | .un op x => match st.val x with
    | some (.i a) => match unI op a with | some v => some (some (.i v), st) | none => none
    | _ => none
  | .cint k x => match st.val x with | some (.i (.int _ n)) => some (some (.i (.int k (k.wrap n))), st) | _ => none
  | .cstr x => match st.val x with | some (.i (.str s)) => some (some (.i (.str s)), st) | _ => none
  | .s2b x hint => match st.val x with
    | some (.i (.str s)) => match st.create hint (.flat (s.data.toList.map byteI)) with | some (l, st') => some (some (.own l 0 s.size 1), st') | none => none
    | _ => none
  | .b2s x => match st.val x with
    | some v => match snap st.hp 1 v with
      | some (.sl 1 cs) => match bytesOf cs with | some bs => some (some (.i (.str ⟨bs.toArray⟩)), st) | none => none
      | _ => none
    | none => none
  | .ifc t x => match st.val x with | some (.i v) => some (some (.i (.ifc t v)), st) | _ => none
  | .mkfn g caps => match caps.mapM st.val with | some vs => some (some (mkFn g vs), st) | none => none
  | .mks k bytes zero len cap hint => match st.val len, st.val cap with
    | some (.i (.int .i64 n)), some (.i (.int .i64 c)) =>
      if 0 < k ∧ 0 ≤ n ∧ n ≤ c ∧ c * bytes ≤ 281474976710656 ∧ c ≤ 281474976710656 then
        match st.create hint (.flat (List.replicate n.toNat zero).flatten) with | some (l, st') => some (some (.own l 0 n.toNat k), st') | none => none
      else none
    | _, _ => none
  | .slice kk x lo hi mx => match st.val x with
    | some (.i (.str s)) => match optNat st 0 lo, optNat st s.size hi with
      | some l, some h => if l ≤ h ∧ h ≤ s.size ∧ kk = 0 ∧ mx.isNone then some (some (.i (.str (s.extract l h))), st) else none
      | _, _ => none
    | some (.i (.sl k cs)) => match optNat st 0 lo, optNat st (cs.length / k) hi, optNat st (cs.length / k) mx with
      | some l, some h, some m => if kk = k ∧ 0 < k ∧ l ≤ h ∧ h ≤ m ∧ m * k ≤ cs.length then some (some (.i (.sl k ((cs.drop (l * k)).take ((h - l) * k)))), st) else none
      | _, _, _ => none
    | some (.own b off len k) => match optNat st 0 lo, optNat st len hi, optNat st len mx with
      | some l, some h, some m => if kk = k ∧ l ≤ h ∧ h ≤ m ∧ m ≤ len then some (some (.own b (off + l * k) (h - l) k), st) else none
      | _, _, _ => none
    | _ => none
  | .fad off x => match st.val x with
    | some (.ref l o) => some (some (.ref l (o + off)), st)
    | some (.i (.pim cs o)) => some (some (.i (.pim cs (o + off))), st)
    | _ => none
  | .fld off n x => match st.val x with
    | some (.i (.agg cs)) => match I.at n cs off with | some v => some (some (.i v), st) | none => none
    | some (.agg cs) => match F.at n cs off with | some v => some (some v, st) | none => none
    | _ => none
  | .iad k x i => match st.val x, st.val i with
    | some (.own l off len k'), some (.i (.int _ n)) => if k' = k ∧ 0 ≤ n ∧ n < (len : Int) then some (some (.ref l (off + n.toNat * k)), st) else none
    | some (.i (.sl k' cs)), some (.i (.int _ n)) => if k' = k ∧ 0 < k ∧ 0 ≤ n ∧ (n + 1) * k ≤ (cs.length : Int) then some (some (.i (.pim cs (n.toNat * k))), st) else none
    | _, _ => none
  | .iada k len x i => match st.val x, st.val i with
    | some (.ref l o), some (.i (.int _ n)) => if 0 ≤ n ∧ n < (len : Int) then some (some (.ref l (o + n.toNat * k)), st) else none
    | some (.i (.pim cs o)), some (.i (.int _ n)) => if 0 ≤ n ∧ n < (len : Int) then some (some (.i (.pim cs (o + n.toNat * k))), st) else none
    | _, _ => none
  | .ixs x i => match st.val x, st.val i with
    | some (.i (.str s)), some (.i (.int _ n)) => if h : 0 ≤ n ∧ n.toNat < s.size then some (some (.i (.int .u8 (s[n.toNat]'h.2).toNat)), st) else none
    | _, _ => none
  | .ixa k len n x i => match st.val x, st.val i with
    | some (.i (.agg cs)), some (.i (.int _ j)) => if 0 ≤ j ∧ j < (len : Int) then match I.at n cs (j.toNat * k) with | some v => some (some (.i v), st) | none => none else none
    | _, _ => none
  | .ext x j => match st.val x with
    | some (.i (.tup cs)) => match cs[j]? with | some v => some (some (.i v), st) | none => none
    | some (.tup cs) => match cs[j]? with | some v => some (some v, st) | none => none
    | _ => none
  | .len str x => match st.val x with
    | some (.i (.str s)) => if str then some (some (.i (.int .i64 s.size)), st) else none
    | some (.i (.sl k cs)) => if k = 0 ∨ str then none else some (some (.i (.int .i64 (cs.length / k : Nat))), st)
    | some (.i (.nils _)) => if str then none else some (some (.i (.int .i64 0)), st)
    | some (.own _ _ len _) => if str then none else some (some (.i (.int .i64 len)), st)
    | _ => none
  | .app k bytes str x y hint => match st.val x, st.val y with
    | some (.own l off len k'), some yv => match hget st.hp l, st.source k str yv with
      | some b, some (news, n) =>
        if k' = k ∧ 0 < k ∧ off + len * k ≤ b.len ∧ (len + n) * bytes ≤ 140737488355328 ∧ news.all F.one ∧ (b.ext off (len * k) news).mentions l = false then
          match st.kill l with
          | some st1 => match st1.create hint (b.ext off (len * k) news) with
            | some (l', st2) => some (some (.own l' 0 (len + n) k), st2)
            | none => none
          | none => none
        else none
      | _, _ => none
    | _, _ => none
  | .mnmx mx x y => match st.val x, st.val y with
    | some (.i (.int k a)), some (.i (.int _ b)) => some (some (.i (.int k (if mx then (if b > a then b else a) else (if b < a then b else a)))), st)
    | _, _ => none
  | .nilchk x => match st.val x with
    | some (.ref l o) => some (some (.ref l o), st)
    | some (.i (.pim cs o)) => some (some (.i (.pim cs o)), st)
    | _ => none
  | .call .. => none
  | .callv .. => none
  | .eqs neg n x y => match st.val x, st.val y with
    | some (.i (.agg xs)), some (.i (.agg ys)) => if xs.length = n then match eqL xs ys with | some b => some (some (.i (.bool (b != neg))), st) | none => none else none
    | _, _ => none
  | .die => none
  | .boxi x => match st.val x with
    | some (.i v) => some (some (.i (.pim v.cells 0)), st)
    | _ => none
  | .fadi off x => match st.val x with
    | some (.i (.pim cs o)) => some (some (.i (.pim cs (o + off))), st)
    | _ => none
  | .loadi n a => match st.val a with
    | some (.i (.pim cs off)) => match I.at n cs off with | some v => some (some (.i v), st) | none => none
    | _ => none
  | .loadl lab n a => match st.val a with
    | some (.ref l off) => if l = lab then match hget st.hp lab with
      | some b => match b.at n off with
        | some v => some (some v, st)
        | none => none
      | none => none else none
    | _ => none
  | .storel lab n a x => match st.val a, st.val x with
    | some (.ref l off), some v => if l = lab then match hget st.hp lab with
      | some b => if v.cells.length = n ∧ v.cells.all F.one ∧ off + n ≤ b.len then some (none, { st with hp := hset lab (b.store off v.cells) st.hp }) else none
      | none => none else none
    | _, _ => none
  | .fadl lab off x => match st.val x with
    | some (.ref l o) => if l = lab then some (some (.ref l (o + off)), st) else none
    | _ => none
  | .mvi x => match st.val x with
    | some (.i v) => some (some (.i v), st)
    | _ => none
  | .iadi k x i => match st.val x, st.val i with
    | some (.i (.sl k' cs)), some (.i (.int _ n)) => if k' = k ∧ 0 < k ∧ 0 ≤ n ∧ (n + 1) * k ≤ (cs.length : Int) then some (some (.i (.pim cs (n.toNat * k))), st) else none
    | _, _ => none
  | .loadli lab n a => match st.val a with
    | some (.ref l off) => if l = lab then match hget st.hp lab with
      | some b => match b.at n off with
        | some (.i v) => some (some (.i v), st)
        | _ => none
      | none => none else none
    | _ => none
  | .calli _ _ => none
  | .takel lab off own a => match st.val a with
    | some (.ref l o) => if l = lab ∧ o = off then match hget st.hp lab with
      | some b => match b.at none off with
        | some (.own m p len k) => if m = own then some (some (.own m p len k), { st with hp := hset lab (b.store off [.i .junk]) st.hp }) else none
        | _ => none
      | none => none else none
    | _ => none
  | .bsli k n zero ps => if k = 0 ∨ n = 0 then none else match fillF (zero.map .i) (st.parts ps) with
    | some cs => match toIL cs with
      | some is => some (some (.i (.sl k is)), st)
      | none => none
    | none => none
  | .apl lab k bytes x y => match st.val x, st.val y with
    | some (.own l off len k'), some (.i (.sl k2 ds)) => match hget st.hp lab with
      | some (.flat cs) =>
        if l = lab ∧ k' = k ∧ k2 = k ∧ 0 < k ∧ off + len * k ≤ cs.length ∧ (len + ds.length / k) * bytes ≤ 140737488355328 ∧ ds.all I.one = true ∧ noMent lab st.hp = true ∧ (st.prot.contains lab || decide (1000 ≤ lab)) = false then
          some (some (.own lab 0 (len + ds.length / k) k), { st with env := killEnv lab st.env, hp := hset lab (.flat ((cs.drop off).take (len * k) ++ ds)) st.hp })
        else none
      | _ => none
    | _, _ => none
  | .isnil neg x => match st.val x with
    | some (.i (.nils _)) => some (some (.i (.bool !neg)), st)
    | some (.i (.sl k cs)) => if cs.isEmpty then none else some (some (.i (.bool neg)), st)
    | some (.own _ _ len _) => if len = 0 then none else some (some (.i (.bool neg)), st)
    | _ => none
  | .copy x y => match st.val x, st.val y with
    | some (.own l off len 1), some (.i (.sl 1 cs)) => st.copyTo l off len (cs.map .i)
    | some (.own l off len 1), some (.own l2 off2 len2 1) => match hget st.hp l2 with
      | some b2 => if off2 + len2 ≤ b2.len then st.copyTo l off len ((b2.cells.drop off2).take len2) else none
      | none => none
    | _, _ => none
  | .appz k bytes zero x y hint => match st.val x, st.val y with
    | some (.own l off len k'), some (.i (.int _ m)) => match hget st.hp l with
      | some b =>
        if k' = k ∧ 0 < k ∧ 0 ≤ m ∧ off + len * k ≤ b.len ∧ (len + m.toNat) * bytes ≤ 140737488355328 ∧ (b.ext off (len * k) ((List.replicate m.toNat zero).flatten.map F.i)).mentions l = false then
          match st.kill l with
          | some st1 => match st1.create hint (b.ext off (len * k) ((List.replicate m.toNat zero).flatten.map F.i)) with
            | some (l', st2) => some (some (.own l' 0 (len + m.toNat) k), st2)
            | none => none
          | none => none
        else none
      | none => none
    | _, _ => none

/-! Calls -/
abbrev HS := Heap × Nat
abbrev CallSem := FuncId → List F → HS → Option (F × HS)

/- No slice, no pointer, no function inside. -/
mutual
def I.plain : I → Bool
  | .sl .. => false
  | .pim .. => false
  | .fn .. => false
  | .agg cs => plainL cs
  | .tup cs => plainL cs
  | .ifc _ v => v.plain
  | _ => true
def plainL : List I → Bool
  | [] => true
  | c :: cs => c.plain && plainL cs
end

/-- Nil slices are empty ones, seen from outside. -/
def I.nn : I → I
  | .nils k => .sl k []
  | .agg cs => .agg (cs.map fun c => match c with | .nils k => .sl k [] | x => x)
  | x => x

/-- The blocks that are handed over: under the argument's number, the caller's label. -/
def passed : Nat → List (Bool × F) → List (Nat × Nat)
  | _, [] => []
  | j, (true, .own l _ _ _) :: r => (j, l) :: passed (j + 1) r
  | j, (true, .ref l _) :: r => (j, l) :: passed (j + 1) r
  | j, _ :: r => passed (j + 1) r
def backLabel (j : Nat) : List (Nat × Nat) → Option Nat
  | [] => none
  | (a, l) :: r => if a = j then some l else backLabel j r
def isPassed (l : Nat) : List (Nat × Nat) → Bool
  | [] => false
  | (_, m) :: r => m == l || isPassed l r
def hdrop (back : List (Nat × Nat)) : Heap → Heap
  | [] => []
  | (l, b) :: r => if isPassed l back then hdrop back r else (l, b) :: hdrop back r
def passHp (h : Heap) : List (Nat × Nat) → Option Heap
  | [] => some []
  | (j, l) :: r => match hget h l, passHp h r with
    | some (.flat cs), some h' => if isPassed l r || decide (1000 ≤ j) then none else some ((j, .flat cs) :: h')
    | _, _ => none
/-- The arguments, and whether one is a view of what the caller owns. -/
def passArgs (hR : Heap) : Nat → List (Bool × F) → Option (List F × Bool)
  | _, [] => some ([], false)
  | j, (true, .own _ off len k) :: r => match passArgs hR (j + 1) r with | some (l, b) => some (.own j off len k :: l, b) | none => none
  | j, (true, .ref _ off) :: r => match passArgs hR (j + 1) r with | some (l, b) => some (.ref j off :: l, b) | none => none
  | _, (true, _) :: _ => none
  | j, (false, .i x) :: r => match passArgs hR (j + 1) r with | some (l, b) => some (.i x :: l, b) | none => none
  | j, (false, v) :: r => match snap hR 3 v, passArgs hR (j + 1) r with
    | some x, some (l, _) => some (.i x :: l, true)
    | _, _ => none
/-- After the call: the handed blocks come back, or are gone. -/
def takeBack (h' : Heap) (borrowed : Bool) : List (Nat × Nat) → St → Option St
  | [], st => some st
  | (j, l) :: r, st => match hget h' j with
    | some (.flat cs) => if borrowed && !plainL cs then none else takeBack h' borrowed r { st with hp := hset l (.flat cs) st.hp }
    | some (.deep _) => none
    | none => match st.kill l with | some st' => takeBack h' borrowed r st' | none => none
/-- One result: its label becomes the caller's. -/
def takeRes (h' : Heap) (back : List (Nat × Nat)) (borrowed : Bool) (hint : Option (Option Nat)) (v : F) (st : St) : Option (F × St) :=
  match v with
  | .i x => if borrowed && !x.plain then none else some (.i x.nn, st)
  | .own j off len k => match backLabel j back with
    | some l => if (hget st.hp l).isSome then some (.own l off len k, st) else none
    | none => match hint, hget h' j with
      | some hn, some (.flat cs) => if borrowed && !plainL cs then none else match st.create hn (.flat cs) with | some (l, st') => some (.own l off len k, st') | none => none
      | _, _ => none
  | _ => none
def owns : List F → Nat
  | [] => 0
  | .own .. :: r => owns r + 1
  | _ :: r => owns r
def takeResL (h' : Heap) (back : List (Nat × Nat)) (borrowed : Bool) (hint : Option (Option Nat)) : List F → St → Option (List F × St)
  | [], st => some ([], st)
  | v :: r, st => match takeRes h' back borrowed hint v st with
    | some (x, st') => match takeResL h' back borrowed hint r st' with
      | some (xs, st'') => some (x :: xs, st'')
      | none => none
    | none => none
def isoCall (C : CallSem) (g : FuncId) (args : List (Bool × F)) (hint : Option (Option Nat)) (st : St) : Option (F × St) :=
  let back := passed 0 args
  match passHp st.hp back, passArgs (hdrop back st.hp) 0 args with
  | some hp, some (as, borrowed) => match C g as (hp, 1000) with
    | none => none
    | some (r, (h', _)) => match takeBack h' borrowed back st with
      | none => none
      | some st1 => match r with
        | .i (.tup vs) => match takeResL h' back borrowed hint (vs.map .i) st1 with | some (xs, st2) => some (mkTup xs, st2) | none => none
        | .tup vs => if owns vs ≤ 1 then match takeResL h' back borrowed hint vs st1 with | some (xs, st2) => some (mkTup xs, st2) | none => none else none
        | v => takeRes h' back borrowed hint v st1
  | _, _ => none
/-- Labels that are gone are forgotten. -/
def killGone (h' : Heap) : Heap → Env → Env
  | [], e => e
  | (l, _) :: r, e => killGone h' r (if (hget h' l).isNone then killEnv l e else e)
/-- A call to which the whole heap is handed. -/
def thrCall (C : CallSem) (g : FuncId) (args : List F) (st : St) : Option (F × St) :=
  match C g args (st.hp, st.nxt) with
  | none => none
  | some (r, (h', n')) => if st.prot.all (fun l => (hget st.hp l).isSome || (hget h' l).isNone) then some (r, { st with env := killGone h' st.hp st.env, hp := h', nxt := n' }) else none

/-! Execution -/
def F.isI : F → Bool
  | .i _ => true
  | _ => false
def St.vals (st : St) : List (Bool × Opd) → Option (List (Bool × F))
  | [] => some []
  | (m, o) :: r => match st.val o, st.vals r with | some v, some l => some ((m, v) :: l) | _, _ => none
def callOp (T : Tab) (C : CallSem) (st : St) (g : FuncId) (vs : List (Bool × F)) (hints : Option (Option Nat)) : Option (Option F × St) :=
  match T.fn g with
  | some vf => if vf.thr then (match thrCall C g (vs.map (·.2)) st with | some (v, st') => some (some v, st') | none => none)
    else (match isoCall C g vs hints st with | some (v, st') => some (some v, st') | none => none)
  | none => match isoCall C g vs hints st with | some (v, st') => some (some v, st') | none => none
def stepOp (T : Tab) (C : CallSem) (st : St) : VOp → Option (Option F × St)
  | .call g args hints => match st.vals args with
    | some vs => callOp T C st g vs hints
    | none => none
  | .callv x args hints => match st.val x, st.vals args with
    | some (.i (.fn g caps)), some vs => callOp T C st g (vs ++ caps.map fun c => (false, .i c)) hints
    | some (.fn g caps), some vs => callOp T C st g (vs ++ caps.map fun c => (false, c)) hints
    | _, _ => none
  | .calli g args => match st.vals args with
    | some vs => if vs.all (fun p => !p.1 && p.2.isI) then (match callOp T C st g vs none with
        | some (some (.i v), st') => some (some (.i v), st')
        | _ => none) else none
    | none => none
  | o => evalOp st o
/-- Put in the order of the temporaries' numbers. -/
def ins (d : Nat) (v : Option F) : Env → Env
  | [] => [(d, v)]
  | (k, u) :: e => if d = k then (d, v) :: e else if d < k then (d, v) :: (k, u) :: e else (k, u) :: ins d v e
def St.put (st : St) (dst : Option Nat) (v : Option F) : St :=
  match dst with
  | some d => { st with env := ins d v st.env }
  | none => st
def stepStm (T : Tab) (C : CallSem) (st : St) : Stm → Option St
  | .op dst none o => match stepOp T C st o with
    | some (v, st') => some (st'.put dst v)
    | none => none
  | .op dst (some (g, want)) o => match get st.env g with
    | some (.i (.bool b)) => if b == want then (match stepOp T C st o with | some (v, st') => some (st'.put dst v) | none => none) else some (st.put dst (some (.i (.tup []))))
    | some (.i (.tup [])) => some (st.put dst (some (.i (.tup []))))
    | _ => none
  | .frz t => match get st.env t with
    | some (.own l _ _ _) => st.freeze l
    | some (.ref l _) => st.freeze l
    | some (.i _) => some st
    | _ => none
  | .ownnil t off k hint => match get st.env t with
    | some (.ref l o) => match hget st.hp l with
      | some b => match b.at none (o + off) with
        | some (.i (.nils _)) => if k = 0 then none else match st.create hint (.flat []) with
          | some (m, st') => if m = l then none else some { st' with hp := hset l (b.store (o + off) [.own m 0 0 k]) st'.hp }
          | none => none
        | _ => none
      | none => none
    | _ => none
  | .junk t off => match get st.env t with
    | some (.ref l o) => match hget st.hp l with
      | some b => match b.at none (o + off) with
        | some y => if y.one then some { st with hp := hset l (b.store (o + off) [.i .junk]) st.hp } else none
        | none => none
      | none => none
    | _ => none
  | .ownt t k hint => match get st.env t with
    | some (.i (.nils _)) => if k = 0 then none else match st.create hint (.flat []) with
      | some (m, st') => some (st'.put (some t) (some (.own m 0 0 k)))
      | none => none
    | some _ => some st
    | none => none
  | .frzc t off => match get st.env t with
    | some (.ref l o) => match hget st.hp l with
      | some b => match b.at none (o + off) with
        | some (.own m _ _ _) => st.freeze m
        | some (.i _) => some st
        | _ => none
      | none => none
    | _ => none
  | .pre g s => match stepStm T C st g with
    | some st' => stepStm T C st' s
    | none => none
def stepStms (T : Tab) (C : CallSem) : List Stm → St → Option St
  | [], st => some st
  | s :: r, st => match stepStm T C st s with | some st' => stepStms T C r st' | none => none
def pruneEnv (e : Env) : List Nat → Env
  | [] => []
  | t :: r => match get e t with | some v => (t, some v) :: pruneEnv e r | none => pruneEnv e r
def loadRes (st : St) : VRes → Option F
  | .tmp t => get st.env t
  | .cell t n => match get st.env t with
    | some (.ref l off) => match hget st.hp l with | some b => b.at n off | none => none
    | _ => none
def loadResL (st : St) : List VRes → Option (List F)
  | [] => some []
  | r :: rs => match loadRes st r, loadResL st rs with | some v, some l => some (v :: l) | _, _ => none
def retVal : List F → F
  | [v] => v
  | vs => mkTup vs
def enterEnv : Nat → List F → Env
  | _, [] => []
  | j, v :: r => (j, some v) :: enterEnv (j + 1) r
/-! A range over a function: the rounds' values are known ahead; each round runs in a frame of its own. -/
def putL : List Nat → List I → Env → Option Env
  | [], [], e => some e
  | p :: ps, x :: xs, e => putL ps xs (ins p (some (.i x)) e)
  | _, _, _ => none
def carry (st st' : St) : Option St :=
  if st.prot.all (fun l => (hget st.hp l).isSome || (hget st'.hp l).isNone) && decide (st.nxt ≤ st'.nxt) then some { env := killGone st'.hp st.hp st.env, hp := st'.hp, nxt := st'.nxt, prot := st.prot } else none
def oneRound (E : VC → St → Option (Ex × St)) (ps : List Nat) (asg body : VC) (x : List I) (st : St) : Option (Ex × St) :=
  match putL ps x st.env with
  | none => none
  | some e => match E asg { env := e, hp := st.hp, nxt := st.nxt, prot := st.hp.map (·.1) } with
    | some (.normal, st1) => match E body st1 with
      | some (ex, st2) => match carry st st2 with
        | some st3 => some (ex, st3)
        | none => none
      | none => none
    | _ => none
/-! An iterator's code: between two calls of its yield it owns nothing; the temporaries that hold yield are counted in a list. -/
abbrev Rnd := List I → St → Option (Ex × St)
structure GS where
  st : St
  ks : List Nat
  ex : Ex
  sc : St
  deriving Inhabited
def wants (st : St) : Option (Nat × Bool) → Option Bool
  | none => some true
  | some (g, want) => match get st.env g with
    | some (.i (.bool b)) => some (b == want)
    | some (.i (.tup [])) => some false
    | _ => none
def dropK (dst : Option Nat) (ks : List Nat) : List Nat :=
  match dst with
  | some d => ks.filter (fun k => !(k == d))
  | none => ks
def exN : Ex → Bool
  | .normal => true
  | _ => false
def gyield (R : Rnd) (args : List (Bool × Opd)) (dst : Option Nat) (g : GS) : Option GS :=
  match g.ex, g.st.hp, g.st.vals args with
  | .normal, [], some vs => match toIL (vs.map (·.2)) with
    | some xs => match R xs g.sc with
      | some (ex, sc) => some { st := g.st.put dst (some (.i (.bool (exN ex)))), ks := dropK dst g.ks, ex := ex, sc := sc }
      | none => none
    | none => none
  | _, _, _ => none
def gplain (T : Tab) (C : CallSem) (s : Stm) (dst : Option Nat) (g : GS) : Option GS :=
  match stepStm T C g.st s with
  | some st => some { st := st, ks := dropK dst g.ks, ex := g.ex, sc := g.sc }
  | none => none
def gstm (T : Tab) (C : CallSem) (R : Rnd) (s : Stm) (g : GS) : Option GS :=
  match s with
  | .op dst guard (.callv (.t k) args none) =>
    if g.ks.contains k && (wants g.st guard).getD false then gyield R args dst g else gplain T C s dst g
  | .op (some d) guard (.mv (.t k)) =>
    if g.ks.contains k && (wants g.st guard).getD false then some { g with st := g.st.put (some d) none, ks := d :: dropK (some d) g.ks } else gplain T C s (some d) g
  | .op dst _ _ => gplain T C s dst g
  | _ => none
def gstms (T : Tab) (C : CallSem) (R : Rnd) : List Stm → GS → Option GS
  | [], g => some g
  | s :: r, g => match gstm T C R s g with | some g' => gstms T C R r g' | none => none
/-- The arguments of a primitive, and its value. -/
def primCall (p : List I → Option I) (args : List F) (h : HS) : Option (F × HS) :=
  match toIL args with
  | some l => match p l with | some v => some (.i v, h) | none => none
  | none => none
mutual
def exec (T : Tab) : Nat → VC → St → Option (Ex × St)
  | 0, _, _ => none
  | _ + 1, .skip, st => some (.normal, st)
  | _ + 1, .ret, st => some (.ret, st)
  | _ + 1, .exit id, st => some (.exit id, st)
  | n + 1, .seq a b, st => match exec T n a st with
    | some (.normal, st') => exec T n b st'
    | r => r
  | n + 1, .cond o a b, st => match st.val o with
    | some (.i (.bool t)) => if t then exec T n a st else exec T n b st
    | _ => none
  | n + 1, .block id b, st => match exec T n b st with
    | some (.exit id', st') => if id' = id then some (.normal, st') else some (.exit id', st')
    | r => r
  | n + 1, .loop b, st => match exec T n b st with
    | some (.normal, st') => exec T n (.loop b) st'
    | r => r
  | _ + 1, .die, _ => none
  | n + 1, .rangef g ps asg body, st => match st.val g with
    | some (.i (.fn f caps)) => match T.fn f with
      | some vf => if T.gen f && (vf.params == caps.length + 1) && vf.results.isEmpty && vf.fin.isEmpty then
          match gexec T n (fun x s => oneRound (fun c s => exec T n c s) ps asg body x s) vf.body { st := { env := enterEnv 1 (caps.map .i), hp := [], nxt := 1000, prot := [] }, ks := [0], ex := .normal, sc := st } with
          | some (.exit _, _) => none
          | some (_, g) => some (g.ex, g.sc)
          | none => none
        else none
      | none => none
    | _ => none
  | n + 1, .region ops keep, st => match stepStms T (fun g args h => call T n g args h) ops st with
    | some st' => some (.normal, { st' with env := pruneEnv st'.env keep })
    | none => none
def gexec (T : Tab) : Nat → Rnd → VC → GS → Option (Ex × GS)
  | 0, _, _, _ => none
  | _ + 1, _, .skip, g => some (.normal, g)
  | _ + 1, _, .ret, g => some (.ret, g)
  | _ + 1, _, .exit id, g => some (.exit id, g)
  | n + 1, R, .seq a b, g => match gexec T n R a g with
    | some (.normal, g') => gexec T n R b g'
    | r => r
  | n + 1, R, .cond o a b, g => match g.st.val o with
    | some (.i (.bool t)) => if t then gexec T n R a g else gexec T n R b g
    | _ => none
  | n + 1, R, .block id b, g => match gexec T n R b g with
    | some (.exit id', g') => if id' = id then some (.normal, g') else some (.exit id', g')
    | r => r
  | n + 1, R, .loop b, g => match gexec T n R b g with
    | some (.normal, g') => gexec T n R (.loop b) g'
    | r => r
  | n + 1, R, .region ops keep, g => match gstms T (fun f args h => call T n f args h) R ops g with
    | some g' => some (.normal, { g' with st := { g'.st with env := pruneEnv g'.st.env keep } })
    | none => none
  | _ + 1, _, .die, _ => none
  | _ + 1, _, .rangef .., _ => none
def call (T : Tab) : Nat → FuncId → List F → HS → Option (F × HS)
  | 0, _, _, _ => none
  | n + 1, g, args, (h, x) => match T.prim g with
    | some p => primCall p args (h, x)
    | none => match T.fn g with
      | none => none
      | some vf => if args.length = vf.params then
          match exec T n vf.body { env := enterEnv 0 args, hp := h, nxt := x, prot := h.map (·.1) } with
          | some (.exit _, _) => none
          | some (_, st) => match stepStms T (fun _ _ _ => none) vf.fin st with
            | some st => match loadResL st vf.results with
              | some vs => if x ≤ st.nxt then some (retVal vs, (st.hp, st.nxt)) else none
              | none => none
            | none => none
          | none => none
        else none
end
end Go.Vm
