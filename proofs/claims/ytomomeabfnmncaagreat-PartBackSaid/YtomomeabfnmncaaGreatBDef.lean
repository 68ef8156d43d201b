/- THE ABSTRACT MACHINE, its words: data without memory, objects with keys, the compiled form of code, and what it answers. No program, no proof. -/
import Derived.Orders
import Derived.Laws.Sem
namespace Go.Ab

/-- Data. 'slc': a slice whose elements are written out and never change again (clip: it has no spare room); 'sl': n elements from lo on of the row 'g', as that was when it had L elements; 'fptr': a pointer to a place that is never written again; 'ptr': the cell 'off' of element i of the object g; 'aptr': an array variable that is laid as the row g. -/
inductive D where
  | undef
  | bool (b : Bool)
  | int (k : IntKind) (n : Int)
  | str (s : List UInt8)
  | slc (clip : Bool) (s : Nat) (es : List D)
  | sl (g lo n L : Nat)
  | fptr (d : D)
  | ptr (g i off L : Nat)
  | aptr (g L : Nat)
  | nilptr
  | func (f : Nat) (first captured : List D)
  | nilfunc
  | map (g : Nat)
  | nilmap
  | iface (t : Nat) (d : D)
  | niliface
  | agg (cs : List D)
  | tuple (ds : List D)
  deriving Inhabited

/-- Objects: a row of elements of s cells, of which the first fz are never written again; a variable's cells; a map. -/
inductive Obj where
  | row (s : Nat) (es : List D) (fz : Nat)
  | box (cs : List D)
  | mp (es : List (D × D))
  deriving Inhabited

abbrev nilS : D := .slc true 0 []

def D.cells : D → List D
  | .agg cs => cs
  | d => [d]

/-- A value of one cell. -/
def D.one : D → Bool
  | .agg _ | .tuple _ | .undef => false
  | _ => true

abbrev Hp := Nat → Option Obj
abbrev Wr := List (Nat × Obj)
abbrev CallFn := Nat → List D → List Obj → Option (D × List Obj)

def Hp.app (H : Hp) : Wr → Hp
  | [] => H
  | (g, o) :: r => Hp.app (fun k => if k = g then some o else H k) r

/-- A computation that looks at objects. -/
inductive M (α : Type) where
  | pure (a : α)
  | look (g : Nat) (k : Obj → M α)
  | fail

def M.bind {α β : Type} : M α → (α → M β) → M β
  | .pure a, f => f a
  | .look g k, f => .look g fun o => (k o).bind f
  | .fail, _ => .fail

instance : Monad M where
  pure := M.pure
  bind := M.bind

def M.run {α : Type} : M α → Hp → Option α
  | .pure a, _ => some a
  | .look g k, H => match H g with
    | some o => (k o).run H
    | none => none
  | .fail, _ => none

def M.log {α : Type} : M α → Hp → List Nat
  | .pure _, _ => []
  | .look g k, H => match H g with
    | some o => g :: (k o).log H
    | none => []
  | .fail, _ => []

def look (g : Nat) : M Obj := .look g .pure
def ofO {α : Type} : Option α → M α
  | some a => .pure a
  | none => .fail

/-- The keys that stand in a datum itself. -/
def D.keys : D → List Nat
  | .sl g _ _ _ | .ptr g _ _ _ | .aptr g _ | .map g => [g]
  | .func _ a b => keysL a ++ keysL b
  | .iface _ d => d.keys
  | .agg cs => keysL cs
  | .tuple ds => keysL ds
  | _ => []
where
  keysL : List D → List Nat
    | [] => []
    | d :: r => d.keys ++ keysL r

abbrev keysL := D.keys.keysL

def Obj.keys : Obj → List Nat
  | .box cs => keysL cs
  | _ => []

/-- Other keys. -/
def D.ren (f : Nat → Nat) : D → D
  | .sl g lo n L => .sl (f g) lo n L
  | .ptr g i o L => .ptr (f g) i o L
  | .aptr g L => .aptr (f g) L
  | .map g => .map (f g)
  | .func n a b => .func n (renL f a) (renL f b)
  | .iface t d => .iface t (d.ren f)
  | .agg cs => .agg (renL f cs)
  | .tuple ds => .tuple (renL f ds)
  | d => d
where
  renL (f : Nat → Nat) : List D → List D
    | [] => []
    | d :: r => d.ren f :: renL f r

abbrev renL := D.ren.renL

def Obj.ren (f : Nat → Nat) : Obj → Obj
  | .box cs => .box (renL f cs)
  | o => o

/-- What has been written so far, ahead of what is there. -/
def lookO (ov : Wr) (g : Nat) : M Obj :=
  match ov.lookup g with
  | some o => .pure o
  | none => look g

/-- A datum as one that never changes again: its rows are never written again where they hold it. (strict: a pointer is refused; else it stays one.) -/
def fzD (strict : Bool) (ov : Wr) : D → M (D × Wr)
  | .sl g lo n L => lookO ov g >>= fun o =>
    match o with
    | .row s es _ =>
      if es.length = L then
        if s = 0 then pure (nilS, ov)
        else if lo + n ≤ L then pure (.slc false s ((es.take (lo + n)).drop lo), (g, .row s es es.length) :: ov)
        else .fail
      else .fail
    | _ => .fail
  | .agg cs => fzL strict ov cs >>= fun p => pure (.agg p.1, p.2)
  | .tuple ds => fzL strict ov ds >>= fun p => pure (.tuple p.1, p.2)
  | .iface t d => fzD strict ov d >>= fun p => pure (.iface t p.1, p.2)
  | .ptr g i o L => if strict then .fail else pure (.ptr g i o L, ov)
  | .aptr g L => if strict then .fail else pure (.aptr g L, ov)
  | .map g => if strict then .fail else pure (.map g, ov)
  | .func f a b => if strict then (if D.keys.keysL a = [] ∧ D.keys.keysL b = [] then pure (.func f a b, ov) else .fail) else pure (.func f a b, ov)
  | d => pure (d, ov)
where
  fzL (strict : Bool) (ov : Wr) : List D → M (List D × Wr)
    | [] => pure ([], ov)
    | d :: r => fzD strict ov d >>= fun p => fzL strict p.2 r >>= fun q => pure (p.1 :: q.1, q.2)

abbrev fzL := fzD.fzL

/-- All objects that are reached from some keys, in order of their first coming up. -/
def reach (ov : Wr) : Nat → List Nat → List (Nat × Obj) → M (List (Nat × Obj))
  | _, [], acc => pure acc.reverse
  | 0, _ :: _, _ => .fail
  | n + 1, g :: r, acc =>
    if acc.any (·.1 == g) then reach ov n r acc
    else lookO ov g >>= fun o => reach ov n (r ++ o.keys) ((g, o) :: acc)

def reachFuel : Nat := 60

def inM (live : Bool) (args : List D) : M (List D × Wr) := if live then pure (args, []) else fzL false [] args

/-- A call whose arguments lead to no object. -/
def callP (call : CallFn) (nk f : Nat) (ov : Wr) (args : List D) : M (D × Wr) :=
  match call f args [] with
  | some (d, H') =>
    if H' = [] then pure (d, ov.reverse)
    else pure (d.ren (nk + ·), ov.reverse ++ H'.zipIdx.map fun (o, j) => (nk + j, o.ren (nk + ·)))
  | none => .fail

def intoK (os : Wr) (g : Nat) : Nat := os.findIdx (·.1 == g)
def backK (os : Wr) (nk j : Nat) : Nat := match os[j]? with | some (g, _) => g | none => nk + (j - os.length)

/-- One whose arguments lead to some. -/
def callO (call : CallFn) (nk f : Nat) (ov : Wr) (args : List D) (os : Wr) : M (D × Wr) :=
  match call f (renL (intoK os) args) (os.map fun (_, o) => o.ren (intoK os)) with
  | some (d, H') =>
    if os.length ≤ H'.length then pure (d.ren (backK os nk), ov.reverse ++ H'.zipIdx.map fun (o, j) => (backK os nk j, o.ren (backK os nk)))
    else .fail
  | none => .fail

/-- The call of a function: what its arguments reach is handed in, under new keys, and comes back. -/
def callM (call : CallFn) (live : Bool) (nk : Nat) (f : Nat) (args : List D) : M (D × Wr) :=
  inM live args >>= fun p =>
    if keysL p.1 = [] then callP call nk f p.2 p.1
    else reach p.2 reachFuel (keysL p.1) [] >>= fun os => callO call nk f p.2 p.1 os


/-! ### Instructions -/

/-- Operands. -/
inductive X where
  | t (i : Nat)
  | k (d : D)
  | f (n : Nat)
  deriving Inhabited

def X.ev (T : List D) : X → D
  | .t i => T[i]?.getD .undef
  | .k d => d
  | .f n => .func n [] []

inductive Cv where
  | int (k : IntKind)
  | same
  | b2s
  | s2b
  | i2s

/-- The cells of an array as elements. -/
def chunks : Nat → Nat → List D → List D
  | 0, _, _ => []
  | n + 1, s, z => (if s = 1 then z.headD .undef else .agg (z.take s)) :: chunks n s (z.drop s)

/-- A cell that leads nowhere. -/
def D.flat : D → Bool
  | .int _ _ | .bool _ | .str _ => true
  | _ => false

/-- Instructions: operations, with what the types say written out. 'ag': some n: a struct or an array of n cells. -/
inductive Ins where
  | mv (x : X)
  | nilrow
  | pick (c a b : X)
  | alloc (v : Bool) (cs : List D)
  | allocA (s : Nat) (es : List D)
  | box (v : Bool) (x : X)
  | boxA (n s : Nat) (x : X)
  | bld (zero : List D) (parts : List (Nat × Nat × X))
  | bsl (live : Bool) (s n : Nat) (zero : List D) (parts : List (Nat × X))
  | ld (ag : Option Nat) (x : X)
  | st (n : Nat) (x v : X)
  | nc (x : X)
  | bin (op : BinOp) (flat : List Nat) (x y : X)
  | un (op : UnOp) (x : X)
  | cvt (c : Cv) (x : X)
  | fn (f : Nat) (first cap : List X)
  | sub (kd s : Nat) (x : X) (lo hi mx : Option X)
  | fa (off sz : Nat) (ag : Bool) (x : X)
  | fld (off sz : Nat) (ag : Bool) (x : X)
  | ia (arr : Option Nat) (s : Nat) (ag : Bool) (x i : X)
  | ix (kd n s : Nat) (ag : Bool) (x i : X)
  | ext (x : X) (n : Nat)
  | call (f : X) (args : List X)
  | len (kd : Nat) (x : X)
  | app (s bytes : Nat) (x y : X)
  | mn (xs : List X)
  | mx (xs : List X)
  | ml (s bytes : Nat) (zero : List D) (n c : X)
  | cpy (s : Nat) (x y : X)
  | mkmap
  | mget (ok : Bool) (flat : List Nat) (zero : D) (m k : X)
  | mset (flat : List Nat) (m k v : X)
  | bad
  deriving Inhabited

/-- A part of some cells. -/
def partD (off sz : Nat) (ag : Bool) (cs : List D) : Option D :=
  if off + sz ≤ cs.length then
    if ag then some (.agg ((cs.drop off).take sz)) else cs[off]?
  else none

/-- Some cells, with others in the place of some. -/
def putAt (off : Nat) (new cs : List D) : List D := cs.take off ++ new ++ cs.drop (off + new.length)

/-- A nil slice that stands as a constant. -/
def D.isNil : D → Bool
  | .slc true 0 [] => true
  | _ => false

/-- nil slices in the cells of a new variable become rows of their own, so that what is appended is its own. -/
def virt (nk : Nat) : List D → List D × Wr
  | [] => ([], [])
  | d :: r => if d.isNil then (.sl nk 0 0 0 :: (virt (nk + 1) r).1, (nk, .row 0 [] 0) :: (virt (nk + 1) r).2) else (d :: (virt nk r).1, (virt nk r).2)

def mkBox (v : Bool) (nk : Nat) (cs : List D) : D × Wr :=
  if v then (.ptr (nk + (virt nk cs).2.length) 0 0 0, (virt nk cs).2 ++ [(nk + (virt nk cs).2.length, .box (virt nk cs).1)]) else (.ptr nk 0 0 0, [(nk, .box cs)])

def wholeOf (cs : List D) (ag : Option Nat) : Option D :=
  match ag with
  | some n => if cs.length = n then some (.agg cs) else none
  | none => match cs with | [d] => some d | _ => none

def ldO (ag : Option Nat) (i off L : Nat) : Obj → Option D
  | .row _ es _ => if es.length = L then
      match es[i]? with
      | some e => partD off (ag.getD 1) ag.isSome e.cells
      | none => none
    else none
  | .box cs => if i = 0 then partD off (ag.getD 1) ag.isSome cs else none
  | _ => none

def ldM (ag : Option Nat) : D → M D
  | .fptr d => ofO (wholeOf d.cells ag)
  | .ptr g i off L => do ofO (ldO ag i off L (← look g))
  | .aptr g L => do
    match ← look g with
    | .row _ es _ => if es.length = L then ofO (wholeOf (es.flatMap D.cells) ag) else .fail
    | _ => .fail
  | _ => .fail

/-- An element of the same shape, of other cells. -/
def D.like : D → List D → Option D
  | .agg _, cs => some (.agg cs)
  | _, [d] => some d
  | _, _ => none

def stRow (n g s i off : Nat) (es : List D) (fz : Nat) (v : D) : M Wr :=
  match es[i]? with
  | some e => fzD true [] v >>= fun p =>
      if off + n ≤ s ∧ p.1.cells.length = n ∧ p.1.cells.all D.one = true ∧ p.2.lookup g = none then
        match e.like (putAt off p.1.cells e.cells) with
        | some e' => pure (p.2.reverse ++ [(g, .row s (es.set i e') fz)])
        | none => .fail
      else .fail
  | none => .fail

def stM (n : Nat) (p v : D) : M Wr :=
  if v.cells.length = n ∧ v.cells.all D.one then
    match p with
    | .ptr g i off L => do
      match ← look g with
      | .box cs => if i = 0 ∧ off + n ≤ cs.length then pure [(g, .box (putAt off v.cells cs))] else .fail
      | .row s es fz => if es.length = L ∧ fz ≤ i then stRow n g s i off es fz v else .fail
      | _ => .fail
    | _ => .fail
  else .fail

def intOp (op : BinOp) (k : IntKind) (a b : Int) : Option D :=
  match op with
  | .add => some (.int k (k.wrap (a + b)))
  | .sub => some (.int k (k.wrap (a - b)))
  | .mul => some (.int k (k.wrap (a * b)))
  | .quo => if b = 0 then none else some (.int k (k.wrap (a.tdiv b)))
  | .rem => if b = 0 then none else some (.int k (a.tmod b))
  | .and => some (.int k (k.wrap (BitVec.ofInt k.bits a &&& BitVec.ofInt k.bits b).toNat))
  | .or => some (.int k (k.wrap (BitVec.ofInt k.bits a ||| BitVec.ofInt k.bits b).toNat))
  | .xor => some (.int k (k.wrap (BitVec.ofInt k.bits a ^^^ BitVec.ofInt k.bits b).toNat))
  | .andNot => some (.int k (k.wrap (BitVec.ofInt k.bits a &&& ~~~ BitVec.ofInt k.bits b).toNat))
  | .eql => some (.bool (a == b))
  | .neq => some (.bool (a != b))
  | .lss => some (.bool (a < b))
  | .leq => some (.bool (a ≤ b))
  | .gtr => some (.bool (a > b))
  | .geq => some (.bool (a ≥ b))
  | _ => none

def strOp (op : BinOp) (a b : List UInt8) : Option D :=
  match op with
  | .add => if a.length + b.length ≤ 2 ^ 47 then some (.str (a ++ b)) else none
  | .eql => some (.bool (a == b))
  | .neq => some (.bool !(a == b))
  | .lss => some (.bool (Op.bytesLess a b))
  | .leq => some (.bool (Op.bytesLess a b || a == b))
  | .gtr => some (.bool !(Op.bytesLess a b || a == b))
  | .geq => some (.bool !(Op.bytesLess a b))
  | _ => none

/-- Are two cells the same, of a plain kind? (0: a number, 1: a text, 2: a truth value) -/
def eqCell : Nat → D → D → Option Bool
  | 0, .int k a, .int k' b => if k = k' then some (a == b) else none
  | 1, .str a, .str b => some (a == b)
  | 2, .bool a, .bool b => some (a == b)
  | _, _, _ => none

def eqCells : List Nat → List D → List D → Option Bool
  | [], [], [] => some true
  | f :: fs, a :: r, b :: q => match eqCell f a b, eqCells fs r q with
    | some x, some y => some (x && y)
    | _, _ => none
  | _, _, _ => none

/-- Is a pointer nil? -/
def D.isNilptr : D → Option Bool
  | .ptr _ _ _ _ | .fptr _ => some false
  | .nilptr => some true
  | _ => none

def binD (op : BinOp) (flat : List Nat) : D → D → Option D
  | .int k a, .int k' b =>
    match op with
    | .shl => if b < 0 then none else some (.int k (k.wrap (a * 2 ^ (min b.toNat k.bits))))
    | .shr => if b < 0 then none else some (.int k (a.fdiv (2 ^ (min b.toNat k.bits))))
    | _ => if k = k' then intOp op k a b else none
  | .str a, .str b => strOp op a b
  | .bool a, .bool b => match op with
    | .eql => if flat = [3] then some (.bool (a == b)) else none
    | .neq => if flat = [3] then some (.bool !(a == b)) else none
    | _ => none
  | .agg a, .agg b => match op with
    | .eql => if flat = [] then none else (eqCells flat a b).map .bool
    | .neq => if flat = [] then none else (eqCells flat a b).map fun x => .bool !x
    | _ => none
  | .slc _ _ (_ :: _), .slc true 0 [] => match op with
    | .eql => if flat = [4] then some (.bool false) else none
    | .neq => if flat = [4] then some (.bool true) else none
    | _ => none
  | a, .nilptr => match op with
    | .eql => if flat = [5] then a.isNilptr.map .bool else none
    | .neq => if flat = [5] then a.isNilptr.map fun b => .bool !b else none
    | _ => none
  | _, _ => none

def unD (op : UnOp) : D → Option D
  | .int k n => match op with
    | .neg => some (.int k (k.wrap (0 - n)))
    | .xor => some (.int k (k.wrap (BitVec.ofInt k.bits (if k.signed then -1 else k.max) ^^^ BitVec.ofInt k.bits n).toNat))
    | _ => none
  | .bool b => match op with
    | .not => some (.bool !b)
    | _ => none
  | _ => none

/-- Bytes out of cells, and cells out of bytes. -/
def toU8 : List D → Option (List UInt8)
  | [] => some []
  | .int .u8 n :: r => match toU8 r with | some l => some (UInt8.ofNat n.toNat :: l) | none => none
  | _ :: _ => none

def ofU8 (l : List UInt8) : List D := l.map fun b => .int .u8 b.toNat

/-- What a slice holds. -/
def esM : D → M (Nat × List D)
  | .slc _ s es => pure (s, es)
  | .sl g lo n L => do
    match ← look g with
    | .row s es _ => if es.length = L ∧ lo + n ≤ L then pure (s, (es.take (lo + n)).drop lo) else .fail
    | _ => .fail
  | _ => .fail

def cvtM (nk : Nat) : Cv → D → M (D × Wr)
  | .int k, .int _ n => pure (.int k (k.wrap n), [])
  | .same, .str l => pure (.str l, [])
  | .b2s, d => do
    let (_, es) ← esM d
    match toU8 es with
    | some l => pure (.str l, [])
    | none => .fail
  | .s2b, .str l => if l.length ≤ 2 ^ 47 then pure (.sl nk 0 l.length l.length, [(nk, .row 1 (ofU8 l) 0)]) else .fail
  | .i2s, .int _ n => pure (.str (Utf8.encode n).data.toList, [])
  | _, _ => .fail

/-- The bounds of a cut. -/
def bound : D → Option Int
  | .int _ n => some n
  | _ => none

def cutB (lim : Nat) (dflt : Option Nat) : Option D → Option Nat
  | none => dflt
  | some v => match bound v with
    | some n => if 0 ≤ n ∧ n ≤ lim then some n.toNat else none
    | none => none

def cut (len : Nat) (lo hi mx : Option D) : Option (Nat × Nat × Bool) :=
  match cutB len (some len) mx with
  | none => none
  | some m => match cutB m (if mx.isSome then none else some len) hi with
    | none => none
    | some h => match cutB h (some 0) lo with
      | none => none
      | some l => some (l, h, mx.isSome && m == h)

/-- kd: 0 of a text, 1 of a slice, N + 2 of a variable that is an array of N. -/
def subM (kd s : Nat) (x : D) (lo hi mx : Option D) : M D :=
  match kd, x with
  | 0, .str b => match mx, cut b.length lo hi none with
    | none, some (l, h, _) => pure (.str ((b.take h).drop l))
    | _, _ => .fail
  | 1, .slc c s' es => match cut es.length lo hi mx with
    | some (l, h, cl) => if s' = s ∨ es = [] then pure (.slc (cl || (c && h == es.length)) s ((es.take h).drop l)) else .fail
    | none => .fail
  | 1, .sl g o n L => do
    match ← look g, cut n lo hi mx with
    | .row s' _ _, some (l, h, _) => if s' = s ∨ s' = 0 then pure (.sl g (o + l) (h - l) L) else .fail
    | _, _ => .fail
  | N + 2, .aptr g L => do
    match ← look g, cut L lo hi mx with
    | .row s' es _, some (l, h, _) => if s' = s ∧ es.length = L ∧ L = N then pure (.sl g l (h - l) L) else .fail
    | _, _ => .fail
  | _, _ => .fail

def faD (off sz : Nat) (ag : Bool) : D → Option D
  | .fptr (.agg cs) => (partD off sz ag cs).map .fptr
  | .ptr g i o L => some (.ptr g i (o + off) L)
  | _ => none

def iaM (arr : Option Nat) (s : Nat) (ag : Bool) (x i : D) : M D :=
  match i with
  | .int _ n =>
    match arr, x with
    | none, .slc _ s' es => if 0 ≤ n ∧ s' = s then ofO (es[n.toNat]?.map .fptr) else .fail
    | none, .sl g lo len L => do
      match ← look g with
      | .row s' es _ => if 0 ≤ n ∧ n < len ∧ s' = s ∧ es.length = L then pure (.ptr g (lo + n.toNat) 0 L) else .fail
      | _ => .fail
    | some k, .aptr g L => do
      match ← look g with
      | .row s' es _ => if 0 ≤ n ∧ n < k ∧ s' = s ∧ es.length = L ∧ k = L then pure (.ptr g n.toNat 0 L) else .fail
      | _ => .fail
    | some k, .ptr g j o L => if 0 ≤ n ∧ n < k then pure (.ptr g j (o + n.toNat * s) L) else .fail
    | some k, .fptr (.agg cs) => if 0 ≤ n ∧ n < k then ofO ((partD (n.toNat * s) s ag cs).map .fptr) else .fail
    | _, _ => .fail
  | _ => .fail

def ixD (kd n s : Nat) (ag : Bool) (x i : D) : Option D :=
  match i with
  | .int _ j =>
    match kd, x with
    | 1, .agg cs => if 0 ≤ j ∧ j < n then partD (j.toNat * s) s ag cs else none
    | 0, .str b => if 0 ≤ j then b[j.toNat]?.map fun c => .int .u8 c.toNat else none
    | _, _ => none
  | _ => none

def bldD (cs : List D) : List (Nat × Nat × D) → Option (List D)
  | [] => some cs
  | (off, sz, d) :: r => if d.cells.length = sz ∧ off + sz ≤ cs.length ∧ d.cells.all D.one then bldD (putAt off d.cells cs) r else none

/-- The elements of a slice's literal. -/
def bslE (s : Nat) (es : List D) : List (Nat × D) → Option (List D)
  | [] => some es
  | (i, d) :: r => if d.cells.length = s ∧ i < es.length ∧ d.cells.all D.one then bslE s (es.set i d) r else none

def capBound : Nat := 2 ^ 46

/-- What is appended. -/
def srcM : D → M (Nat × List D)
  | .str b => pure (1, ofU8 b)
  | y => esM y

def appO (nk s bytes : Nat) (x : D) (ys : List D) : M (D × Wr) :=
  if ys.all (fun e => e.cells.length == s) ∧ 0 < s then
    match x with
    | .slc c s' es =>
      if ys = [] then pure (.slc c s' es, [])
      else if c ∧ (s' = s ∨ es = []) ∧ (es.length + ys.length) * bytes ≤ capBound then
        pure (.sl nk 0 (es.length + ys.length) (es.length + ys.length), [(nk, .row s (es ++ ys) 0)])
      else .fail
    | .sl g lo n L => look g >>= fun o =>
      match o with
      | .row s' es fz =>
        if es.length = L ∧ lo = 0 ∧ n = L ∧ (s' = s ∨ s' = 0) ∧ (es.length + ys.length) * bytes ≤ capBound then
          if ys = [] then pure (.sl g 0 n L, [])
          else pure (.sl g 0 (L + ys.length) (L + ys.length), [(g, .row s (es ++ ys) fz)])
        else .fail
      | _ => .fail
    | _ => .fail
  else .fail

/-- Keys of maps: structs of plain fields; and plain values, of which the kind is told by 100, 101, 102. -/
def keyEq (flat : List Nat) : D → D → Option Bool
  | .agg a, .agg b => eqCells flat a b
  | .int k a, .int k' b => if flat = [100] ∧ k = k' then some (a == b) else none
  | .str a, .str b => if flat = [101] then some (a == b) else none
  | .bool a, .bool b => if flat = [102] then some (a == b) else none
  | _, _ => none

/-- What a map has at a key. -/
def findD (flat : List Nat) (k : D) : List (D × D) → Option (Option D)
  | [] => some none
  | e :: r => match keyEq flat k e.1 with
    | some true => some (some e.2)
    | some false => findD flat k r
    | none => none

def mgetO (ok : Bool) (flat : List Nat) (zero k : D) : Obj → M D
  | .mp es => match keyEq flat k k with
    | some _ => match findD flat k es with
      | some (some v) => pure (if ok then .tuple [v, .bool true] else v)
      | some none => pure (if ok then .tuple [zero, .bool false] else zero)
      | none => .fail
    | none => .fail
  | _ => .fail

def mgetM (ok : Bool) (flat : List Nat) (zero m k : D) : M D :=
  match m with
  | .map g => look g >>= fun o => mgetO ok flat zero k o
  | _ => .fail

/-- A key that is not there yet. -/
def msetO (flat : List Nat) (g : Nat) (k v : D) : Obj → M Wr
  | .mp es => if k.keys = [] ∧ v.keys = [] then
      match keyEq flat k k with
      | some _ => match findD flat k es with
        | some none => pure [(g, .mp (es ++ [(k, v)]))]
        | _ => .fail
      | none => .fail
    else .fail
  | _ => .fail

def msetM (flat : List Nat) (m k v : D) : M Wr :=
  match m with
  | .map g => look g >>= fun o => msetO flat g k v o
  | _ => .fail

def appM (nk s bytes : Nat) (x y : D) : M (D × Wr) := srcM y >>= fun p => appO nk s bytes x p.2

def cpyO (s : Nat) (x : D) (ys : List D) : M (D × Wr) :=
  match x with
  | .sl g lo n L => look g >>= fun o =>
    match o with
    | .row s' es fz =>
      if es.length = L ∧ lo + n ≤ L ∧ fz ≤ lo ∧ s' = s ∧ ys.all (fun e => e.cells.length == s) then
        pure (.int .i64 (min ys.length n : Nat), [(g, .row s' (es.take lo ++ ys.take (min ys.length n) ++ es.drop (lo + min ys.length n)) fz)])
      else .fail
    | _ => .fail
  | _ => .fail

def minF (k : IntKind) (a : Int) : List D → Option D
  | [] => some (.int k a)
  | .int _ b :: r => minF k (if b < a then b else a) r
  | _ :: _ => none

def maxF (k : IntKind) (a : Int) : List D → Option D
  | [] => some (.int k a)
  | .int _ b :: r => maxF k (if b > a then b else a) r
  | _ :: _ => none

def minD : List D → Option D
  | .int k a :: r => minF k a r
  | _ => none

def maxD : List D → Option D
  | .int k a :: r => maxF k a r
  | _ => none

def lenD (kd : Nat) (x : D) : Option D :=
  match kd, x with
  | 0, .str b => some (.int .i64 b.length)
  | 1, .slc _ _ es => some (.int .i64 es.length)
  | 1, .sl _ _ n _ => some (.int .i64 n)
  | _, _ => none

/-- Of a callee, which way its slices go in, and out. -/
structure Cfg where
  live : Nat → Bool
  keep : Nat → Bool

/-- What an instruction comes to. -/
def Ins.go (cf : Cfg) (call : CallFn) (nk : Nat) (T : List D) : Ins → M (D × Wr)
  | .mv x => pure (x.ev T, [])
  | .nilrow => pure (.sl nk 0 0 0, [(nk, .row 0 [] 0)])
  | .pick c a b => match c.ev T with
    | .bool t => pure (if t then a.ev T else b.ev T, [])
    | _ => .fail
  | .alloc v cs => pure (mkBox v nk cs)
  | .allocA s es => pure (.aptr nk es.length, [(nk, .row s es 0)])
  | .box v x => let d := x.ev T; if d.cells.all D.one then pure (mkBox v nk d.cells) else .fail
  | .boxA n s x => if (x.ev T).cells.all D.flat ∧ (x.ev T).cells.length = n * s ∧ 0 < s then pure (.aptr nk (chunks n s (x.ev T).cells).length, [(nk, .row s (chunks n s (x.ev T).cells) 0)]) else .fail
  | .bld zero parts => match bldD zero (parts.map fun (o, s, x) => (o, s, x.ev T)) with
    | some cs => pure (.agg cs, [])
    | none => .fail
  | .bsl live s n zero parts => fzL true [] (parts.map fun (_, x) => x.ev T) >>= fun p =>
    match bslE s (List.replicate n (if s = 1 then zero.headD .undef else .agg zero)) ((parts.map (·.1)).zip p.1) with
    | some es =>
      if live then pure (.sl nk 0 n n, p.2.reverse ++ [(nk, .row s es 0)])
      else pure (.slc true s es, p.2.reverse)
    | none => .fail
  | .ld ag x => do pure (← ldM ag (x.ev T), [])
  | .st n x v => do pure (.undef, ← stM n (x.ev T) (v.ev T))
  | .nc x => match x.ev T with
    | .ptr g i o L => pure (.ptr g i o L, [])
    | .aptr g L => pure (.aptr g L, [])
    | .fptr d => pure (.fptr d, [])
    | .func f a b => pure (.func f a b, [])
    | _ => .fail
  | .bin op flat x y => do pure (← ofO (binD op flat (x.ev T) (y.ev T)), [])
  | .un op x => do pure (← ofO (unD op (x.ev T)), [])
  | .cvt c x => cvtM nk c (x.ev T)
  | .fn f a b => pure (.func f (a.map (X.ev T)) (b.map (X.ev T)), [])
  | .sub kd s x lo hi m => do pure (← subM kd s (x.ev T) (lo.map (X.ev T)) (hi.map (X.ev T)) (m.map (X.ev T)), [])
  | .fa off sz ag x => do pure (← ofO (faD off sz ag (x.ev T)), [])
  | .fld off sz ag x => match x.ev T with
    | .agg cs => do pure (← ofO (partD off sz ag cs), [])
    | _ => .fail
  | .ia arr s ag x i => do pure (← iaM arr s ag (x.ev T) (i.ev T), [])
  | .ix kd n s ag x i => do pure (← ofO (ixD kd n s ag (x.ev T) (i.ev T)), [])
  | .ext x n => match x.ev T with
    | .tuple ds => do pure (← ofO ds[n]?, [])
    | _ => .fail
  | .call f args => match f.ev T with
    | .func n a b => callM call (cf.live n) nk n (a ++ args.map (X.ev T) ++ b)
    | _ => .fail
  | .len kd x => do pure (← ofO (lenD kd (x.ev T)), [])
  | .app s bytes x y => appM nk s bytes (x.ev T) (y.ev T)
  | .mn xs => do pure (← ofO (minD (xs.map (X.ev T))), [])
  | .mx xs => do pure (← ofO (maxD (xs.map (X.ev T))), [])
  | .ml s bytes zero n c => match n.ev T, c.ev T with
    | .int _ n, .int _ c => if 0 ≤ n ∧ n = c ∧ n * bytes ≤ capBound then
        pure (.sl nk 0 n.toNat n.toNat, [(nk, .row s (List.replicate n.toNat (if s = 1 then zero.headD .undef else .agg zero)) 0)])
      else .fail
    | _, _ => .fail
  | .cpy s x y => srcM (y.ev T) >>= fun p => cpyO s (x.ev T) p.2
  | .mkmap => pure (.map nk, [(nk, .mp [])])
  | .mget ok flat zero m k => do pure (← mgetM ok flat zero (m.ev T) (k.ev T), [])
  | .mset flat m k v => do pure (.undef, ← msetM flat (m.ev T) (k.ev T) (v.ev T))
  | .bad => .fail

/-! ### Code -/

/-- An operation: where it goes, whether it is done, what it is. -/
structure Ope where
  dst : Option Nat
  guard : Option (Option Nat × Bool)
  ins : Ins
  deriving Inhabited

inductive C where
  | skip
  | reg (draw : Option (List (Nat × Nat))) (ops : List Ope)
  | seq (a b : C)
  | cond (x : X) (a b : C)
  | block (id : Nat) (b : C)
  | loop (b : C)
  | exit (id : Nat)
  | ret
  deriving Inhabited

structure St where
  T : List D
  H : List Obj
  deriving Inhabited

inductive Ex where
  | nrm
  | exit (id : Nat)
  | ret
  deriving DecidableEq, Inhabited

def applyW (H : List Obj) : Wr → Option (List Obj)
  | [] => some H
  | (g, o) :: r => if g < H.length then applyW (H.set g o) r else if g = H.length then applyW (H ++ [o]) r else none

def setD (T : List D) : Option Nat → D → List D
  | some i, d => T.set i d
  | none, _ => T

def wants (T : List D) : Option (Option Nat × Bool) → Option Bool
  | none => some true
  | some (some j, want) => match T[j]?.getD .undef with
    | .bool b => some (b == want)
    | .tuple [] => some false
    | _ => none
  | some (none, _) => none

def evM (m : M (D × Wr)) (dst : Option Nat) (s : St) : Option (St × List Nat × List Nat) :=
  match m.run (s.H[·]?) with
  | some (d, wr) => match applyW s.H wr with
    | some H => some (⟨setD s.T dst d, H⟩, m.log (s.H[·]?), wr.map (·.1))
    | none => none
  | none => none

def evOp (cf : Cfg) (call : CallFn) (o : Ope) (s : St) : Option (St × List Nat × List Nat) :=
  match wants s.T o.guard with
  | some true => evM (o.ins.go cf call s.H.length s.T) o.dst s
  | some false => some (⟨setD s.T o.dst (.tuple []), s.H⟩, [], [])
  | none => none

def evOps (cf : Cfg) (call : CallFn) : List Ope → St → Option (St × List (List Nat × List Nat))
  | [], s => some (s, [])
  | o :: r, s => match evOp cf call o s with
    | some (s, l) => match evOps cf call r s with
      | some (s, ls) => some (s, l :: ls)
      | none => none
    | none => none

/-- May two operations change places? -/
def free (a b : List Nat × List Nat) : Bool :=
  a.2.all (fun k => !b.1.contains k && !b.2.contains k) && b.2.all (fun k => !a.1.contains k)

def allFree (ls : List (List Nat × List Nat)) (ps : List (Nat × Nat)) : Bool :=
  ps.all fun (i, j) => match ls[i]?, ls[j]? with
    | some a, some b => free a b
    | _, _ => false

def evReg (cf : Cfg) (call : CallFn) (draw : Option (List (Nat × Nat))) (ops : List Ope) (s : St) : Option St :=
  match evOps cf call ops s with
  | some (s', ls) => match draw with
    | none => some s'
    | some ps => if allFree ls ps then some s' else none
  | none => none

/-- No key from n on. -/
def D.under (n : Nat) (d : D) : Bool := d.keys.all (· < n)
def Obj.under (n : Nat) (o : Obj) : Bool := o.keys.all (· < n)

/-- Behind a round: what was not there ahead of the loop is gone, if nothing leads to it. -/
def reset (T0 : List D) (n0 : Nat) (s : St) : Option St :=
  let T := (s.T.zip T0).map fun (d, d0) => match d0 with | .undef => .undef | _ => d
  let H := s.H.take n0
  if T.all (D.under n0) ∧ H.all (Obj.under n0) then some ⟨T, H⟩ else some ⟨T, s.H⟩

def iter (g : St → Option (Ex × St)) (T0 : List D) (n0 : Nat) : Nat → St → Option (Ex × St)
  | 0, _ => none
  | k + 1, s => match g s with
    | some (.nrm, s') => match reset T0 n0 s' with
      | some s'' => iter g T0 n0 k s''
      | none => none
    | some (.ret, s') => some (.ret, s')
    | some (.exit i, s') => match reset T0 n0 s' with
      | some s'' => some (.exit i, s'')
      | none => none
    | none => none

open Classical in
/-- What a computation with fuel comes to, with fuel enough. -/
noncomputable def lim {α : Type} (g : Nat → Option α) : Option α :=
  if h : ∃ r n, g n = some r then some (Classical.choose h) else none

/-- A loop. -/
noncomputable def Lp (g : St → Option (Ex × St)) (T0 : List D) (n0 : Nat) (s : St) : Option (Ex × St) := lim fun n => iter g T0 n0 n s

noncomputable def E (cf : Cfg) (call : CallFn) : C → St → Option (Ex × St)
  | .skip, s => some (.nrm, s)
  | .reg d ops, s => match evReg cf call d ops s with
    | some s' => some (.nrm, s')
    | none => none
  | .seq a b, s => match E cf call a s with
    | some (.nrm, s') => E cf call b s'
    | some (.exit i, s') => some (.exit i, s')
    | some (.ret, s') => some (.ret, s')
    | none => none
  | .cond x a b, s => match x.ev s.T with
    | .bool true => E cf call a s
    | .bool false => E cf call b s
    | _ => none
  | .block id b, s => match E cf call b s with
    | some (.exit i, s') => if i = id then some (.nrm, s') else some (.exit i, s')
    | r => r
  | .loop b, s => Lp (fun s => E cf call b s) s.T s.H.length s
  | .exit id, s => some (.exit id, s)
  | .ret, s => some (.ret, s)

/-! ### Functions -/

inductive Rs where
  | tmp (t : Nat)
  | cell (t : Nat) (ag : Option Nat)

structure Fn' where
  ntmps : Nat
  res : List Rs
  body : C

def Rs.ev (T : List D) : Rs → M D
  | .tmp t => pure (T[t]?.getD .undef)
  | .cell t ag => ldM ag (T[t]?.getD .undef)

def resM (T : List D) : List Rs → M (List D)
  | [] => pure []
  | r :: rs => do
    let d ← r.ev T
    let ds ← resM T rs
    pure (d :: ds)

def packD : List D → D
  | [d] => d
  | ds => .tuple ds

/-- The end of a call: what it answers, and what is left of the objects: those that came in, and those that the answer, or they, lead to. -/
def finM (keep : Bool) (np : Nat) (res : List Rs) (T : List D) : M (D × List Obj) :=
  resM T res >>= fun ds =>
  (if keep then (pure (packD ds, []) : M (D × Wr)) else fzD false [] (packD ds)) >>= fun p =>
  if np = 0 ∧ p.1.keys = [] then pure (p.1, [])
  else reach p.2 reachFuel (List.range np ++ p.1.keys) [] >>= fun os => pure (p.1.ren (intoK os), os.map fun (_, o) => o.ren (intoK os))

noncomputable def runF (cf : Cfg) (call : CallFn) (fs : Nat → Option Fn') : CallFn := fun f args H =>
  match fs f with
  | none => none
  | some fn =>
    if args.length ≤ fn.ntmps ∧ args.all (D.under H.length) ∧ H.all (Obj.under H.length) then
      match E cf call fn.body ⟨args ++ List.replicate (fn.ntmps - args.length) .undef, H⟩ with
      | some (e, s) => if e = .nrm ∨ e = .ret then (finM (cf.keep f) H.length fn.res s.T).run (s.H[·]?) else none
      | none => none
    else none

noncomputable def evF (cf : Cfg) (fs : Nat → Option Fn') (ora : CallFn) : Nat → CallFn
  | 0 => ora
  | n + 1 => fun f args H => match ora f args H with
    | some r => some r
    | none => runF cf (evF cf fs ora n) fs f args H

/-- THE CALL OF A FUNCTION. -/
noncomputable def K (cf : Cfg) (fs : Nat → Option Fn') (ora : CallFn) : CallFn := fun f args H => lim fun n => evF cf fs ora n f args H
end Go.Ab
/- THE ABSTRACT MACHINE: the compiled form of a function, made out of the program's own. -/
namespace Go.Ab

/-- All of a list. -/
def mapO {α β : Type} (f : α → Option β) : List α → Option (List β)
  | [] => some []
  | x :: r => match f x, mapO f r with
    | some y, some ys => some (y :: ys)
    | _, _ => none

def ofV1 : Value → Option D
  | .bool b => some (.bool b)
  | .int k n => some (.int k n)
  | .string s => some (.str s.data.toList)
  | .slice none 0 0 => some nilS
  | .pointer none => some .nilptr
  | .nilFunc => some .nilfunc
  | .nilIface => some .niliface
  | .map none => some .nilmap
  | _ => none

def ofV : Value → Option D
  | .agg cs => (mapO ofV1 cs.toList).map .agg
  | v => ofV1 v

def cX : Operand → Option X
  | .tmp t => some (.t t)
  | .const v => (ofV v).map .k
  | .func f => some (.f f)
  | .global _ => none

def cXs (l : List Operand) : Option (List X) := mapO cX l

def cXo : Option Operand → Option (Option X)
  | none => some none
  | some x => (cX x).map some

/-- size, and whether it is a struct or an array. -/
def tyOf (P : Program) (t : TypeId) : Option (Nat × Bool) :=
  match P.info? t, P.underlying t with
  | some i, some (.struct _) | some i, some (.array _ _) => some (i.size, true)
  | some i, some _ => some (i.size, false)
  | _, _ => none

def agOf (P : Program) (t : TypeId) : Option (Option Nat) :=
  (tyOf P t).map fun (n, ag) => if ag then some n else none

def zeroOf (P : Program) (t : TypeId) : Option (List D) :=
  match P.info? t with
  | some i => match i.zero with
    | some v => (ofV v).map D.cells
    | none => none
  | none => none

/-- The function's operations, all of them. -/
def opsOf : Code → List Oper
  | .region _ ops _ => ops.toList
  | .seq a b => opsOf a ++ opsOf b
  | .cond _ a b => opsOf a ++ opsOf b
  | .block _ b | .loop b | .scope b => opsOf b
  | .rangeFunc _ _ a b => opsOf a ++ opsOf b
  | _ => []

structure Cx where
  grown : List Nat
  mutd : List Nat
  fromLoad : Bool

def isAppend (o : Oper) : Bool := match o.op with
  | .call { callee := .builtin .append, .. } => true
  | _ => false

def cxOf (ops : List Oper) : Cx :=
  let apps := ops.filterMap fun o => if isAppend o then o.dst else none
  let moves : List (Nat × Nat) := ops.filterMap fun o => match o.op, o.dst with
    | .move (.tmp u), some t | .assign (.tmp u), some t => some (t, u)
    | _, _ => none
  let grown := moves.filterMap fun (t, u) => if apps.contains u then some t else none
  let stored := ops.filterMap fun o => match o.op with | .store _ (.tmp p) _ => some p | _ => none
  let ixd := ops.filterMap fun o => match o.op, o.dst with
    | .indexAddr _ (.tmp y) _, some p => if stored.contains p then some y else none
    | _, _ => none
  let mut_ := ixd ++ moves.filterMap fun (t, u) => if ixd.contains t then some u else none
  let loads := ops.filterMap fun o => match o.op with | .load .. => o.dst | _ => none
  let fl := ops.any fun o => match o.op with
    | .call { callee := .builtin .append, args, .. } => match args.toList with | .tmp t :: _ => loads.contains t | _ => false
    | _ => false
  ⟨grown, mut_, fl⟩

def nilConst : Operand → Bool
  | .const (.slice none 0 0) => true
  | _ => false

/-- Is a slice's literal to be a row of its own? -/
def liveLit (ops : List Oper) (cx : Cx) (dst : Option Nat) : Bool :=
  match dst with
  | none => false
  | some u => ops.any fun o => match o.op, o.dst with
    | .move (.tmp v), some t | .assign (.tmp v), some t => v == u && (cx.grown.contains t || cx.mutd.contains t)
    | .store _ _ (.tmp v), _ => v == u && cx.fromLoad
    | _, _ => false

def fieldKind (P : Program) (f : Field) : Option Nat :=
  match P.underlying f.type with
  | some (.int _) => some 0
  | some .string => some 1
  | some .bool => some 2
  | _ => none

/-- The kinds of a struct's fields, if it is one of plain fields that may be compared cell by cell. -/
def flatEq (P : Program) (t : TypeId) : List Nat :=
  match P.underlying t with
  | some (.struct fs) =>
    if P.stoodInHeld t = false ∧ P.eqGuardType P.depth t = false ∧ (fs.toList.zipIdx.all fun p => p.1.name != "_" && p.1.offset == p.2) = true then (mapO (fieldKind P) fs.toList).getD [] else []
  | some .bool => [3]
  | some (.slice _) => [4]
  | some (.pointer _) => [5]
  | _ => []

/-- A type's zero value. -/
def zeroD (P : Program) (t : TypeId) : Option D :=
  match P.info? t with
  | some i => match i.zero with
    | some v => ofV v
    | none => none
  | none => none

/-- The kinds of a key's fields: a struct of one or two plain fields; a number or a truth value. -/
def keyFlat (P : Program) (t : TypeId) : List Nat :=
  match P.underlying t with
  | some (.struct fs) => if fs.size = 1 ∨ fs.size = 2 then flatEq P t else []
  | some (.int _) => [100]
  | some .bool => [102]
  | _ => []

@[noinline] def cOp (P : Program) (all : List Oper) (cx : Cx) (o : Oper) : Option Ins :=
  match o.op with
  | .move x | .assign x =>
    if nilConst x && (o.dst.any cx.grown.contains) then some .nilrow else (cX x).map .mv
  | .pick c a b => do some (.pick (← cX c) (← cX a) (← cX b))
  | .alloc t => do
    match P.underlying t with
    | some (.array n e) => do
      let (s, _) ← tyOf P e
      let z ← zeroOf P t
      if z.length = n * s ∧ 0 < s then some (.allocA s (chunks n s z)) else none
    | _ => some (.alloc cx.fromLoad (← zeroOf P t))
  | .box t x => do
    match P.underlying t with
    | some (.array n e) => do
      let (s, _) ← tyOf P e
      some (.boxA n s (← cX x))
    | _ => some (.box cx.fromLoad (← cX x))
  | .build t ps => do
    let z ← zeroOf P t
    match P.underlying t with
    | some (.struct fs) =>
      let ps ← mapO (fun p => do
        let f ← fs[p.1]?
        let s ← tyOf P f.type
        let x ← cX p.2
        some (f.offset, s.1, x)) ps.toList
      if fs.all (fun f => (tyOf P f.type).isSome) = true then some (.bld z ps) else none
    | some (.array _ e) =>
      let (s, _) ← tyOf P e
      let ps ← mapO (fun p => do
        let x ← cX p.2
        some (p.1 * s, s, x)) ps.toList
      some (.bld z ps)
    | _ => none
  | .buildSlice t n ps => do
    match P.underlying t with
    | some (.slice e) =>
      let (s, _) ← tyOf P e
      let z ← zeroOf P e
      let ps ← mapO (fun p => do
        let x ← cX p.2
        some (p.1, x)) ps.toList
      if z.length = s ∧ 0 < s ∧ n * s ≤ 2 ^ 24 then some (.bsl (liveLit all cx o.dst) s n z ps) else none
    | _ => none
  | .load t x => do some (.ld (← agOf P t) (← cX x))
  | .store t x v => do some (.st (← tyOf P t).1 (← cX x) (← cX v))
  | .nilCheck x => do some (.nc (← cX x))
  | .binOp op t x y _ => do some (.bin op (flatEq P t) (← cX x) (← cX y))
  | .unOp op _ x => do some (.un op (← cX x))
  | .convert src dst x => do
    match P.underlying src, P.underlying dst with
    | some (.int _), some (.int k) => some (.cvt (.int k) (← cX x))
    | some .string, some .string => some (.cvt .same (← cX x))
    | some (.slice e), some .string => match P.underlying e with
      | some (.int .u8) => some (.cvt .b2s (← cX x))
      | _ => none
    | some .string, some (.slice e) => match P.underlying e with
      | some (.int .u8) => some (.cvt .s2b (← cX x))
      | _ => none
    | some (.int _), some .string => some (.cvt .i2s (← cX x))
    | _, _ => none
  | .makeFunc (.func f) a b => do some (.fn f (← cXs a.toList) (← cXs b.toList))
  | .slice t x lo hi mx => do
    match P.underlying t with
    | some .string => some (.sub 0 1 (← cX x) (← cXo lo) (← cXo hi) (← cXo mx))
    | some (.slice e) =>
      let (s, _) ← tyOf P e
      if 0 < s then some (.sub 1 s (← cX x) (← cXo lo) (← cXo hi) (← cXo mx)) else none
    | some (.array n e) =>
      let (s, _) ← tyOf P e
      if 0 < s then some (.sub (n + 2) s (← cX x) (← cXo lo) (← cXo hi) (← cXo mx)) else none
    | _ => none
  | .fieldAddr t x i => do
    match P.underlying t with
    | some (.struct fs) =>
      let f ← fs[i]?
      let (s, ag) ← tyOf P f.type
      if 0 < s ∧ (ag = true ∨ s = 1) then some (.fa f.offset s ag (← cX x)) else none
    | _ => none
  | .field t x i => do
    match P.underlying t with
    | some (.struct fs) =>
      let f ← fs[i]?
      let (s, ag) ← tyOf P f.type
      if ag = true ∨ s = 1 then some (.fld f.offset s ag (← cX x)) else none
    | _ => none
  | .indexAddr t x i => do
    match P.underlying t with
    | some (.slice e) =>
      let (s, ag) ← tyOf P e
      if 0 < s ∧ (ag = true ∨ s = 1) then some (.ia none s ag (← cX x) (← cX i)) else none
    | some (.array n e) =>
      let (s, ag) ← tyOf P e
      if 0 < s ∧ (ag = true ∨ s = 1) then some (.ia (some n) s ag (← cX x) (← cX i)) else none
    | _ => none
  | .index t x i => do
    match P.underlying t with
    | some .string => some (.ix 0 0 1 false (← cX x) (← cX i))
    | some (.array n e) =>
      let (s, ag) ← tyOf P e
      if ag = true ∨ s = 1 then some (.ix 1 n s ag (← cX x) (← cX i)) else none
    | _ => none
  | .extract x n => do some (.ext (← cX x) n)
  | .makeMap t none => match P.underlying t with
    | some (.map _ _) => some .mkmap
    | _ => none
  | .lookup t m k ok => match P.underlying t with
    | some (.map kt et) => do
      let z ← zeroD P et
      if keyFlat P kt ≠ [] then some (.mget ok (keyFlat P kt) z (← cX m) (← cX k)) else none
    | _ => none
  | .mapUpdate t m k v => match P.underlying t with
    | some (.map kt _) => if keyFlat P kt ≠ [] then do some (.mset (keyFlat P kt) (← cX m) (← cX k) (← cX v)) else none
    | _ => none
  | .insert t m k v => match P.underlying t with
    | some (.map kt _) => if keyFlat P kt ≠ [] then do some (.mset (keyFlat P kt) (← cX m) (← cX k) (← cX v)) else none
    | _ => none
  | .makeSlice t n c => do
    match P.underlying t with
    | some (.slice e) =>
      let (s, _) ← tyOf P e
      let i ← P.info? e
      let z ← zeroOf P e
      if 0 < i.bytes ∧ z.length = s ∧ 0 < s then some (.ml s i.bytes z (← cX n) (← cX c)) else none
    | _ => none
  | .call c =>
    match c.callee with
    | .value f => do some (.call (← cX f) (← cXs c.args.toList))
    | .builtin .len => match c.args.toList, c.argTypes.toList with
      | [x], [t] => match P.underlying t with
        | some .string => (cX x).map (.len 0)
        | some (.slice _) => (cX x).map (.len 1)
        | _ => none
      | _, _ => none
    | .builtin .append => match c.args.toList, c.argTypes.toList with
      | [x, y], [t, u] => match P.underlying t, P.underlying u with
        | some (.slice e), some (.slice _) | some (.slice e), some .string => do
          let (s, _) ← tyOf P e
          let i ← P.info? e
          let z ← zeroOf P e
          if 0 < i.bytes ∧ 0 < s ∧ z.length = s then some (.app s i.bytes (← cX x) (← cX y)) else none
        | _, _ => none
      | _, _ => none
    | .builtin .copy => match c.args.toList, c.argTypes.toList with
      | [x, y], [t, _] => match P.underlying t with
        | some (.slice e) => do
          let (s, _) ← tyOf P e
          if 0 < s then some (.cpy s (← cX x) (← cX y)) else none
        | _ => none
      | _, _ => none
    | .builtin .min => do some (.mn (← cXs c.args.toList))
    | .builtin .max => do some (.mx (← cXs c.args.toList))
    | _ => none
  | _ => none

/-- Does it look at, or write, objects? -/
def Ins.heapish : Ins → Bool
  | .mv _ | .pick .. | .bld .. | .nc _ | .bin .. | .un .. | .fn .. | .fa .. | .fld .. | .ix .. | .ext .. | .len .. | .mn _ | .mx _ => false
  | .cvt (.int _) _ | .cvt .same _ | .cvt .i2s _ => false
  | _ => true

/-- The slots that an instruction looks at. -/
def X.tm : X → List Nat
  | .t i => [i]
  | _ => []

def X.tmo : Option X → List Nat
  | some x => x.tm
  | none => []

def Ins.tms : Ins → List Nat
  | .mv x | .box _ x | .boxA _ _ x | .ld _ x | .nc x | .un _ x | .cvt _ x | .fa _ _ _ x | .fld _ _ _ x | .ext x _ | .len _ x => x.tm
  | .pick c a b => c.tm ++ a.tm ++ b.tm
  | .bld _ ps => ps.flatMap fun p => p.2.2.tm
  | .bsl _ _ _ _ ps => ps.flatMap fun p => p.2.tm
  | .st _ x v => x.tm ++ v.tm
  | .bin _ _ x y | .ia _ _ _ x y | .ix _ _ _ _ x y | .app _ _ x y | .cpy _ x y | .ml _ _ _ x y | .mget _ _ _ x y => x.tm ++ y.tm
  | .mset _ m k v => m.tm ++ k.tm ++ v.tm
  | .fn _ a b => a.flatMap X.tm ++ b.flatMap X.tm
  | .sub _ _ x l h m => x.tm ++ X.tmo l ++ X.tmo h ++ X.tmo m
  | .call f as => f.tm ++ as.flatMap X.tm
  | .mn xs | .mx xs => xs.flatMap X.tm
  | _ => []

def Ope.looks (o : Ope) : List Nat := o.ins.tms ++ match o.guard with | some (some j, _) => [j] | _ => []

def Ope.apart (x y : Ope) : Bool :=
  (match x.dst with
   | some d => !y.looks.contains d && y.dst != some d
   | none => true) &&
  (match y.dst with
   | some d => !x.looks.contains d
   | none => true)

/-- What an operation is told to come after. -/
def afters (o : Oper) : List Nat := o.after.toList.filterMap fun e => if Region.binds .any e then some e.on else none

def orderOk (as : List (List Nat)) (b : List Nat) : Bool :=
  (List.range as.length).all fun j => (as.getD j []).all (fun e => decide (e < j)) && decide (b.getD j 0 < 2 ^ j) &&
    (List.range j).all fun i => !(b.getD j 0).testBit i || (as.getD j []).any fun e => e == i || (b.getD e 0).testBit i

/-- Of the operations that may be done in many orders, the pairs that meet in memory alone. -/
@[noinline] def pairsOf (ops : Array Oper) (os : List Ope) : Option (List (Nat × Nat)) :=
  let b := (Region.before ops).toList
  let un := (List.range os.length).flatMap fun j => (List.range j).filterMap fun i => if (b.getD j 0).testBit i then none else some (i, j)
  if orderOk (ops.toList.map afters) b && un.all (fun (i, j) => match os[i]?, os[j]? with
      | some x, some y => x.apart y
      | _, _ => false) then
    some (un.filter fun (i, j) => match os[i]?, os[j]? with
      | some x, some y => x.ins.heapish && y.ins.heapish
      | _, _ => true)
  else none

def cOps (P : Program) (all : List Oper) (cx : Cx) (ops : Array Oper) : List Ope :=
  (ops.toList.map fun o => ⟨o.dst, o.guard.map fun p => ((ops[p.1]?).bind (·.dst), p.2), (cOp P all cx o).getD .bad⟩)

@[noinline] def cCode (P : Program) (all : List Oper) (cx : Cx) : Code → Option C
  | .skip => some .skip
  | .region _ ops draw => do
    if draw then do
      let ps ← pairsOf ops (cOps P all cx ops)
      some (.reg (some ps) (cOps P all cx ops))
    else some (.reg none (cOps P all cx ops))
  | .seq a b => do some (.seq (← cCode P all cx a) (← cCode P all cx b))
  | .cond x a b => do some (.cond (← cX x) (← cCode P all cx a) (← cCode P all cx b))
  | .block id b => do some (.block id (← cCode P all cx b))
  | .loop b => do some (.loop (← cCode P all cx b))
  | .exit id => some (.exit id)
  | .scope b => cCode P all cx b
  | .label _ => some .skip
  | .ret => some .ret
  | _ => none

def cRes (P : Program) : ResultVar → Option Rs
  | .tmp t => some (.tmp t)
  | .cell a t => do some (.cell a (← agOf P t))

@[noinline] def compF (P : Program) (f : Nat) : Option Fn' := do
  let fn ← P.funcs[f]?
  let b ← fn.body
  let all := opsOf b
  let c ← cCode P all (cxOf all) b
  let r ← mapO (cRes P) fn.results.toList
  if fn.name == "runtime.NumGoroutine" then none else some ⟨fn.ntmps, r, c⟩
end Go.Ab
