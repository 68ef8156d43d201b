/- THE ABSTRACT MACHINE: the compiled form of a function, made out of the program's own. -/
import Derived.Test.YtdopbfjebjnpkaaADef
namespace Go.Ab

/-- All of a list. -/
def mapO {α β : Type} (f : α → Option β) : List α → Option (List β)
  | [] => some []
  | x :: r => match f x, mapO f r with
    | some y, some ys => some (y :: ys)
    | _, _ => none

def ofV1 : Value → Option D
  | .bool b => some (.bool b)
  | .int k n => some (.int k n)
  | .string s => some (.str s.data.toList)
  | .slice none 0 0 => some nilS
  | .pointer none => some .nilptr
  | .nilFunc => some .nilfunc
  | .nilIface => some .niliface
  | .map none => some .nilmap
  | _ => none

def ofV : Value → Option D
  | .agg cs => (mapO ofV1 cs.toList).map .agg
  | v => ofV1 v

def cX : Operand → Option X
  | .tmp t => some (.t t)
  | .const v => (ofV v).map .k
  | .func f => some (.f f)
  | .global _ => none

def cXs (l : List Operand) : Option (List X) := mapO cX l

def cXo : Option Operand → Option (Option X)
  | none => some none
  | some x => (cX x).map some

/-- size, and whether it is a struct or an array. -/
def tyOf (P : Program) (t : TypeId) : Option (Nat × Bool) :=
  match P.info? t, P.underlying t with
  | some i, some (.struct _) | some i, some (.array _ _) => some (i.size, true)
  | some i, some _ => some (i.size, false)
  | _, _ => none

def agOf (P : Program) (t : TypeId) : Option (Option Nat) :=
  (tyOf P t).map fun (n, ag) => if ag then some n else none

def zeroOf (P : Program) (t : TypeId) : Option (List D) :=
  match P.info? t with
  | some i => match i.zero with
    | some v => (ofV v).map D.cells
    | none => none
  | none => none

/-- The function's operations, all of them. -/
def opsOf : Code → List Oper
  | .region _ ops _ => ops.toList
  | .seq a b => opsOf a ++ opsOf b
  | .cond _ a b => opsOf a ++ opsOf b
  | .block _ b | .loop b | .scope b => opsOf b
  | .rangeFunc _ _ a b => opsOf a ++ opsOf b
  | _ => []

structure Cx where
  grown : List Nat
  mutd : List Nat
  fromLoad : Bool

def isAppend (o : Oper) : Bool := match o.op with
  | .call { callee := .builtin .append, .. } => true
  | _ => false

def cxOf (ops : List Oper) : Cx :=
  let apps := ops.filterMap fun o => if isAppend o then o.dst else none
  let moves : List (Nat × Nat) := ops.filterMap fun o => match o.op, o.dst with
    | .move (.tmp u), some t | .assign (.tmp u), some t => some (t, u)
    | _, _ => none
  let grown := moves.filterMap fun (t, u) => if apps.contains u then some t else none
  let stored := ops.filterMap fun o => match o.op with | .store _ (.tmp p) _ => some p | _ => none
  let ixd := ops.filterMap fun o => match o.op, o.dst with
    | .indexAddr _ (.tmp y) _, some p => if stored.contains p then some y else none
    | _, _ => none
  let mut_ := ixd ++ moves.filterMap fun (t, u) => if ixd.contains t then some u else none
  let loads := ops.filterMap fun o => match o.op with | .load .. => o.dst | _ => none
  let fl := ops.any fun o => match o.op with
    | .call { callee := .builtin .append, args, .. } => match args.toList with | .tmp t :: _ => loads.contains t | _ => false
    | _ => false
  ⟨grown, mut_, fl⟩

def nilConst : Operand → Bool
  | .const (.slice none 0 0) => true
  | _ => false

/-- Is a slice's literal to be a row of its own? -/
def liveLit (ops : List Oper) (cx : Cx) (dst : Option Nat) : Bool :=
  match dst with
  | none => false
  | some u => ops.any fun o => match o.op, o.dst with
    | .move (.tmp v), some t | .assign (.tmp v), some t => v == u && (cx.grown.contains t || cx.mutd.contains t)
    | .store _ _ (.tmp v), _ => v == u && cx.fromLoad
    | _, _ => false

def fieldKind (P : Program) (f : Field) : Option Nat :=
  match P.underlying f.type with
  | some (.int _) => some 0
  | some .string => some 1
  | some .bool => some 2
  | _ => none

/-- The kinds of a struct's fields, if it is one of plain fields that may be compared cell by cell. -/
def flatEq (P : Program) (t : TypeId) : List Nat :=
  match P.underlying t with
  | some (.struct fs) =>
    if P.stoodInHeld t = false ∧ P.eqGuardType P.depth t = false ∧ (fs.toList.zipIdx.all fun p => p.1.name != "_" && p.1.offset == p.2) = true then (mapO (fieldKind P) fs.toList).getD [] else []
  | some .bool => [3]
  | some (.slice _) => [4]
  | _ => []

/-- A type's zero value. -/
def zeroD (P : Program) (t : TypeId) : Option D :=
  match P.info? t with
  | some i => match i.zero with
    | some v => ofV v
    | none => none
  | none => none

/-- The kinds of a key's fields: a struct of one plain field. -/
def keyFlat (P : Program) (t : TypeId) : List Nat :=
  match P.underlying t with
  | some (.struct fs) => if fs.size = 1 then flatEq P t else []
  | _ => []

@[noinline] def cOp (P : Program) (all : List Oper) (cx : Cx) (o : Oper) : Option Ins :=
  match o.op with
  | .move x | .assign x =>
    if nilConst x && (o.dst.any cx.grown.contains) then some .nilrow else (cX x).map .mv
  | .pick c a b => do some (.pick (← cX c) (← cX a) (← cX b))
  | .alloc t => do
    match P.underlying t with
    | some (.array n e) => do
      let (s, _) ← tyOf P e
      let z ← zeroOf P t
      if z.length = n * s ∧ 0 < s then some (.allocA s (chunks n s z)) else none
    | _ => some (.alloc cx.fromLoad (← zeroOf P t))
  | .box t x => do
    match P.underlying t with
    | some (.array n e) => do
      let (s, _) ← tyOf P e
      some (.boxA n s (← cX x))
    | _ => some (.box cx.fromLoad (← cX x))
  | .build t ps => do
    let z ← zeroOf P t
    match P.underlying t with
    | some (.struct fs) =>
      let ps ← mapO (fun p => do
        let f ← fs[p.1]?
        let s ← tyOf P f.type
        let x ← cX p.2
        some (f.offset, s.1, x)) ps.toList
      if fs.all (fun f => (tyOf P f.type).isSome) = true then some (.bld z ps) else none
    | some (.array _ e) =>
      let (s, _) ← tyOf P e
      let ps ← mapO (fun p => do
        let x ← cX p.2
        some (p.1 * s, s, x)) ps.toList
      some (.bld z ps)
    | _ => none
  | .buildSlice t n ps => do
    match P.underlying t with
    | some (.slice e) =>
      let (s, _) ← tyOf P e
      let z ← zeroOf P e
      let ps ← mapO (fun p => do
        let x ← cX p.2
        some (p.1, x)) ps.toList
      if z.length = s ∧ 0 < s ∧ n * s ≤ 2 ^ 24 then some (.bsl (liveLit all cx o.dst) s n z ps) else none
    | _ => none
  | .load t x => do some (.ld (← agOf P t) (← cX x))
  | .store t x v => do some (.st (← tyOf P t).1 (← cX x) (← cX v))
  | .nilCheck x => do some (.nc (← cX x))
  | .binOp op t x y _ => do some (.bin op (flatEq P t) (← cX x) (← cX y))
  | .unOp op _ x => do some (.un op (← cX x))
  | .convert src dst x => do
    match P.underlying src, P.underlying dst with
    | some (.int _), some (.int k) => some (.cvt (.int k) (← cX x))
    | some .string, some .string => some (.cvt .same (← cX x))
    | some (.slice e), some .string => match P.underlying e with
      | some (.int .u8) => some (.cvt .b2s (← cX x))
      | _ => none
    | some .string, some (.slice e) => match P.underlying e with
      | some (.int .u8) => some (.cvt .s2b (← cX x))
      | _ => none
    | some (.int _), some .string => some (.cvt .i2s (← cX x))
    | _, _ => none
  | .makeFunc (.func f) a b => do some (.fn f (← cXs a.toList) (← cXs b.toList))
  | .slice t x lo hi mx => do
    match P.underlying t with
    | some .string => some (.sub 0 1 (← cX x) (← cXo lo) (← cXo hi) (← cXo mx))
    | some (.slice e) =>
      let (s, _) ← tyOf P e
      if 0 < s then some (.sub 1 s (← cX x) (← cXo lo) (← cXo hi) (← cXo mx)) else none
    | some (.array n e) =>
      let (s, _) ← tyOf P e
      if 0 < s then some (.sub (n + 2) s (← cX x) (← cXo lo) (← cXo hi) (← cXo mx)) else none
    | _ => none
  | .fieldAddr t x i => do
    match P.underlying t with
    | some (.struct fs) =>
      let f ← fs[i]?
      let (s, ag) ← tyOf P f.type
      if 0 < s ∧ (ag = true ∨ s = 1) then some (.fa f.offset s ag (← cX x)) else none
    | _ => none
  | .field t x i => do
    match P.underlying t with
    | some (.struct fs) =>
      let f ← fs[i]?
      let (s, ag) ← tyOf P f.type
      if ag = true ∨ s = 1 then some (.fld f.offset s ag (← cX x)) else none
    | _ => none
  | .indexAddr t x i => do
    match P.underlying t with
    | some (.slice e) =>
      let (s, ag) ← tyOf P e
      if 0 < s ∧ (ag = true ∨ s = 1) then some (.ia none s ag (← cX x) (← cX i)) else none
    | some (.array n e) =>
      let (s, ag) ← tyOf P e
      if 0 < s ∧ (ag = true ∨ s = 1) then some (.ia (some n) s ag (← cX x) (← cX i)) else none
    | _ => none
  | .index t x i => do
    match P.underlying t with
    | some .string => some (.ix 0 0 1 false (← cX x) (← cX i))
    | some (.array n e) =>
      let (s, ag) ← tyOf P e
      if ag = true ∨ s = 1 then some (.ix 1 n s ag (← cX x) (← cX i)) else none
    | _ => none
  | .extract x n => do some (.ext (← cX x) n)
  | .makeMap t none => match P.underlying t with
    | some (.map _ _) => some .mkmap
    | _ => none
  | .lookup t m k ok => match P.underlying t with
    | some (.map kt et) => do
      let z ← zeroD P et
      if keyFlat P kt ≠ [] then some (.mget ok (keyFlat P kt) z (← cX m) (← cX k)) else none
    | _ => none
  | .mapUpdate t m k v => match P.underlying t with
    | some (.map kt _) => if keyFlat P kt ≠ [] then do some (.mset (keyFlat P kt) (← cX m) (← cX k) (← cX v)) else none
    | _ => none
  | .makeSlice t n c => do
    match P.underlying t with
    | some (.slice e) =>
      let (s, _) ← tyOf P e
      let i ← P.info? e
      let z ← zeroOf P e
      if 0 < i.bytes ∧ z.length = s ∧ 0 < s then some (.ml s i.bytes z (← cX n) (← cX c)) else none
    | _ => none
  | .call c =>
    match c.callee with
    | .value f => do some (.call (← cX f) (← cXs c.args.toList))
    | .builtin .len => match c.args.toList, c.argTypes.toList with
      | [x], [t] => match P.underlying t with
        | some .string => (cX x).map (.len 0)
        | some (.slice _) => (cX x).map (.len 1)
        | _ => none
      | _, _ => none
    | .builtin .append => match c.args.toList, c.argTypes.toList with
      | [x, y], [t, u] => match P.underlying t, P.underlying u with
        | some (.slice e), some (.slice _) | some (.slice e), some .string => do
          let (s, _) ← tyOf P e
          let i ← P.info? e
          let z ← zeroOf P e
          if 0 < i.bytes ∧ 0 < s ∧ z.length = s then some (.app s i.bytes (← cX x) (← cX y)) else none
        | _, _ => none
      | _, _ => none
    | .builtin .copy => match c.args.toList, c.argTypes.toList with
      | [x, y], [t, _] => match P.underlying t with
        | some (.slice e) => do
          let (s, _) ← tyOf P e
          if 0 < s then some (.cpy s (← cX x) (← cX y)) else none
        | _ => none
      | _, _ => none
    | .builtin .min => do some (.mn (← cXs c.args.toList))
    | .builtin .max => do some (.mx (← cXs c.args.toList))
    | _ => none
  | _ => none

/-- Does it look at, or write, objects? -/
def Ins.heapish : Ins → Bool
  | .mv _ | .pick .. | .bld .. | .nc _ | .bin .. | .un .. | .fn .. | .fa .. | .fld .. | .ix .. | .ext .. | .len .. | .mn _ | .mx _ => false
  | .cvt (.int _) _ | .cvt .same _ | .cvt .i2s _ => false
  | _ => true

/-- The slots that an instruction looks at. -/
def X.tm : X → List Nat
  | .t i => [i]
  | _ => []

def X.tmo : Option X → List Nat
  | some x => x.tm
  | none => []

def Ins.tms : Ins → List Nat
  | .mv x | .box _ x | .boxA _ _ x | .ld _ x | .nc x | .un _ x | .cvt _ x | .fa _ _ _ x | .fld _ _ _ x | .ext x _ | .len _ x => x.tm
  | .pick c a b => c.tm ++ a.tm ++ b.tm
  | .bld _ ps => ps.flatMap fun p => p.2.2.tm
  | .bsl _ _ _ _ ps => ps.flatMap fun p => p.2.tm
  | .st _ x v => x.tm ++ v.tm
  | .bin _ _ x y | .ia _ _ _ x y | .ix _ _ _ _ x y | .app _ _ x y | .cpy _ x y | .ml _ _ _ x y | .mget _ _ _ x y => x.tm ++ y.tm
  | .mset _ m k v => m.tm ++ k.tm ++ v.tm
  | .fn _ a b => a.flatMap X.tm ++ b.flatMap X.tm
  | .sub _ _ x l h m => x.tm ++ X.tmo l ++ X.tmo h ++ X.tmo m
  | .call f as => f.tm ++ as.flatMap X.tm
  | .mn xs | .mx xs => xs.flatMap X.tm
  | _ => []

def Ope.looks (o : Ope) : List Nat := o.ins.tms ++ match o.guard with | some (some j, _) => [j] | _ => []

def Ope.apart (x y : Ope) : Bool :=
  (match x.dst with
   | some d => !y.looks.contains d && y.dst != some d
   | none => true) &&
  (match y.dst with
   | some d => !x.looks.contains d
   | none => true)

/-- What an operation is told to come after. -/
def afters (o : Oper) : List Nat := o.after.toList.filterMap fun e => if Region.binds .any e then some e.on else none

def orderOk (as : List (List Nat)) (b : List Nat) : Bool :=
  (List.range as.length).all fun j => (as.getD j []).all (fun e => decide (e < j)) && decide (b.getD j 0 < 2 ^ j) &&
    (List.range j).all fun i => !(b.getD j 0).testBit i || (as.getD j []).any fun e => e == i || (b.getD e 0).testBit i

/-- Of the operations that may be done in many orders, the pairs that meet in memory alone. -/
@[noinline] def pairsOf (ops : Array Oper) (os : List Ope) : Option (List (Nat × Nat)) :=
  let b := (Region.before ops).toList
  let un := (List.range os.length).flatMap fun j => (List.range j).filterMap fun i => if (b.getD j 0).testBit i then none else some (i, j)
  if orderOk (ops.toList.map afters) b && un.all (fun (i, j) => match os[i]?, os[j]? with
      | some x, some y => x.apart y
      | _, _ => false) then
    some (un.filter fun (i, j) => match os[i]?, os[j]? with
      | some x, some y => x.ins.heapish && y.ins.heapish
      | _, _ => true)
  else none

def cOps (P : Program) (all : List Oper) (cx : Cx) (ops : Array Oper) : List Ope :=
  (ops.toList.map fun o => ⟨o.dst, o.guard.map fun p => ((ops[p.1]?).bind (·.dst), p.2), (cOp P all cx o).getD .bad⟩)

@[noinline] def cCode (P : Program) (all : List Oper) (cx : Cx) : Code → Option C
  | .skip => some .skip
  | .region _ ops draw => do
    if draw then do
      let ps ← pairsOf ops (cOps P all cx ops)
      some (.reg (some ps) (cOps P all cx ops))
    else some (.reg none (cOps P all cx ops))
  | .seq a b => do some (.seq (← cCode P all cx a) (← cCode P all cx b))
  | .cond x a b => do some (.cond (← cX x) (← cCode P all cx a) (← cCode P all cx b))
  | .block id b => do some (.block id (← cCode P all cx b))
  | .loop b => do some (.loop (← cCode P all cx b))
  | .exit id => some (.exit id)
  | .scope b => cCode P all cx b
  | .label _ => some .skip
  | .ret => some .ret
  | _ => none

def cRes (P : Program) : ResultVar → Option Rs
  | .tmp t => some (.tmp t)
  | .cell a t => do some (.cell a (← agOf P t))

@[noinline] def compF (P : Program) (f : Nat) : Option Fn' := do
  let fn ← P.funcs[f]?
  let b ← fn.body
  let all := opsOf b
  let c ← cCode P all (cxOf all) b
  let r ← mapO (cRes P) fn.results.toList
  if fn.name == "runtime.NumGoroutine" then none else some ⟨fn.ntmps, r, c⟩
end Go.Ab
