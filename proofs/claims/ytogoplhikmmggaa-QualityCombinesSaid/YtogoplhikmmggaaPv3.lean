/- FROM THE TRANSLATION'S CODE TO THE COMPACT FORM. A function that the kernel runs; nothing is claimed here. -/
import Derived.Test.YtogoplhikmmggaaPv1
set_option linter.unusedSimpArgs false
set_option linter.unusedVariables false
namespace Go.Proofs.Ytogoplhikmmggaa
namespace Pv

def isAggB (P : Program) (t : TypeId) : Bool := match P.underlying t with
  | some (.struct _) => true
  | some (.array _ _) => true
  | _ => false

def isAggO (P : Program) (t : TypeId) : Option Bool := match P.underlying t with
  | some (.struct _) => some true
  | some (.array _ _) => some true
  | some _ => some false
  | none => none

/-- A constant. -/
def constPV : Value → Option PV
  | .int k n => some (.int k n)
  | .bool b => some (.bool b)
  | .string s => some (.str s.data.toList)
  | .slice none 0 0 => some (.nil 0)
  | .pointer none => some (.raw (.pointer none))
  | .nilFunc => some (.raw .nilFunc)
  | .map none => some (.raw (.map none))
  | _ => none

def arg : Operand → Option A
  | .tmp t => some (.t t)
  | .const v => (constPV v).map A.c
  | .func f => some (.c (.fn (.func f) [] []))
  | .global _ => none

/-- A constant of a known type: a nil slice gets its element's size. -/
def elemSize (P : Program) (t : TypeId) : Nat := match P.underlying t with
  | some (.slice e) => P.cellsOf e
  | _ => 0
def argT (P : Program) (t : TypeId) : Operand → Option A
  | .const (.slice none 0 0) => some (.c (.nil (elemSize P t)))
  | x => arg x

def mapO {α β : Type} (f : α → Option β) : List α → Option (List β)
  | [] => some []
  | a :: r => match f a, mapO f r with
    | some b, some bs => some (b :: bs)
    | _, _ => none

/-- A zero value's cell, by the type of the variable that it is. 'fuel' for structs within structs. -/
def zeroCells (P : Program) : Nat → TypeId → Option (List PV)
  | 0, _ => none
  | n + 1, t => match P.underlying t with
    | some .bool => some [.bool false]
    | some (.int k) => some [.int k 0]
    | some .string => some [.str []]
    | some (.slice e) => some [.nil (P.cellsOf e)]
    | some (.pointer _) => some [.raw (.pointer none)]
    | some (.func _ _ _) => some [.raw .nilFunc]
    | some (.map _ _) => some [.raw (.map none)]
    | some (.struct fs) => (mapO (fun f => zeroCells P n f.type) fs.toList).map List.flatten
    | some (.array k e) => (zeroCells P n e).map fun c => (List.replicate k c).flatten
    | _ => none

/-- The cells stand for what the model's own zero value holds. -/
def sameCells : List PV → List Value → Bool
  | [], [] => true
  | .bool false :: ps, .bool false :: vs => sameCells ps vs
  | .int k 0 :: ps, .int k' 0 :: vs => k == k' && sameCells ps vs
  | .str [] :: ps, .string s :: vs => s.data.toList.isEmpty && sameCells ps vs
  | .nil _ :: ps, .slice none 0 0 :: vs => sameCells ps vs
  | .raw (.pointer none) :: ps, .pointer none :: vs => sameCells ps vs
  | .raw .nilFunc :: ps, .nilFunc :: vs => sameCells ps vs
  | .raw (.map none) :: ps, .map none :: vs => sameCells ps vs
  | _, _ => false

/-- The model's zero value of a type has the type's size. -/
def zeroFits (P : Program) (t : TypeId) : Bool := match P.info? t with
  | some i => match i.zero with
    | some z => z.cells.size == P.cellsOf t
    | none => false
  | none => false

/-- The zero cells of a type, checked against the model's. -/
def zeroOf (P : Program) (t : TypeId) : Option (List PV) := match zeroCells P 50 t, (P.info? t).map (·.zero) with
  | some cs, some (some z) => if sameCells cs z.cells.toList && (z.cells.size == P.cellsOf t) then some cs else none
  | _, _ => none

def parts (P : Program) (places : List (Nat × Nat × TypeId)) : List (Nat × Operand) → Option (List (Nat × Nat × A))
  | [] => some []
  | (i, x) :: r => match places[i]?, parts P places r with
    | some (off, n, t), some r' => (argT P t x).map fun a => (off, n, a) :: r'
    | _, _ => none

def inOrder : Nat → List (Nat × Operand) → Bool
  | _, [] => true
  | k, (i, _) :: r => i == k && inOrder (k + 1) r

/-- Structs whose fields are compared cell by cell: 0: numbers; 1: bools; 2: strings. -/
def eqKind (P : Program) (t : TypeId) : Option Nat := match P.underlying t with
  | some (.int _) => some 0
  | some .bool => some 1
  | some .string => some 2
  | _ => none
def eqKinds (P : Program) : Nat → List Field → Option (List Nat)
  | _, [] => some []
  | i, f :: fs => if f.name != "_" && f.offset == i then match eqKind P f.type, eqKinds P (i + 1) fs with
      | some k, some ks => some (k :: ks)
      | _, _ => none
    else none

/-- One operation. 'w': sums are wrapped. -/
def compI (P : Program) (w : Bool) (o : Oper) : Option I :=
  match o.op with
  | .move x => (argT P o.type x).map I.mv
  | .assign x => (argT P o.type x).map I.mv
  | .pick c a b => match arg c, arg a, arg b with
    | some c, some a, some b => some (.pick c a b)
    | _, _, _ => none
  | .alloc t => (zeroOf P t).map I.al
  | .box t x => if 0 < P.cellsOf t then (arg x).map fun x => .bx (P.cellsOf t) x else none
  | .build t ps => match P.underlying t with
    | some (.struct fs) => match zeroOf P t, parts P (fs.toList.map fun f => (f.offset, P.cellsOf f.type, f.type)) ps.toList with
      | some z, some ps => if fs.toList.all (fun f => (P.info? f.type).isSome) then some (.bd z ps) else none
      | _, _ => none
    | some (.array n e) => match zeroOf P t, parts P ((List.range n).map fun i => (i * P.cellsOf e, P.cellsOf e, e)) ps.toList with
      | some z, some ps => if (P.info? e).isSome then some (.bd z ps) else none
      | _, _ => none
    | _ => none
  | .buildSlice t n ps => match P.underlying t with
    | some (.slice e) => if inOrder 0 ps.toList && (ps.size == n) && decide (n * P.cellsOf e ≤ 16777216) && decide (0 < P.cellsOf e) && zeroFits P e then (mapO (fun (_, x) => argT P e x) ps.toList).map fun xs => .bs e (P.cellsOf e) xs else none
    | _ => none
  | .load t x => match isAggO P t, arg x with
    | some g, some x => some (.ld (P.cellsOf t) g x)
    | _, _ => none
  | .store t x v => match arg x, argT P t v with
    | some x, some v => if 0 < P.cellsOf t then some (.st (P.cellsOf t) x v) else none
    | _, _ => none
  | .nilCheck x => (arg x).map I.nc
  | .binOp op t x y _ => match arg x, arg y with
    | some x, some y => if isAggB P t then
        (match P.underlying t with
        | some (.struct fs) => match eqKinds P 0 fs.toList with
          | some ks => if !(P.eqGuardType P.depth t) && !(P.stoodInHeld t) then match op with
              | .eql => some (.eqa false ks x y)
              | .neq => some (.eqa true ks x y)
              | _ => none
            else none
          | none => none
        | some (.array n e) => match eqKind P e with
          | some k => if !(P.eqGuardType P.depth t) && (P.cellsOf e == 1) && (P.info? e).isSome then match op with
              | .eql => some (.eqa false (List.replicate n k) x y)
              | .neq => some (.eqa true (List.replicate n k) x y)
              | _ => none
            else none
          | none => none
        | _ => none)
      else match P.underlying t with
        | some .bool => match op with
          | .eql => some (.bib false x y)
          | .neq => some (.bib true x y)
          | _ => none
        | some (.int _) => some (.bi w op x y)
        | some .string => some (.bi w op x y)
        | _ => none
    | _, _ => none
  | .unOp op _ x => (arg x).map fun x => .un w op x
  | .convert s d x => match P.underlying s, P.underlying d with
    | some (.int _), some (.int k) => (arg x).map fun x => .cv w k x
    | _, _ => none
  | .fieldAddr s x f => match P.underlying s with
    | some (.struct fs) => match fs[f]? with
      | some f => if 0 < P.cellsOf f.type then (arg x).map fun x => .fa f.offset x else none
      | none => none
    | _ => none
  | .field s x f => match P.underlying s with
    | some (.struct fs) => match fs[f]? with
      | some f => match isAggO P f.type, arg x with
        | some g, some x => some (.fd f.offset (P.cellsOf f.type) g x)
        | _, _ => none
      | none => none
    | _ => none
  | .indexAddr t x i => match P.underlying t, arg x, arg i with
    | some (.slice e), some x, some i => if 0 < P.cellsOf e then some (.ia (P.cellsOf e) x i) else none
    | some (.array n e), some x, some i => if 1 < n && decide (0 < P.cellsOf e) then some (.iaa n (P.cellsOf e) x i) else none
    | _, _, _ => none
  | .index t x i => match P.underlying t, arg x, arg i with
    | some (.array n e), some x, some i => match isAggO P e with
      | some g => some (.ixa n (P.cellsOf e) g x i)
      | none => none
    | some .string, some x, some i => some (.ixs x i)
    | _, _, _ => none
  | .slice t x lo hi none => match P.underlying t, arg x with
    | some (.slice e), some x => if 0 < P.cellsOf e then match lo, hi with
      | none, none => some (.slc (P.cellsOf e) x none none)
      | some l, none => (arg l).map fun l => .slc (P.cellsOf e) x (some l) none
      | none, some h => (arg h).map fun h => .slc (P.cellsOf e) x none (some h)
      | some l, some h => match arg l, arg h with
        | some l, some h => some (.slc (P.cellsOf e) x (some l) (some h))
        | _, _ => none
      else none
    | some .string, some x => match lo, hi with
      | none, none => some (.slcs x none none)
      | some l, none => (arg l).map fun l => .slcs x (some l) none
      | none, some h => (arg h).map fun h => .slcs x none (some h)
      | some l, some h => match arg l, arg h with
        | some l, some h => some (.slcs x (some l) (some h))
        | _, _ => none
    | _, _ => none
  | .makeSlice t n c => match P.underlying t, arg n, arg c with
    | some (.slice e), some n, some c => match zeroOf P e with
      | some z => if 0 < P.cellsOf e then some (.mks e (P.cellsOf e) (P.bytesOf e) (z.map PV.unnil) n c) else none
      | none => none
    | _, _, _ => none
  | .extract x i => (arg x).map fun x => .ex x i
  | .makeFunc f first caps => match mapO arg first.toList, mapO arg caps.toList with
    | some a, some b => some (.mf f a b)
    | _, _ => none
  | .call c => match c.callee with
    | .builtin .len => match c.args.toList, c.argTypes.toList with
      | [x], [t] => match P.underlying t with
        | some (.slice _) => (arg x).map I.len
        | some .string => (arg x).map I.lens
        | _ => none
      | _, _ => none
    | .builtin .max => match mapO arg c.args.toList with
      | some (x :: xs) => some (.mx (x :: xs))
      | _ => none
    | .builtin .min => match mapO arg c.args.toList with
      | some (x :: xs) => some (.mn (x :: xs))
      | _ => none
    | .builtin .append => match c.args.toList, c.argTypes.toList with
      | [x, y], [t, u] => if t == u then match P.underlying t, argT P t x, argT P t y with
          | some (.slice e), some x, some y => if 0 < P.cellsOf e && zeroFits P e then some (.app e (P.cellsOf e) (P.bytesOf e) x y) else none
          | _, _, _ => none
        else none
      | _, _ => none
    | .builtin _ => none
    | .value f => match arg f, mapO (fun (x, t) => argT P t x) (c.args.toList.zip c.argTypes.toList) with
      | some f, some xs => if c.args.size == c.argTypes.size then some (.call f xs) else none
      | _, _ => none
    | .invoke _ _ => none
  | _ => none

def guardS (ops : Array Oper) : Option (Nat × Bool) → Option (Option (Nat × Bool))
  | none => some none
  | some (j, want) => match (ops[j]?).bind (·.dst) with
    | some d => some (some (d, want))
    | none => none

def compO (P : Program) (w : Bool) (ops : Array Oper) (o : Oper) : Option Ins :=
  match guardS ops o.guard, compI P w o with
  | some g, some i => some ⟨o.dst, 16 * o.dst.getD 0, g, i⟩
  | _, _ => none

/-- Slots that an instruction reads. -/
def A.slots : A → List Nat
  | .t n => [n]
  | .c _ => []
def Ins.reads (o : Ins) : List Nat := o.i.opr.flatMap A.slots ++ (match o.g with | some (t, _) => [t] | none => [])

/-- Does 'a' come before 'b' (by its edges, through any number of them)? -/
def bit (b : Array Nat) (i j : Nat) : Bool := (b.getD j 0).testBit i

/-- Two instructions of which neither comes before the other touch no slot of one another's. -/
def slotsApart (x y : Ins) : Bool :=
  (match x.d with | some d => !(y.reads.contains d) && y.d != some d | none => true) &&
  (match y.d with | some d => !(x.reads.contains d) | none => true)

/-- The pairs (i, j), i < j, i not before j; with the slot that i writes. None, if two of them touch one another's slots. -/
def pairs (b : Array Nat) (ins : List Ins) : Option (List (Nat × Nat × Nat)) :=
  mapO (fun (p : (Ins × Nat) × (Ins × Nat)) => if slotsApart p.1.1 p.2.1 then some (p.1.2, p.2.2, p.1.1.d.getD 0) else none)
    ((ins.zipIdx.flatMap fun x => ins.zipIdx.map fun y => (x, y)).filter fun (x, y) => decide (x.2 < y.2) && !bit b x.2 y.2)

/-- Edges lead to earlier operations. -/
def edgesOk (ops : List Oper) : Bool := ops.zipIdx.all fun (o, i) => o.after.all fun e => !(Region.binds .any e) || decide (e.on < i)

def comp (P : Program) (w : Bool) : Code → Option C
  | .skip => some .skip
  | .region _ ops false => (mapO (compO P w ops) ops.toList).map C.reg
  | .region _ ops true => match mapO (compO P w ops) ops.toList with
    | some ins => match pairs (Region.before ops) ins with
      | some ps => if edgesOk ops.toList then some (.drw ins ps) else none
      | none => none
    | none => none
  | .seq a b => match comp P w a, comp P w b with
    | some a, some b => some (.seq a b)
    | _, _ => none
  | .cond c x y => match arg c, comp P w x, comp P w y with
    | some c, some x, some y => some (.cond c x y)
    | _, _, _ => none
  | .block id b => (comp P w b).map (C.block id)
  | .loop b => (comp P w b).map C.loop
  | .exit id => some (.exit id)
  | .scope b => (comp P w b).map C.scope
  | .ret => some .ret
  | _ => none

end Pv
end Go.Proofs.Ytogoplhikmmggaa
