/- DEFINITIONS ONLY: pure values, a pure store, a compact form of code, and an evaluator over them. Nothing is claimed here. -/
import Derived.Test.YtdcgnfkkklbckaaGreatDoorZua
import Derived.Orders
import Derived.Below
import Derived.Maps.AppendAt
import Derived.KernelRfl
set_option linter.unusedSimpArgs false
set_option linter.unusedVariables false
namespace Go.Proofs.YtdcgnfkkklbckaaGreatDoor
namespace Pv
inductive KK where
 | i (k:IntKind)
 | b
 | s
 deriving Inhabited
inductive PC where
 | i (n:Int)
 | b (x:Bool)
 | s (l:List UInt8)
instance:Inhabited PC:=⟨.i 0⟩
inductive PV where
 | int (k:IntKind) (n:Int)
 | bool (b:Bool)
 | str (s:List UInt8)
 | agg (cs:List PV)
 | tup (vs:List PV)
 | sl (τ z n:Nat) (f:Nat→List PV)
 | nil (z:Nat)
 | os (r:Nat)
 | vw (h:Bool) (r lo n:Nat)
 | pt (r i j:Nat)
 | rp (τ:Nat) (cs:List PV)
 | rf (m:Option (Nat×Nat)) (r:Nat)
 | mpv (ks vks:List KK) (ka va:Bool) (h:List PC→Bool) (f:List PC→List PC)
 | fn (f:Fn) (first caps:List PV)
 | raw (v:Value)
 | cnd (g:Bool) (p:PV)
 | junk
 deriving Inhabited
inductive SE where
 | box (cells:List PV)
 | row (τ:Nat) (e:TypeId) (z n:Nat) (f:Nat→List PV)
 | bld (T e:TypeId) (s:List UInt8)
 deriving Inhabited
def rpMark (τ:Nat):PV→PV
 | .rp _ cs=> .rp τ cs
 | p=>p
def rpMarks (τ:Nat):List PV→List PV
 | []=> []
 | p::ps=>rpMark τ p::rpMarks τ ps
def allRp:List PV→Bool
 | []=>true
 | .rp _ _::ps=>allRp ps
 | _::_=>false
def rpTau:List PV→Nat
 | []=>0
 | .rp τ _::ps=>max τ (rpTau ps)
 | _::ps=>rpTau ps
def PV.mark (τ:Nat):PV→PV
 | .sl _ z n f=> .sl τ z n f
 | .rp _ cs=> .rp τ cs
 | .fn f a b=> .fn f a (rpMarks τ b)
 | p=>p
def PV.okCell:PV→Bool
 | .tup _ | .cnd _ _ | .junk | .vw _ _ _ _ | .mpv _ _ _ _ _ _=>false
 | _=>true
def PV.one:PV→Bool
 | .agg _ | .tup _ | .cnd _ _ | .junk | .vw _ _ _ _ | .mpv _ _ _ _ _ _=>false
 | _=>true
def PV.flat:PV→Bool
 | .int _ _ | .bool _ | .str _ | .sl _ _ _ _=>true
 | .fn _ [] caps=>allRp caps
 | _=>false
def PV.tau:PV→Nat
 | .sl o _ _ _=>o
 | .rp o _=>o
 | .fn _ _ caps=>rpTau caps
 | _=>0
def tauL:List PV→Nat
 | []=>0
 | p::ps=>max p.tau (tauL ps)
def tauR:List (List PV)→Nat
 | []=>0
 | r::rs=>max (tauL r) (tauR rs)
def PV.cells:PV→List PV
 | .agg cs=>cs
 | p=> [p]
def PV.unnil:PV→PV
 | .nil z=> .sl 0 z 0 (fun _=> [])
 | p=>p
mutual
def PV.ids:PV→List Nat
 | .os r=> [r]
 | .vw _ r _ _=> [r]
 | .rf _ r=> [r]
 | .pt r _ _=> [r]
 | .agg cs=>PV.idsL cs
 | .tup cs=>PV.idsL cs
 | .fn _ a b=>PV.idsL a++PV.idsL b
 | .cnd _ p=>PV.ids p
 | _=> []
def PV.idsL:List PV→List Nat
 | []=> []
 | p::ps=>PV.ids p++PV.idsL ps
end
def SE.idsL:List SE→List Nat
 | []=> []
 | .box l::es=>PV.idsL l++SE.idsL es
 | .row .. ::es=>SE.idsL es
 | .bld .. ::es=>SE.idsL es
mutual
def PV.nj:PV→Bool
 | .junk=>false
 | .agg cs=>PV.njL cs
 | .tup cs=>PV.njL cs
 | .fn _ a b=>PV.njL a&&PV.njL b
 | .cnd _ p=>PV.nj p
 | _=>true
def PV.njL:List PV→Bool
 | []=>true
 | p::ps=>PV.nj p&&PV.njL ps
end
def SE.njL:List SE→Bool
 | []=>true
 | .box l::es=>PV.njL l&&SE.njL es
 | .row .. ::es=>SE.njL es
 | .bld .. ::es=>SE.njL es
mutual
def PV.ren (ρ:Nat→Nat):PV→PV
 | .os r=> .os (ρ r)
 | .vw h r lo n=> .vw h (ρ r) lo n
 | .rf m r=> .rf m (ρ r)
 | .mpv ks vks ka va h f=> .mpv ks vks ka va h f
 | .pt r i j=> .pt (ρ r) i j
 | .agg cs=> .agg (PV.renL ρ cs)
 | .tup cs=> .tup (PV.renL ρ cs)
 | .fn f a b=> .fn f (PV.renL ρ a) (PV.renL ρ b)
 | .cnd g p=> .cnd g (PV.ren ρ p)
 | .int k n=> .int k n
 | .bool b=> .bool b
 | .str s=> .str s
 | .sl o z n f=> .sl o z n f
 | .nil z=> .nil z
 | .rp o cs=> .rp o cs
 | .raw v=> .raw v
 | .junk=> .junk
def PV.renL (ρ:Nat→Nat):List PV→List PV
 | []=> []
 | p::ps=>PV.ren ρ p::PV.renL ρ ps
end
inductive A where
 | t (n:Nat)
 | c (p:PV)
 deriving Inhabited
inductive I where
 | mv (x:A)
 | pick (c a b:A)
 | al (cells:List PV)
 | alb (T e:TypeId)
 | bx (n:Nat) (x:A)
 | bd (zero:List PV) (parts:List (Nat×Nat×A))
 | bs (e z:Nat) (parts:List A)
 | ld (n:Nat) (agg:Bool) (x:A)
 | st (n:Nat) (x v:A)
 | nc (x:A)
 | bi (w:Bool) (op:BinOp) (x y:A)
 | bib (neg:Bool) (x y:A)
 | isn (neg:Bool) (x:A)
 | eqa (neg:Bool) (ks:List Nat) (x y:A)
 | un (w:Bool) (op:UnOp) (x:A)
 | cv (w:Bool) (k:IntKind) (x:A)
 | fa (off:Nat) (x:A)
 | fd (off n:Nat) (agg:Bool) (x:A)
 | ia (z:Nat) (x i:A)
 | iaa (len z:Nat) (x i:A)
 | ixa (len z:Nat) (agg:Bool) (x i:A)
 | ixs (x i:A)
 | len (x:A)
 | lens (x:A)
 | app (e z bytes:Nat) (x y:A)
 | mx (xs:List A)
 | mn (xs:List A)
 | slc (z:Nat) (x:A) (lo hi:Option A)
 | slcs (x:A) (lo hi:Option A)
 | clr (zs:List PV) (x:A)
 | cpy (z:Nat) (x y:A)
 | mks (e z bytes:Nat) (zero:List PV) (n c:A)
 | ex (x:A) (i:Nat)
 | mf (f:Fn) (first caps:List A)
 | mkm (ks vks:List KK) (ka va:Bool)
 | mpg (ks vks:List KK) (ka va ok:Bool) (x i:A)
 | mpu (ks vks:List KK) (ka va:Bool) (x i v:A)
 | bsx (z:Nat) (parts:List A)
 | cvb (e:TypeId) (x:A)
 | cvs (x:A)
 | call (f:A) (args:List A)
 deriving Inhabited
structure Ins where
 d:Option Nat
 id:Nat
 g:Option (Nat×Bool)
 i:I
 deriving Inhabited
instance (n:Nat):OfNat A n:=⟨.t n⟩
abbrev kk (d:Nat) (i:I):Ins:=⟨some d,16*d,none,i⟩
abbrev kz (i:I):Ins:=⟨none,0,none,i⟩
abbrev kg (d g:Nat) (b:Bool) (i:I):Ins:=⟨some d,16*d,some (g,b),i⟩
abbrev km (d:Nat) (a:A):Ins:=kk d (.mv a)
abbrev cl (f:Nat) (l:List A):I:=.call (.c (.fn (.func f) [] [])) l
abbrev cn (n:Int):A:=.c (.int .i64 n)
abbrev kl (d:Nat) (a:A):Ins:=kk d (.ld 1 false a)
abbrev kt (d z:Nat) (a:A):Ins:=kk d (.ld z true a)
abbrev kf (d k:Nat) (a:A):Ins:=kk d (.fa k a)
abbrev ki (d z:Nat) (a b:A):Ins:=kk d (.ia z a b)
abbrev kb (d:Nat) (o:BinOp) (a b:A):Ins:=kk d (.bi false o a b)
abbrev kc (d f:Nat) (l:List A):Ins:=kk d (cl f l)
abbrev ke (d:Nat) (a:A) (k:Nat):Ins:=kk d (.ex a k)
abbrev kx (z:Nat) (a b:A):Ins:=kz (.st z a b)
abbrev z0:PV:=.int .i64 0
abbrev cf:A:=.c (.bool false)
abbrev ct:A:=.c (.bool true)
abbrev pl (l:List (Nat×List Nat×Nat)):List (Nat×Nat×Nat):=l.flatMap fun x=>x.2.1.map fun k=>(x.1,k,x.2.2)
inductive C where
 | skip
 | reg (ins:List Ins)
 | drw (ins:List Ins) (apart:List (Nat×Nat×Nat))
 | seq (a b:C)
 | cond (c:A) (x y:C)
 | block (id:Nat) (b:C)
 | loop (b:C)
 | exit (id:Nat)
 | scope (b:C)
 | ret
 | cut (b:C)
 | bad
 | raw (c:Code)
 | lab (l:Nat)
 | gto (l:Nat)
 deriving Inhabited
abbrev sr (l:List Ins) (c:C):C:=.seq (.reg l) c
structure CallRes where
 val:PV
 st:List SE
 news:List SE
structure LogE where
 ids:List Nat
 ws:List Nat
 rm:Bool
 ks:List Nat
 ms:List Nat
 nj:Bool
 pu:Bool
 rd:Bool
 rl:List Nat
structure PS where
 n:Nat
 fr:Nat→Option PV
 st:Nat→Option SE
 ok:Prop
 log:Nat→Option LogE
def upd {α:Type} (f:Nat→Option α) (k:Nat) (v:α):Nat→Option α:=fun i=>match Nat.beq i k with | true=>some v | false=>f i
def newBase:Nat:=1000000000
structure Eff where
 val:PV
 side:List Prop
 wr:List (Nat×SE)
 nw:List SE
 kill:List Nat
 rm:List Nat
def Eff.pure (p:PV):Eff:=⟨p, [], [], [], [], []⟩
def Eff.side' (p:PV) (s:Prop):Eff:=⟨p, [s], [], [], [], []⟩
def inR (k:IntKind) (n:Int):Prop:=k.min≤n∧n≤k.max
def I.opr:I→List A
 | .mv x | .isn _ x | .clr _ x | .bx _ x | .ld _ _ x | .nc x | .un _ _ x | .cv _ _ x | .fa _ x | .fd _ _ _ x | .len x | .lens x | .cvb _ x | .cvs x | .ex x _=> [x]
 | .pick c a b=> [c,a,b]
 | .al _ | .alb _ _ | .mkm .. => []
 | .mpg _ _ _ _ _ x i=> [x,i]
 | .mpu _ _ _ _ x i v=> [x,i,v]
 | .bsx _ ps=>ps
 | .bd _ ps=>ps.map (·.2.2)
 | .bs _ _ ps=>ps
 | .st _ x v=> [x,v]
 | .bi _ _ x y | .bib _ x y | .eqa _ _ x y | .ia _ x y | .iaa _ _ x y | .ixa _ _ _ x y | .ixs x y | .app _ _ _ x y | .cpy _ x y | .mks _ _ _ _ x y=> [x,y]
 | .mx xs | .mn xs=>xs
 | .slc _ x lo hi | .slcs x lo hi=>x::(lo.toList++hi.toList)
 | .mf _ a b=>a++b
 | .call f xs=>f::xs
def PV.top:PV→List Nat
 | .os r=> [r]
 | .vw _ r _ _=> [r]
 | .rf _ r=> [r]
 | .pt r _ _=> [r]
 | _=> []
def PV.topV:PV→List Nat
 | .vw _ r _ _=> [r]
 | _=> []
def I.acc (i:I) (vals:List PV):List Nat:=
 match i with
 | .mv .. =>(vals.take 1).flatMap PV.topV
 | .ld .. | .ia .. | .len .. | .isn .. | .cvs .. | .mpg .. | .mpu .. =>(vals.take 1).flatMap PV.top
 | .st .. =>(vals.take 1).flatMap PV.top
 | .app .. | .cpy .. =>(vals.take 2).flatMap PV.top
 | .clr .. =>(vals.take 1).flatMap PV.top
 | .slc .. =>(vals.take 1).flatMap PV.top
 | .bs .. =>vals.flatMap fun p=>p.cells.flatMap PV.top
 | .call .. =>(PV.idsL vals).eraseDups
 | _=> []
def biI (w:Bool) (op:BinOp) (k:IntKind) (a b:Int):Option Eff:=
 let fit (n:Int):Option Eff:=if w then some (.pure (.int k (k.wrap n))) else some (.side' (.int k n) (inR k n))
 match op with
 | .add=>fit (a+b)
 | .sub=>fit (a - b)
 | .mul=>fit (a*b)
 | .quo=>if w then some (.side' (.int k (k.wrap (a.tdiv b))) (b≠0)) else some (.side' (.int k (a.tdiv b)) (b≠0∧inR k (a.tdiv b)))
 | .rem=>some (.side' (.int k (a.tmod b)) (b≠0))
 | .shr=>some (.side' (.int k (a / 2)) (b=1))
 | .or=>some (.side' (.int k ((a.toNat ||| b.toNat:Nat):Int)) ((0≤a∧a≤k.max)∧0≤b∧b≤k.max))
 | .xor=>some (.side' (.int k ((a.toNat ^^^ b.toNat:Nat):Int)) ((0≤a∧a≤k.max)∧0≤b∧b≤k.max))
 | .and=>some (.side' (.int k ((a.toNat &&& b.toNat:Nat):Int)) ((0≤a∧a≤k.max)∧0≤b∧b≤k.max))
 | .eql=>some (.pure (.bool (a==b)))
 | .neq=>some (.pure (.bool (a != b)))
 | .lss=>some (.pure (.bool (decide (a<b))))
 | .leq=>some (.pure (.bool (decide (a≤b))))
 | .gtr=>some (.pure (.bool (decide (b<a))))
 | .geq=>some (.pure (.bool (decide (b≤a))))
 | _=>none
def shfI (w:Bool) (op:BinOp) (k:IntKind) (a b:Int):Option Eff:=match op with
 | .shr=>some (.side' (.int k (a / 2 ^ b.toNat)) (0≤b∧b.toNat≤k.bits))
 | .shl=>if w then some (.side' (.int k (k.wrap (a*2 ^ b.toNat))) (0≤b∧b.toNat≤k.bits)) else some (.side' (.int k (a*2 ^ b.toNat)) (0≤b∧b.toNat≤k.bits∧inR k (a*2 ^ b.toNat)))
 | _=>none
def biV (w:Bool) (op:BinOp):PV→PV→Option Eff
 | .int k a, .int k' b=>if k=k' then biI w op k a b else shfI w op k a b
 | .str a, .str b=>match op with
   | .eql=>some (.pure (.bool (a==b)))
   | .neq=>some (.pure (.bool (!(a==b))))
   | .add=>some (.side' (.str (a++b)) (a.length+b.length≤9223372036854775807))
   | .lss=>some (.pure (.bool (Op.bytesLess a b)))
   | .leq=>some (.pure (.bool (Op.bytesLess a b || a==b)))
   | .gtr=>some (.pure (.bool (!(Op.bytesLess a b || a==b))))
   | .geq=>some (.pure (.bool (!(Op.bytesLess a b))))
   | _=>none
 | _,_=>none
def eqCell:Nat→PV→PV→Option Bool
 | 0, .int k a, .int k' b=>if k=k' then some (a==b) else none
 | 1, .bool a, .bool b=>some (a==b)
 | 2, .str a, .str b=>some (a==b)
 | _,_,_=>none
def eqCells:List Nat→List PV→List PV→Option Bool
 | [], [], []=>some true
 | k::ks,a::as,b::bs=>match eqCell k a b,eqCells ks as bs with
   | some x,some y=>some (x&&y)
   | _,_=>none
 | _,_,_=>none
def pickV:Bool→PV→PV→Option Eff
 | c, .bool a, .bool b=>some (.pure (.bool (bif c then a else b)))
 | c, .bool a, .cnd g (.bool b)=>some (.side' (.bool (bif c then a else b)) (c=false→g=true))
 | c, .cnd g (.bool a), .bool b=>some (.side' (.bool (bif c then a else b)) (c=true→g=true))
 | c, .bool a, .cnd _ .junk=>some (.side' (.bool a) (c=true))
 | c, .cnd _ .junk, .bool b=>some (.side' (.bool b) (c=false))
 | c, .cnd g (.bool a), .cnd g' (.bool b)=>some (.side' (.bool (bif c then a else b)) ((c=true→g=true)∧(c=false→g'=true)))
 | _,_,_=>none
mutual
def PV.norm:PV→Option PV
 | .agg cs=>match PV.normL cs with
   | some cs'=>some (.agg cs')
   | none=>none
 | .tup cs=>match PV.normL cs with
   | some cs'=>some (.tup cs')
   | none=>none
 | .rp τ cs=>match PV.normL cs with
   | some cs'=>some (.rp τ cs')
   | none=>none
 | .fn f a b=>match PV.normL a,PV.normL b with
   | some a',some b'=>some (.fn f a' b')
   | _,_=>none
 | .cnd g p=>match PV.norm p with
   | some p'=>some (.cnd g p')
   | none=>none
 | .int k n=>some (.int k n)
 | .bool b=>some (.bool b)
 | .str s=>some (.str s)
 | .sl o z n f=>some (.sl o z n f)
 | .nil z=>some (.nil z)
 | .os r=>some (.os r)
 | .vw h r lo n=>some (.vw h r lo n)
 | .rf m r=>some (.rf m r)
 | .mpv ks vks ka va h f=>some (.mpv ks vks ka va h f)
 | .pt r i j=>some (.pt r i j)
 | .raw v=>some (.raw v)
 | .junk=>some .junk
def PV.normL:List PV→Option (List PV)
 | []=>some []
 | p::ps=>match PV.norm p,PV.normL ps with
   | some p',some ps'=>some (p'::ps')
   | _,_=>none
end
def SE.norm:SE→Option SE
 | .box l=>match PV.normL l with
   | some l'=>some (.box l')
   | none=>none
 | .row τ e z n f=>some (.row τ e z n f)
 | .bld T e s=>some (.bld T e s)
def SE.normL:List SE→Option (List SE)
 | []=>some []
 | p::ps=>match SE.norm p,SE.normL ps with
   | some p',some ps'=>some (p'::ps')
   | _,_=>none
def asV (n:Nat) (agg:Bool) (cs:List PV):Option PV:=
 if cs.length=n then
  if agg then some (.agg cs) else match cs with
   | [c]=>some c
   | _=>none
 else none
def setAt (cs:List PV) (off:Nat) (new:List PV):List PV:=cs.take off++(new++cs.drop (off+new.length))
def fillV:List PV→List (Nat×Nat×A)→List PV→Option (List PV)
 | cs, [], []=>some cs
 | cs,(off,n,_)::ps,v::vs=>if v.cells.length=n∧off+n≤cs.length∧v.okCell=true then fillV (setAt cs off v.cells) ps vs else none
 | _,_,_=>none
def rowCell:PV→List SE→Option (PV×List SE)
 | .os _, .row o _ z n f::cs=>some (.sl o z n f,cs)
 | .vw _ _ lo m, .row o _ z _ f::cs=>some (.sl o z m (fun i=>f (lo+i)),cs)
 | .nil z,cs=>some (.sl 0 z 0 (fun _=> []),cs)
 | .int k n,cs=>some (.int k n,cs)
 | .bool b,cs=>some (.bool b,cs)
 | .str s,cs=>some (.str s,cs)
 | .sl o z n f,cs=>some (.sl o z n f,cs)
 | .fn f [] [],cs=>some (.fn f [] [],cs)
 | _,_=>none
def rowCells:List PV→List SE→Option (List PV×List SE)
 | [],cs=>some ([],cs)
 | p::ps,cs=>match rowCell p cs with
   | some (q,cs')=>match rowCells ps cs' with
     | some (qs,cs'')=>some (q::qs,cs'')
     | none=>none
   | none=>none
def rowsOf (z:Nat):List PV→List SE→Option (List (List PV))
 | [], []=>some []
 | [],_::_=>none
 | v::vs,cs=>if v.cells.length=z then match rowCells v.cells cs with
   | some (r,cs')=>match rowsOf z vs cs' with
     | some rs=>some (r::rs)
     | none=>none
   | none=>none
   else none
def appF (m:Nat) (f f':Nat→List PV):Nat→List PV:=fun i=>if i<m then f i else f' (i - m)
def srcRows:PV→List SE→Option (Nat×Nat×Nat×(Nat→List PV))
 | .sl o z n f, []=>some (o,z,n,f)
 | .nil z, []=>some (0,z,0,fun _=> [])
 | .os _, [.row o _ z n f]=>some (o,z,n,f)
 | .vw _ _ lo m, [.row o _ z _ f]=>some (o,z,m,fun i=>f (lo+i))
 | _,_=>none
def maxV (k:IntKind):Int→List PV→Option PV
 | m, []=>some (.int k m)
 | m, .int k' n::r=>if k'=k then maxV k (if n>m then n else m) r else none
 | _,_=>none
def minV (k:IntKind):Int→List PV→Option PV
 | m, []=>some (.int k m)
 | m, .int k' n::r=>if k'=k then minV k (if n<m then n else m) r else none
 | _,_=>none
def idx (ids:List Nat) (cs:List SE) (r:Nat):Option SE:=
 match ids,cs with
 | i::is,c::cs=>if i=r then some c else idx is cs r
 | _,_=>none
def boxNo (ids:List Nat) (cs:List SE) (k r:Nat):Option Nat:=
 match ids,cs with
 | i::is, .box _::cs=>if i=r then some k else boxNo is cs (k+1) r
 | i::is, .row .. ::cs=>if i=r then none else boxNo is cs k r
 | i::is, .bld .. ::cs=>if i=r then some k else boxNo is cs (k+1) r
 | _,_=>none
def lendT:Nat→Nat
 | 0=>1
 | n+1=>n+1
mutual
def lend (ids:List Nat) (cs:List SE):PV→Option PV
 | .os r=>match idx ids cs r with
   | some (.row τ _ z n f)=>if τ≤2 then some (.sl 2 z n f) else none
   | _=>none
 | .vw _ r lo n=>match idx ids cs r with
   | some (.row τ _ z _ f)=>if τ≤2 then some (.sl 2 z n (fun i=>f (lo+i))) else none
   | _=>none
 | .pt r i j=>match boxNo ids cs 0 r with
   | some k=>some (.pt k i j)
   | none=>none
 | .rf m r=>match boxNo ids cs 0 r with
   | some k=>some (.rf m k)
   | none=>none
 | .agg l=>match lendL ids cs l with
   | some l'=>some (.agg l')
   | none=>none
 | .fn f a b=>match lendL ids cs a,lendL ids cs b with
   | some a',some b'=>some (.fn f a' b')
   | _,_=>none
 | .sl τ z n f=>some (.sl (lendT τ) z n f)
 | .nil z=>some (.nil z)
 | .int k n=>some (.int k n)
 | .bool b=>some (.bool b)
 | .str s=>some (.str s)
 | .raw v=>some (.raw v)
 | .rp τ cs=>some (.rp (lendT τ) cs)
 | _=>none
def lendL (ids:List Nat) (cs:List SE):List PV→Option (List PV)
 | []=>some []
 | p::ps=>match lend ids cs p,lendL ids cs ps with
   | some q,some qs=>some (q::qs)
   | _,_=>none
end
def lendRps:List PV→Option (List PV)
 | []=>some []
 | p::ps=>match p,lendRps ps with
   | .rp τ cs,some qs=>some (.rp (lendT τ) cs::qs)
   | _,_=>none
def lendCell:PV→Option PV
 | .sl τ z n f=>some (.sl (lendT τ) z n f)
 | .nil z=>some (.nil z)
 | .int k n=>some (.int k n)
 | .bool b=>some (.bool b)
 | .str s=>some (.str s)
 | .rp τ cs=>some (.rp (lendT τ) cs)
 | .mpv ks vks ka va h f=>some (.mpv ks vks ka va h f)
 | .fn f [] caps=>match lendRps caps with
   | some caps'=>some (.fn f [] caps')
   | none=>none
 | _=>none
def lendCells:List PV→Option (List PV)
 | []=>some []
 | p::ps=>match lendCell p,lendCells ps with
   | some q,some qs=>some (q::qs)
   | _,_=>none
def boxesOf:List Nat→List SE→Option (List (Nat×SE))
 | i::is, .box l::cs=>match lendCells l,boxesOf is cs with
   | some l',some r=>some ((i, .box l')::r)
   | _,_=>none
 | _::is, .row .. ::cs=>boxesOf is cs
 | i::is, .bld T e s::cs=>match boxesOf is cs with
   | some r=>some ((i, .bld T e s)::r)
   | none=>none
 | _,_=>some []
def SE.isRow:SE→Bool
 | .row .. =>true
 | _=>false
mutual
def PV.freshB:PV→Bool
 | .sl τ _ _ _=>decide (τ≤1)
 | .rp τ _=>decide (τ≤1)
 | .agg l=>PV.freshL l
 | .tup l=>PV.freshL l
 | .fn _ a b=>PV.freshL a&&PV.freshL b
 | .cnd _ _=>false
 | .vw _ _ _ _=>false
 | _=>true
def PV.freshL:List PV→Bool
 | []=>true
 | p::ps=>PV.freshB p&&PV.freshL ps
end
def SE.freshB:SE→Bool
 | .box l=>PV.freshL l
 | .row τ _ _ _ _=>decide (τ≤1)
 | .bld _ _ _=>true
def fixR:SE→Bool
 | .row τ _ _ _ _=>Nat.ble 3 τ
 | _=>false
def fixAny:List SE→Bool
 | []=>false
 | e::l=>match fixR e with
   | true=>true
   | false=>fixAny l
def SE.kind:SE→Nat
 | .box _=>0
 | .row .. =>1
 | .bld .. =>2
def sameKinds:List SE→List SE→Bool
 | [], []=>true
 | a::as,b::bs=>Nat.beq a.kind b.kind&&sameKinds as bs
 | _,_=>false
def SE.ren (ρ:Nat→Nat):SE→SE
 | .box l=> .box (PV.renL ρ l)
 | .row o e z n f=> .row o e z n f
 | .bld T e s=> .bld T e s
def backName (bs:List (Nat×SE)) (d:Nat) (r:Nat):Nat:=if newBase≤r then d+(r - newBase) else ((bs[r]?).map (·.1)).getD 0
def natIn (n:Nat):List Nat→Bool
 | []=>false
 | x::l=>match Nat.beq n x with
   | true=>true
   | false=>natIn n l
def mpB:List PV→Bool
 | [.mpv _ _ _ _ _ _]=>true
 | _=>false
def rpCells:List PV→Option (List PV)
 | []=>some []
 | p::ps=>match p.unnil.flat,Nat.ble p.unnil.tau 2,rpCells ps with
   | true,true,some qs=>some (p.unnil::qs)
   | _,_,_=>none
mutual
def rdP (ids:List Nat) (cs:List SE):PV→Option PV
 | .pt r 0 0=>match idx ids cs r with
   | some (.box l)=>match mpB l,rpCells l with
     | false,some cells=>some (.rp 2 cells)
     | _,_=>none
   | _=>none
 | .fn f [] caps=>match rdL ids cs caps with
   | some caps'=>some (.fn f [] caps')
   | none=>none
 | p=>lend [] [] p
def rdL (ids:List Nat) (cs:List SE):List PV→Option (List PV)
 | []=>some []
 | p::ps=>match rdP ids cs p,rdL ids cs ps with
   | some q,some qs=>some (q::qs)
   | _,_=>none
end
def noRow:List SE→Bool
 | []=>true
 | .row .. ::_=>false
 | _::l=>noRow l
def rowOf:List Nat→List SE→Option (Nat×Nat×TypeId×Nat×Nat×(Nat→List PV))
 | i::_, .row τ e z n f::cs=>match noRow cs with
   | true=>some (i,τ,e,z,n,f)
   | false=>none
 | _::is,_::cs=>rowOf is cs
 | _,_=>none
def givP (r:Nat) (ids:List Nat) (cs:List SE):PV→Option PV
 | .os r'=>match Nat.beq r r' with
   | true=>some (.os 0)
   | false=>none
 | p=>rdP ids cs p
def givL (r:Nat) (ids:List Nat) (cs:List SE):List PV→Option (List PV)
 | []=>some []
 | p::ps=>match givP r ids cs p,givL r ids cs ps with
   | some q,some qs=>some (q::qs)
   | _,_=>none
def givT (id:FuncId) (τ:Nat):Nat:=match natIn id writers with
 | true=>3
 | false=>lendT τ
def givA (id:FuncId) (args:List PV) (ids:List Nat) (cs:List SE):Option (FuncId×List PV×List (Nat×SE)):=match rowOf ids cs with
 | some (r,τ,e,z,n,f)=>match givL r ids cs args with
   | some a=>match Nat.ble τ 3 with
     | true=>some (id,a, [(r, .row (givT id τ) e z n f)])
     | false=>none
   | none=>none
 | none=>none
def readA (id:FuncId) (args:List PV) (ids:List Nat) (cs:List SE):Option (FuncId×List PV×List (Nat×SE)):=match rdL ids cs args with
 | some args'=>some (id,args', [])
 | none=>none
def PV.plain:PV→Bool
 | .int _ _ | .bool _ | .str _=>true
 | _=>false
def callA (f:PV) (args:List PV) (ids:List Nat) (cs:List SE):Option (FuncId×List PV×List (Nat×SE)):=
 match f with
 | .fn (.func id) first caps=>match natIn id givers with
   | true=>givA id (first++args++caps) ids cs
   | false=>match natIn id readers with
     | true=>readA id (first++args++caps) ids cs
     | false=>match lendL ids cs (first++args++caps),boxesOf ids cs with
       | some args',some bs=>some (id,args',bs)
       | _,_=>none
 | _=>none
def oneB:List SE→Bool
 | [_]=>true
 | _=>false
def givOk (cs:List SE) (τ:Nat):Bool:=match oneB cs with
 | true=>true
 | false=>Nat.ble τ 1
def fixT (cs:List SE) (τ:Nat):Nat:=match fixAny cs with
 | true=>3
 | false=>τ
def givV (cs:List SE) (r:Nat) (s:Prop):PV→List SE→List SE→Option Eff
 | .os b, [], [.row τ e z n f]=>match Nat.beq b newBase,givOk cs τ,Nat.ble τ 2 with
   | true,true,true=>some ⟨.os r, [s], [(r, .row τ e z n f)], [], [r], []⟩
   | _,_,_=>none
 | .tup [], [.row τ e z n f], []=>match givOk cs τ,Nat.ble τ 2 with
   | true,true=>some ⟨.tup [], [s], [(r, .row (fixT cs τ) e z n f)], [], [], []⟩
   | _,_=>none
 | _,_,_=>none
def callV (S:FuncId→List PV→List SE→CallRes→Prop) (d:Nat) (c:CallRes) (f:PV) (args:List PV) (ids:List Nat) (cs:List SE):Option Eff:=
 match callA f args ids cs with
 | some (id,args',bs)=>match natIn id givers with
   | true=>givV cs ((bs.map (·.1)).headD 0) (S id args' (bs.map (·.2)) c) c.val c.st c.news
   | false=>match natIn id readers with
     | true=>match c.val.plain,c.st,c.news with
       | true, [], []=>some ⟨c.val, [S id args' (bs.map (·.2)) c], [], [], [], []⟩
       | _,_,_=>none
     | false=>if c.news.length≤16∧c.st.length=bs.length∧sameKinds (bs.map (·.2)) c.st=true∧c.st.any SE.isRow=false∧bs.length≤newBase∧fixAny c.news=false∧(cs.any SE.isRow=true→PV.freshB c.val=true∧c.st.all SE.freshB=true∧c.news.all SE.freshB=true) then
       some ⟨PV.ren (backName bs d) c.val, [S id args' (bs.map (·.2)) c],(bs.map (·.1)).zip (c.st.map (SE.ren (backName bs d))),c.news.map (SE.ren (backName bs d)), [], []⟩
       else none
 | none=>none
def eMv:List PV→List SE→Option Eff
 | [.vw true r lo h], [.row τ e z _ f]=>if τ≤2 then some ⟨.os r, [], [(r, .row τ e z h f)], [], [r], []⟩ else none
 | [.vw true r lo h],_=>none
 | [p],_=>some (.pure p)
 | _,_=>none
def ePick:List PV→Option Eff
 | [.bool c,a,b]=>pickV c a b
 | _=>none
def eBx (d n:Nat):List PV→Option Eff
 | [p]=>if p.cells.length=n∧p.okCell=true then some ⟨.pt d 0 0, [], [], [.box p.cells], [], []⟩ else none
 | _=>none
def eBd (zero:List PV) (parts:List (Nat×Nat×A)) (vs:List PV):Option Eff:=match fillV zero parts vs with
 | some cs=>some (.pure (.agg cs))
 | none=>none
def eBs (d e z:Nat) (vs:List PV) (ids:List Nat) (cs:List SE):Option Eff:=match rowsOf z vs cs with
 | some rows=>if tauR rows≤2 then some ⟨.os d, [], [], [.row (tauR rows) e z rows.length (fun i=>rows.getD i [])],ids,ids⟩ else none
 | none=>none
def rdT (τ:Nat):Nat:=match Nat.ble τ 2 with
 | true=>τ
 | false=>2
def eLd (n:Nat) (agg:Bool):List PV→List SE→Option Eff
 | [.pt _ i j], [.box cells]=>if i=0∧mpB cells=false then match asV n agg ((cells.drop j).take n) with
   | some p=>some (.pure p)
   | none=>none
   else none
 | [.pt _ i j], [.row τ _ _ m f]=>match asV n agg ((((f i).drop j).take n).map (PV.mark (rdT τ))) with
   | some p=>some (.side' p (i<m))
   | none=>none
 | [.rp τ cs],_=>match asV n agg ((cs.take n).map (PV.mark τ)) with
   | some p=>some (.pure p)
   | none=>none
 | _,_=>none
def eSt (n:Nat):List PV→List SE→Option Eff
 | [.pt r i j,v], [.box cells]=>if (i=0∧mpB cells=false)∧v.cells.length=n∧j+n≤cells.length∧v.okCell=true then
  some ⟨.junk, [], [(r, .box (setAt cells j v.cells))], [], [], []⟩ else none
 | [.pt r i j,v], [.row τ e z m f]=>if v.cells.length=n∧j+n≤z∧v.cells.all PV.flat=true∧tauL v.cells≤2 then
  some ⟨.junk, [i<m], [(r, .row (max τ (tauL v.cells)) e z m (fun k=>if k=i then setAt (f i) j v.cells else f k))], [], [], []⟩ else none
 | _,_=>none
def eClr (zs:List PV):List PV→List SE→Option Eff
 | [.vw _ r lo n], [.row τ e z m f]=>if zs.length=z∧zs.all PV.flat=true∧tauL zs=0 then
  some ⟨.tup [], [lo+n≤m], [(r, .row τ e z m (fun k=>if lo≤k∧k<lo+n then zs else f k))], [], [], []⟩ else none
 | _,_=>none
def plainL:List PV→Bool
 | []=>true
 | p::ps=>match p.plain with
   | true=>plainL ps
   | false=>false
def plainR (g:Nat→List PV):Nat→Bool
 | 0=>true
 | k+1=>match plainR g k with
   | true=>plainL (g k)
   | false=>false
def cpT (τ τ':Nat) (g:Nat→List PV) (k:Nat):Nat:=match plainR g k with
 | true=>τ
 | false=>max τ τ'
def eCpy (z:Nat):List PV→List SE→Option Eff
 | [.os r,y], .row τ e z1 m f::cs=>match srcRows y cs with
   | some (τ',z2,m',g)=>if z=z1∧z=z2∧τ'≤2 then
    some ⟨.int .i64 ((min m' m:Nat):Int), [], [(r, .row (cpT τ τ' g (min m' m)) e z m (fun k=>if k<min m' m then g k else f k))], [], [], []⟩ else none
   | none=>none
 | _,_=>none
def eNc:List PV→Option Eff
 | [.pt r i j]=>some (.pure (.pt r i j))
 | [.rp τ cs]=>some (.pure (.rp τ cs))
 | [.fn (.func f) a b]=>some (.pure (.fn (.func f) a b))
 | _=>none
def eBi (w:Bool) (op:BinOp):List PV→Option Eff
 | [a,b]=>biV w op a b
 | _=>none
def eBib (neg:Bool):List PV→Option Eff
 | [.bool a, .bool b]=>some (.pure (.bool (if neg then !(a==b) else (a==b))))
 | _=>none
def eIsn (neg:Bool):List PV→List SE→Option Eff
 | [.nil _],_=>some (.pure (.bool (!neg)))
 | [.sl _ _ n _],_=>some (.side' (.bool neg) (0<n))
 | [.os _], [.row _ _ _ n _]=>some (.side' (.bool neg) (0<n))
 | _,_=>none
def eEqa (neg:Bool) (ks:List Nat):List PV→Option Eff
 | [.agg a, .agg b]=>match eqCells ks a b with
  | some e=>some (.pure (.bool (if neg then !e else e)))
  | none=>none
 | _=>none
def eUn (w:Bool):UnOp→List PV→Option Eff
 | .neg, [.int k n]=>biI w .sub k 0 n
 | .not, [.bool b]=>some (.pure (.bool !b))
 | _,_=>none
def eCv (w:Bool) (k:IntKind):List PV→Option Eff
 | [.int _ n]=>if w then some (.pure (.int k (k.wrap n))) else some (.side' (.int k n) (inR k n))
 | _=>none
def eFa (off:Nat):List PV→Option Eff
 | [.pt r i j]=>some (.pure (.pt r i (j+off)))
 | [.rp τ cs]=>some (.pure (.rp τ (cs.drop off)))
 | _=>none
def eFd (off n:Nat) (agg:Bool):List PV→Option Eff
 | [.agg cs]=>match asV n agg ((cs.drop off).take n) with
   | some p=>some (.pure p)
   | none=>none
 | _=>none
def eIa (z:Nat):List PV→List SE→Option Eff
 | [.sl τ z' m f, .int _ i],_=>if z=z' then some (.side' (.rp τ (f i.toNat)) (0≤i∧i.toNat<m)) else none
 | [.os r, .int _ i], [.row _ _ z' m _]=>if z=z' then some (.side' (.pt r i.toNat 0) (0≤i∧i.toNat<m)) else none
 | [.vw _ r lo n, .int _ i], [.row _ _ z' _ _]=>if z=z' then some (.side' (.pt r (lo+i.toNat) 0) (0≤i∧i.toNat<n)) else none
 | [.rf (some (z',n)) r, .int _ i],_=>if z=z' then some (.side' (.pt r 0 (i.toNat*z)) (0≤i∧i.toNat<n)) else none
 | _,_=>none
def eIaa (len z:Nat):List PV→Option Eff
 | [.pt r a b, .int _ i]=>some (.side' (.pt r a (b+i.toNat*z)) (0≤i∧i.toNat<len))
 | [.rp τ cs, .int _ i]=>some (.side' (.rp τ (cs.drop (i.toNat*z))) (0≤i∧i.toNat<len))
 | _=>none
def eIxa (len z:Nat) (agg:Bool):List PV→Option Eff
 | [.agg cs, .int _ i]=>match asV z agg ((cs.drop (i.toNat*z)).take z) with
   | some p=>some (.side' p (0≤i∧i.toNat<len))
   | none=>none
 | _=>none
def eIxs:List PV→Option Eff
 | [.str s, .int _ i]=>some (.side' (.int .u8 ((s.getD i.toNat 0).toNat:Int)) (0≤i∧i.toNat<s.length))
 | _=>none
def eLen:List PV→List SE→Option Eff
 | [.sl _ _ m _],_=>some (.pure (.int .i64 (m:Int)))
 | [.nil _],_=>some (.pure (.int .i64 0))
 | [.os _], [.row _ _ _ m _]=>some (.pure (.int .i64 (m:Int)))
 | [.vw _ _ _ m],_=>some (.pure (.int .i64 (m:Int)))
 | [.rf (some (_,m)) _],_=>some (.pure (.int .i64 (m:Int)))
 | _,_=>none
def eLens:List PV→Option Eff
 | [.str s]=>some (.pure (.int .i64 (s.length:Int)))
 | _=>none
def eApp (d e z bytes:Nat):List PV→List SE→Option Eff
 | [.vw true r _ h,y], .row τ e' z' _ f::cs=>match srcRows y cs with
   | some (τ',z'',m',f')=>if e=e'∧z=z'∧z=z''∧max τ τ'≤2 then
    some ⟨.os r, [(h+m')*bytes≤140737488355328,h+m'≤maxLen], [(r, .row (max τ τ') e z (h+m') (appF h f f'))], [], [r], []⟩ else none
   | none=>none
 | [.os r,y], .row τ e' z' m f::cs=>match srcRows y cs with
   | some (τ',z'',m',f')=>if e=e'∧z=z'∧z=z''∧max τ τ'≤2 then
    some ⟨.os r, [(m+m')*bytes≤140737488355328,m+m'≤maxLen], [(r, .row (max τ τ') e z (m+m') (appF m f f'))], [], [r], []⟩ else none
   | none=>none
 | [.nil _,y],cs=>match srcRows y cs with
   | some (τ',z'',m',f')=>if z=z''∧τ'≤2 then
    some ⟨.os d, [m'*bytes≤140737488355328,m'≤maxLen], [], [.row τ' e z m' f'], [], []⟩ else none
   | none=>none
 | _,_=>none
def eMx:List PV→Option Eff
 | .int k n::r=>match maxV k n r with
   | some p=>some (.pure p)
   | none=>none
 | _=>none
def eMn:List PV→Option Eff
 | .int k n::r=>match minV k n r with
   | some p=>some (.pure p)
   | none=>none
 | _=>none
def eSlc00 (z:Nat):List PV→Option Eff
 | [.sl τ z' m f]=>if z=z' then some (.pure (.sl τ z m f)) else none
 | _=>none
def eSlc10 (z:Nat):List PV→List SE→Option Eff
 | [.sl τ z' m f, .int _ l],_=>if z=z' then some (.side' (.sl τ z (m - l.toNat) (fun i=>f (l.toNat+i))) (0≤l∧l.toNat≤m)) else none
 | [.os r, .int _ l], [.row _ _ z' m _]=>if z=z' then some (.side' (.vw false r l.toNat (m - l.toNat)) (0≤l∧l.toNat≤m)) else none
 | _,_=>none
def eSlc01 (z:Nat):List PV→List SE→Option Eff
 | [.sl τ z' m f, .int _ h],_=>if z=z' then some (.side' (.sl τ z h.toNat f) (0≤h∧h.toNat≤m)) else none
 | [.os r, .int _ h], [.row _ _ z' m _]=>if z=z' then some (.side' (.vw true r 0 h.toNat) (0≤h∧h.toNat≤m)) else none
 | _,_=>none
def eSlc11 (z:Nat):List PV→Option Eff
 | [.sl τ z' m f, .int _ l, .int _ h]=>if z=z' then some (.side' (.sl τ z (h.toNat - l.toNat) (fun i=>f (l.toNat+i))) (0≤l∧l.toNat≤h.toNat∧0≤h∧h.toNat≤m)) else none
 | _=>none
def eSlc (z:Nat):Bool→Bool→List PV→List SE→Option Eff
 | false,false,vs,_=>eSlc00 z vs
 | true,false,vs,cs=>eSlc10 z vs cs
 | false,true,vs,cs=>eSlc01 z vs cs
 | true,true,vs,_=>eSlc11 z vs
def eSlcs00:List PV→Option Eff
 | [.str s]=>some (.pure (.str s))
 | _=>none
def eSlcs10:List PV→Option Eff
 | [.str s, .int _ l]=>some (.side' (.str (s.drop l.toNat)) (0≤l∧l.toNat≤s.length))
 | _=>none
def eSlcs01:List PV→Option Eff
 | [.str s, .int _ h]=>some (.side' (.str (s.take h.toNat)) (0≤h∧h.toNat≤s.length))
 | _=>none
def eSlcs11:List PV→Option Eff
 | [.str s, .int _ l, .int _ h]=>some (.side' (.str ((s.take h.toNat).drop l.toNat)) (0≤l∧l.toNat≤h.toNat∧0≤h∧h.toNat≤s.length))
 | _=>none
def eSlcs:Bool→Bool→List PV→Option Eff
 | false,false=>eSlcs00
 | true,false=>eSlcs10
 | false,true=>eSlcs01
 | true,true=>eSlcs11
def eMks (d e z bytes:Nat) (zero:List PV):List PV→Option Eff
 | [.int _ n, .int _ c]=>if zero.length=z∧zero.all PV.flat=true∧tauL zero=0 then
  some ⟨.os d, [0≤n,n≤c,c*bytes≤140737488355328,c≤maxLen], [], [.row 0 e z n.toNat (fun _=>zero)], [], []⟩ else none
 | _=>none
def eEx (i:Nat):List PV→Option Eff
 | [.tup vs]=>match vs[i]? with
   | some p=>some (.pure p)
   | none=>none
 | _=>none
def eCvb (d e:Nat):List PV→Option Eff
 | [.str s]=>some ⟨.os d, [s.length≤maxLen], [], [.row 0 e 1 s.length (fun i=> [.int .u8 ((s.getD i 0).toNat:Int)])], [], []⟩
 | _=>none
def byteOf:List PV→UInt8
 | [.int _ n]=>UInt8.ofNat n.toNat
 | _=>0
def strOf (n:Nat) (f:Nat→List PV):List UInt8:=(List.range n).map fun i=>byteOf (f i)
def areBytes (n:Nat) (f:Nat→List PV):Prop:=∀i,i<n→∃x:UInt8,f i= [.int .u8 (x.toNat:Int)]
def eCvs:List PV→List SE→Option Eff
 | [p],cs=>match srcRows p cs with
   | some (_,z,n,f)=>if z=1 then some (.side' (.str (strOf n f)) (areBytes n f)) else none
   | none=>none
 | _,_=>none
def kkB:KK→KK→Bool
 | .i a, .i b=>decide (a=b)
 | .b, .b=>true
 | .s, .s=>true
 | _,_=>false
def kksB:List KK→List KK→Bool
 | [], []=>true
 | x::xs,y::ys=>match kkB x y with
   | true=>kksB xs ys
   | false=>false
 | _,_=>false
def eqBB:Bool→Bool→Bool
 | true,true=>true
 | false,false=>true
 | _,_=>false
def okC:KK→PC→Bool
 | .i _, .i _=>true
 | .b, .b _=>true
 | .s, .s _=>true
 | _,_=>false
def okK:List KK→List PC→Bool
 | [], []=>true
 | k::ks,c::cs=>match okC k c with
   | true=>okK ks cs
   | false=>false
 | _,_=>false
def ofPV:KK→PV→Option PC
 | .i k, .int k' n=>if k=k' then some (.i n) else none
 | .b, .bool x=>some (.b x)
 | .s, .str l=>some (.s l)
 | _,_=>none
def ofPVs:List KK→List PV→Option (List PC)
 | [], []=>some []
 | k::ks,p::ps=>match ofPV k p,ofPVs ks ps with
   | some c,some cs=>some (c::cs)
   | _,_=>none
 | _,_=>none
def keyC (ks:List KK):Bool→PV→Option (List PC)
 | true, .agg cs=>ofPVs ks cs
 | true,_=>none
 | false,p=>ofPVs ks [p]
def eqC:PC→PC→Bool
 | .i a, .i b=>a==b
 | .b a, .b b=>a==b
 | .s a, .s b=>a==b
 | _,_=>false
def eqK:List PC→List PC→Bool
 | [], []=>true
 | x::xs,y::ys=>eqC x y&&eqK xs ys
 | _,_=>false
def intP:PC→Int
 | .i n=>n
 | _=>0
def boolP:PC→Bool
 | .b x=>x
 | _=>false
def strP:PC→List UInt8
 | .s l=>l
 | _=> []
def toPV:KK→PC→PV
 | .i k,p=> .int k (intP p)
 | .b,p=> .bool (boolP p)
 | .s,p=> .str (strP p)
def zeroK:KK→PC
 | .i _=> .i 0
 | .b=> .b false
 | .s=> .s []
def zeroKs:List KK→List PC
 | []=> []
 | k::ks=>zeroK k::zeroKs ks
def outC:List KK→List PC→List PV
 | [],_=> []
 | k::ks,cs=>toPV k (cs.headD default)::outC ks cs.tail
def outV (ks:List KK):Bool→List PC→Option PV
 | true,cs=>some (.agg (outC ks cs))
 | false,cs=>match outC ks cs with
   | [c]=>some c
   | _=>none
def sameMp (ks vks:List KK) (ka va:Bool) (ks' vks':List KK) (ka' va':Bool):Bool:=match kksB ks ks',kksB vks vks',eqBB ka ka',eqBB va va' with
 | true,true,true,true=>true
 | _,_,_,_=>false
def eMkm (d:Nat) (ks vks:List KK) (ka va:Bool):List PV→Option Eff
 | []=>some ⟨.rf none d, [], [], [.box [.mpv ks vks ka va (fun _=>false) (fun _=>zeroKs vks)]], [], []⟩
 | _=>none
def eMpg (ks vks:List KK) (ka va ok:Bool):List PV→List SE→Option Eff
 | [.rf none _,key], [.box [.mpv ks' vks' ka' va' h f]]=>match sameMp ks vks ka va ks' vks' ka' va',keyC ks ka key with
   | true,some kc=>match outV vks va (f kc) with
     | some v=>match ok with
       | true=>some (.pure (.tup [v, .bool (h kc)]))
       | false=>some (.pure v)
     | none=>none
   | _,_=>none
 | _,_=>none
def eMpu (ks vks:List KK) (ka va:Bool):List PV→List SE→Option Eff
 | [.rf none r,key,v], [.box [.mpv ks' vks' ka' va' h f]]=>match sameMp ks vks ka va ks' vks' ka' va',keyC ks ka key,keyC vks va v with
   | true,some kc,some vc=>some ⟨.junk, [], [(r, .box [.mpv ks vks ka va (fun c=>eqK c kc || h c) (fun c=>bif eqK c kc then vc else f c)])], [], [], []⟩
   | _,_,_=>none
 | _,_=>none
def allOne:List PV→Bool
 | []=>true
 | p::ps=>match p with
   | .pt _ _ _=>allOne ps
   | _=>false
def eBsx (d z:Nat) (vs:List PV):Option Eff:=match Nat.beq z 1,allOne vs with
 | true,true=>some ⟨.rf (some (1,vs.length)) d, [], [], [.box vs], [], []⟩
 | _,_=>none
def eCall (S:FuncId→List PV→List SE→CallRes→Prop) (c:CallRes) (d:Nat):List PV→List Nat→List SE→Option Eff
 | f::args,ids,cs=>callV S d c f args ids cs
 | _,_,_=>none
def eff (S:FuncId→List PV→List SE→CallRes→Prop) (c:CallRes) (d:Nat) (i:I) (vs:List PV) (ids:List Nat) (cs:List SE):Option Eff:=match i with
 | .mv _=>eMv vs cs
 | .pick _ _ _=>ePick vs
 | .al cells=>match vs with
   | []=>some ⟨.pt d 0 0, [], [], [.box cells], [], []⟩
   | _=>none
 | .alb T e=>match vs with
   | []=>some ⟨.pt d 0 0, [], [], [.bld T e []], [], []⟩
   | _=>none
 | .bx n _=>eBx d n vs
 | .bd zero parts=>eBd zero parts vs
 | .bs e z _=>eBs d e z vs ids cs
 | .ld n agg _=>eLd n agg vs cs
 | .st n _ _=>eSt n vs cs
 | .nc _=>eNc vs
 | .bi w op _ _=>eBi w op vs
 | .bib neg _ _=>eBib neg vs
 | .isn neg _=>eIsn neg vs cs
 | .eqa neg ks _ _=>eEqa neg ks vs
 | .un w op _=>eUn w op vs
 | .cv w k _=>eCv w k vs
 | .fa off _=>eFa off vs
 | .fd off n agg _=>eFd off n agg vs
 | .ia z _ _=>eIa z vs cs
 | .iaa len z _ _=>eIaa len z vs
 | .ixa len z agg _ _=>eIxa len z agg vs
 | .ixs _ _=>eIxs vs
 | .len _=>eLen vs cs
 | .lens _=>eLens vs
 | .app e z bytes _ _=>eApp d e z bytes vs cs
 | .clr zs _=>eClr zs vs cs
 | .cpy z _ _=>eCpy z vs cs
 | .mx _=>eMx vs
 | .mn _=>eMn vs
 | .slc z _ lo hi=>eSlc z lo.isSome hi.isSome vs cs
 | .slcs _ lo hi=>eSlcs lo.isSome hi.isSome vs
 | .mks e z bytes zero _ _=>eMks d e z bytes zero vs
 | .ex _ i=>eEx i vs
 | .cvb e _=>eCvb d e vs
 | .cvs _=>eCvs vs cs
 | .mf f first _=>some (.pure (.fn f (vs.take first.length) (vs.drop first.length)))
 | .mkm ks vks ka va=>eMkm d ks vks ka va vs
 | .mpg ks vks ka va ok _ _=>eMpg ks vks ka va ok vs cs
 | .mpu ks vks ka va _ _ _=>eMpu ks vks ka va vs cs
 | .bsx z _=>eBsx d z vs
 | .call _ _=>eCall S c d vs ids cs
def A.val (fr:Nat→Option PV):A→Option PV
 | .t n=>fr n
 | .c p=>some p
def valL (fr:Nat→Option PV):List A→Option (List PV)
 | []=>some []
 | a::r=>match A.val fr a,valL fr r with
   | some p,some ps=>some (p::ps)
   | _,_=>none
def guardV (fr:Nat→Option PV):Option (Nat×Bool)→Option Bool
 | none=>some true
 | some (t,want)=>match fr t with
   | some (.bool b)=>some (b==want)
   | some (.cnd g (.bool b))=>some ((b==want)&&g)
   | _=>none
def stripL (G:Bool):List PV→List Prop×List PV
 | []=>([], [])
 | .cnd g p::ps=>((G=true→g=true)::(stripL G ps).1,p::(stripL G ps).2)
 | p::ps=>((stripL G ps).1,p::(stripL G ps).2)
def getL (st:Nat→Option SE):List Nat→Option (List SE)
 | []=>some []
 | r::rs=>match st r,getL st rs with
   | some e,some es=>some (e::es)
   | _,_=>none
mutual
def PV.void (ks:List Nat):PV→PV
 | .os r=>if r∈ks then .junk else .os r
 | .vw h r lo n=>if r∈ks then .junk else .vw h r lo n
 | .rf m r=>if r∈ks then .junk else .rf m r
 | .mpv ks' vks ka va h f=> .mpv ks' vks ka va h f
 | .pt r i j=>if r∈ks then .junk else .pt r i j
 | .agg cs=> .agg (PV.voidL ks cs)
 | .tup cs=> .tup (PV.voidL ks cs)
 | .fn f a b=> .fn f (PV.voidL ks a) (PV.voidL ks b)
 | .cnd g p=> .cnd g (PV.void ks p)
 | .int k n=> .int k n
 | .bool b=> .bool b
 | .str s=> .str s
 | .sl o z n f=> .sl o z n f
 | .nil z=> .nil z
 | .rp o cs=> .rp o cs
 | .raw v=> .raw v
 | .junk=> .junk
def PV.voidL (ks:List Nat):List PV→List PV
 | []=> []
 | p::ps=>PV.void ks p::PV.voidL ks ps
end
def SE.void (ks:List Nat):SE→SE
 | .box l=> .box (PV.voidL ks l)
 | .row τ e z n f=> .row τ e z n f
 | .bld T e s=> .bld T e s
def voidF (ks:List Nat) (fr:Nat→Option PV):Nat→Option PV:=fun t=>(fr t).map (PV.void ks)
def voidS (ks:List Nat) (st:Nat→Option SE):Nat→Option SE:=fun t=>(st t).map (SE.void ks)
def rmS (ks:List Nat) (st:Nat→Option SE):Nat→Option SE:=fun t=>if t∈ks then none else st t
def wrS (ws:List (Nat×SE)) (st:Nat→Option SE):Nat→Option SE:=match ws with
 | []=>st
 | (k,e)::r=>wrS r (upd st k e)
def nwS (d:Nat) (es:List SE) (st:Nat→Option SE):Option (Nat→Option SE):=match es with
 | []=>some st
 | e::r=>match st d with
   | none=>nwS (d+1) r (upd st d e)
   | some _=>none
def newSt (d:Nat) (kill rm:List Nat) (wr:List (Nat×SE)) (nw:List SE) (st:Nat→Option SE):Option (Nat→Option SE):=
 match kill,rm,wr,nw with
 | [], [], [], []=>some st
 | [], [], [(k,e)], []=>match SE.norm e with
   | some e'=>some (upd st k e')
   | none=>none
 | [], [], [], [e]=>match SE.norm e,st d with
   | some e',none=>some (upd st d e')
   | _,_=>none
 | kill,rm,wr,nw=>nwS d nw (wrS wr (rmS rm (voidS kill st)))
def pinOK:List Nat→Bool
 | []=>true
 | 0::rs=>pinOK rs
 | (r+1)::rs=>match Nat.ble 15 r with
   | true=>pinOK rs
   | false=>false
def newFr (kill:List Nat) (fr:Nat→Option PV):Option (Nat→Option PV):=
 match kill with
 | []=>some fr
 | ks=>match pinOK ks with
   | true=>some (voidF ks fr)
   | false=>none
def PV.isCnd:PV→Bool
 | .cnd _ _=>true
 | _=>false
def stripS (G:Bool) (vs:List PV):List Prop×List PV:=match vs.any PV.isCnd with
 | false=>([],vs)
 | true=>stripL G vs
def stripI (i:I) (G:Bool) (vs:List PV):List Prop×List PV:=match i with
 | .pick _ _ _=>match vs with
   | .cnd g p::r=>([G=true→g=true],p::r)
   | vs=>([],vs)
 | _=>stripS G vs
def okO (ok:Prop):List Prop→Option Prop
 | []=>some ok
 | p::ps=>okO (ok∧p) ps
def okG (G:Bool) (ok:Prop):List Prop→Option Prop
 | []=>some ok
 | p::ps=>okG G (ok∧(G=true→p)) ps
def logO (lg:Bool) (log:Nat→Option LogE) (i:Nat) (ids:List Nat) (vs:List PV) (cs:List SE) (val:PV) (wr:List (Nat×SE)) (nw:List SE) (kill rm:List Nat):Option (Nat→Option LogE):=
 match lg with
 | false=>some log
 | true=>some (upd log i ⟨ids,wr.map (·.1), !rm.isEmpty,kill,PV.idsL vs++(SE.idsL cs++(val.ids++(SE.idsL (wr.map (·.2))++SE.idsL nw))),PV.njL vs&&SE.njL cs,ids.isEmpty&&(wr.isEmpty&&(nw.isEmpty&&(kill.isEmpty&&rm.isEmpty))),wr.isEmpty&&(nw.isEmpty&&(kill.isEmpty&&rm.isEmpty)),rm⟩)
def logCs:I→List SE→PV→List SE
 | .ld _ _ _,_,v=> [.box [v]]
 | _,cs,_=>cs
def stepI (S:FuncId→List PV→List SE→CallRes→Prop) (lg:Bool) (c:CallRes) (i:Nat) (o:Ins) (s:PS):Option PS:=
 match s,o with
 | ⟨n,fr,st,ok,log⟩,⟨od,oid,og,oi⟩=>
 match guardV fr og with
 | none=>none
 | some G=>
   match valL fr oi.opr with
   | none=>none
   | some vs0=>
     match stripI oi G vs0 with
     | (sd,vs)=>
     match getL st (oi.acc vs) with
     | none=>none
     | some cs=>
       match eff S c oid oi vs (oi.acc vs) cs with
       | none=>none
       | some ⟨val,side,wr,nw,kill,rm⟩=>
         match logO lg log i (oi.acc vs) vs (logCs oi cs val) val wr nw kill rm with
         | none=>none
         | some log'=>
         match og with
         | none=>
           match okO ok (sd++side),newSt oid kill rm wr nw st,newFr kill fr,PV.norm val with
           | some ok',some st',some fr',some v=>match od with
             | none=>some ⟨n,fr',st',ok',log'⟩
             | some d=>match Nat.blt d n with
               | true=>some ⟨n,upd fr' d v,st',ok',log'⟩
               | false=>none
           | _,_,_,_=>none
         | some _=>match wr,nw,kill,rm,od,PV.norm val,okG G ok (sd++side) with
           | [], [], [], [],some d,some v,some ok'=>match Nat.blt d n with
            | true=>some ⟨n,upd fr d (.cnd G v),st,ok',log'⟩
            | false=>none
           | _,_,_,_,_,_,_=>none
def I.heavy:I→Bool
 | .al _ | .alb _ _ | .bx _ _ | .bs _ _ _ | .app .. | .mks .. | .cvb .. | .st .. | .clr .. | .cpy .. | .mkm .. | .mpu .. | .bsx .. =>true
 | _=>false
def I.isPick:I→Bool
 | .pick _ _ _=>true
 | _=>false
def I.isCall:I→Bool
 | .call _ _=>true
 | _=>false
def skipJ (o:Ins) (s:PS):Bool:=match o.g with
 | some _=>match valL s.fr o.i.opr with
   | some vs=> !PV.njL vs
   | none=>false
 | none=>false
def stepG (S:FuncId→List PV→List SE→CallRes→Prop) (c:CallRes) (i:Nat) (o:Ins) (s:PS):Option PS:=
 match o,s with
 | ⟨od,oid,og,oi⟩,⟨n,fr,st,ok,log⟩=>match og,I.heavy oi,skipJ ⟨od,oid,og,oi⟩ ⟨n,fr,st,ok,log⟩ with
   | some g,true,_=>match guardV fr (some g) with
     | some true=>stepI S false c i ⟨od,oid,none,oi⟩ ⟨n,fr,st,ok,log⟩
     | some false=>match od with
       | none=>some ⟨n,fr,st,ok,log⟩
       | some d=>match Nat.blt d n with
         | true=>some ⟨n,upd fr d (.cnd false .junk),st,ok,log⟩
         | false=>none
     | none=>none
   | some g,false,true=>match I.isPick oi with
     | true=>stepI S false c i ⟨od,oid,some g,oi⟩ ⟨n,fr,st,ok,log⟩
     | false=>match guardV fr (some g) with
       | some false=>match od with
         | none=>some ⟨n,fr,st,ok,log⟩
         | some d=>match Nat.blt d n with
           | true=>some ⟨n,upd fr d (.cnd false .junk),st,ok,log⟩
           | false=>none
       | _=>none
   | some g,false,false=>match stepI S false c i ⟨od,oid,some g,oi⟩ ⟨n,fr,st,ok,log⟩ with
     | some s'=>some s'
     | none=>match guardV fr (some g) with
       | some true=>stepI S false c i ⟨od,oid,none,oi⟩ ⟨n,fr,st,ok,log⟩
       | some false=>match od with
         | none=>some ⟨n,fr,st,ok,log⟩
         | some d=>match Nat.blt d n with
           | true=>some ⟨n,upd fr d (.cnd false .junk),st,ok,log⟩
           | false=>none
       | none=>none
   | none,_,_=>stepI S false c i ⟨od,oid,none,oi⟩ ⟨n,fr,st,ok,log⟩
def stepX (S:FuncId→List PV→List SE→CallRes→Prop) (lg:Bool) (c:CallRes) (i:Nat) (o:Ins) (s:PS):Option PS:=
 match lg with
 | true=>stepI S true c i o s
 | false=>stepG S c i o s
def callAt (o:Ins) (s:PS):Option (Bool×FuncId×List PV×List SE):=
 match guardV s.fr o.g with
 | none=>none
 | some G=>
   match valL s.fr o.i.opr with
   | none=>none
   | some vs0=>
     match stripS G vs0 with
     | (_,vs)=>
     match vs with
     | []=>none
     | f::args=>match getL s.st (o.i.acc vs) with
       | none=>none
       | some cs=>match callA f args (o.i.acc vs) cs with
         | some (id,args',bs)=>match PV.normL args',SE.normL (bs.map (·.2)) with
           | some a,some b=>some (G,id,a,b)
           | _,_=>none
         | none=>none
instance:Inhabited CallRes:=⟨⟨.junk, [], []⟩⟩
def evK (S:FuncId→List PV→List SE→CallRes→Prop) (lg:Bool):Nat→List Ins→PS→(PS→Prop)→Prop
 | _, [],s,K=>K s
 | i,o::r,s,K=>match o.i.isCall&&(lg || !skipJ o s) with
   | true=>match callAt o s with
     | some (G,id,args,bs)=>∃c:CallRes,(G=true→S id args bs c)∧(match stepX (fun _ _ _ _=>True) lg c i o s with
       | some s'=>evK S lg (i+1) r s' K
       | none=>False)
     | none=>False
   | false=>match stepX (fun _ _ _ _=>True) lg default i o s with
     | some s'=>evK S lg (i+1) r s' K
     | none=>False
end Pv
end Go.Proofs.YtdcgnfkkklbckaaGreatDoor
