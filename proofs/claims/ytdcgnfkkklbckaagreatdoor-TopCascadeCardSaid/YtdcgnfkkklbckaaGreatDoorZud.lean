/- LOADS AND STORES THROUGH POINTERS; ALL OPERATIONS BUT CALLS TOGETHER. -/
import Derived.Test.YtdcgnfkkklbckaaGreatDoorZuc
import Derived.ChangeKeysEq
import Derived.Laws.Cells
import Derived.Laws.Entries
import Derived.Laws.Strings
import Derived.Laws.StructEq
import Derived.Laws.MakeOwn
import Derived.Laws.OwnMore
import Derived.Laws.IdiomStrings
set_option linter.unusedSimpArgs false
set_option linter.unusedVariables false
namespace Go.Proofs.YtdcgnfkkklbckaaGreatDoor
namespace Pv
open Go.RowKit
section
variable {P:Program} {X:Cx} {γ:Gh} {w:World} {ρ:Operand→Value} {o:Oper}
theorem info_of_size {t:TypeId} (h:0<P.cellsOf t):∃i,P.info? t=some i∧i.size=P.cellsOf t:=by
 unfold Program.cellsOf at*
 cases hi:P.info? t with
 | none=>simp [hi] at h
 | some i=>exact ⟨i,rfl,rfl⟩
theorem info_of_underlying {t:TypeId} {d:TypeDesc} (h:P.underlying t=some d):∃i,P.info? t=some i∧i.size=P.cellsOf t:=by
 unfold Program.cellsOf
 cases hi:P.info? t with
 | none=>simp [Program.underlying,hi] at h
 | some i=>exact ⟨i,rfl,rfl⟩
theorem run_isAgg_ {t:TypeId} {g:Bool} (h:isAggO P t=some g):(isAgg t).run P w= .ok g w:=by
 unfold isAggO at h
 cases hd:P.underlying t with
 | none=>simp [hd] at h
 | some d=>
   simp only [hd] at h
   have:=run_underlying hd w
   cases d<;>simp_all [isAgg]
theorem info_of_agg {t:TypeId} {g:Bool} (h:isAggO P t=some g):∃i,P.info? t=some i∧i.size=P.cellsOf t:=by
 unfold isAggO at h
 cases hd:P.underlying t with
 | none=>simp [hd] at h
 | some d=>exact info_of_underlying hd
theorem run_loadAt_ {t:TypeId} {g:Bool} {a:Addr} {us:List Value} (hg:isAggO P t=some g) (hl:us.length=P.cellsOf t) (h0:g=false→us.length=1)
  (hc:∀k u,us[k]? =some u→w.cell? (a.add k)=some u):
  (Instr.loadAt t (.pointer (some a))).run P w= .ok (if g then .agg us.toArray else us.getD 0 undef) w:=by
 obtain ⟨i,hi,hs⟩:=info_of_agg hg
 have hsz:(sizeOf t).run P w= .ok us.length w:=by rw [hl];exact run_sizeOf w hi
 cases g with
 | true=>
   have:=run_loadCells_list (P:=P) w a us hc
   simp [Instr.loadAt,Instr.sureAddr,loadVar,run_isAgg_ hg,hsz,this]
 | false=>
   have h1:=h0 rfl
   match us,h1 with
   | [u],_=>
     have:=hc 0 u rfl
     have e:a.add 0=a:=by simp [Addr.add]
     rw [e] at this
     simp [Instr.loadAt,Instr.sureAddr,loadVar,run_isAgg_ hg,this]
theorem constPV_rep {v:Value} {p:PV} (h:constPV v=some p):Rep X γ w p v:=by
 unfold constPV at h
 split at h<;>first | (injection h with h;subst h) | cases h
 ·exact .int _ _
 ·exact .bool _
 ·rename_i s;exact .str s.data.toList
 ·exact .nil _
 ·exact .raw _ rfl
 ·exact .raw _ rfl
 ·exact .raw _ rfl
def Opd (X:Cx) (γ:Gh) (w:World) (fr:Nat→Option PV) (ρ:Operand→Value):Prop:=
 (∀t p,fr t=some p→Rep X γ w p (ρ (.tmp t)))∧(∀v,ρ (.const v)=v)∧(∀f,ρ (.func f)= .func (.func f) #[] #[])∧
  ∀g vs cs,globV g=some vs→mapO constPV vs=some cs→cs.all PV.flat=true→Rep X γ w (.rp 1 cs) (ρ (.global g))
theorem arg_rep {fr:Nat→Option PV} (H:Opd X γ w fr ρ) {x:Operand} {y:A} {p:PV} (hx:arg x=some y) (hp:A.val fr y=some p):Rep X γ w p (ρ x):=by
 cases x with
 | tmp t=>simp only [arg,Option.some.injEq] at hx;subst hx;exact H.1 t p hp
 | const v=>
   simp only [arg,Option.map_eq_some_iff] at hx
   obtain ⟨q,hq,rfl⟩:=hx
   simp only [A.val,Option.some.injEq] at hp;subst hp
   rw [H.2.1];exact constPV_rep hq
 | func f=>
   simp only [arg,Option.some.injEq] at hx;subst hx
   simp only [A.val,Option.some.injEq] at hp;subst hp
   rw [H.2.2.1];exact .fn _ [] [] [] [] rfl rfl (fun k c u h=>by simp at h) (fun k c u h=>by simp at h)
 | global g=>
   simp only [arg] at hx
   split at hx
   ·rename_i vs hg
    split at hx
    ·rename_i cs hc
     split at hx
     ·rename_i hfl
      simp only [Option.some.injEq] at hx;subst hx
      simp only [A.val,Option.some.injEq] at hp;subst hp
      exact H.2.2.2 g vs cs hg hc hfl
     ·cases hx
    ·cases hx
   ·cases hx
theorem argT_rep {fr:Nat→Option PV} (H:Opd X γ w fr ρ) {t:TypeId} {x:Operand} {y:A} {p:PV} (hx:argT P t x=some y) (hp:A.val fr y=some p):Rep X γ w p (ρ x):=by
 unfold argT at hx
 split at hx
 ·simp only [Option.some.injEq] at hx;subst hx
  simp only [A.val,Option.some.injEq] at hp;subst hp
  rw [H.2.1];exact .nil _
 ·exact arg_rep H hx hp
theorem mapO_length {α β:Type} {f:α→Option β}:∀{l:List α} {r:List β},mapO f l=some r→r.length=l.length
 | [],r,h=>by simp [mapO] at h;subst h;rfl
 | a::l,r,h=>by
   simp only [mapO] at h
   split at h
   ·rename_i b bs _ hbs;injection h with h;subst h;simp [mapO_length hbs]
   ·cases h
theorem mapO_get {α β:Type} {f:α→Option β}:∀{l:List α} {r:List β},mapO f l=some r→∀(k:Nat) (a:α),l[k]? =some a→∃b,r[k]? =some b∧f a=some b
 | [],r,h,k,a,hk=>by simp at hk
 | x::l,r,h,k,a,hk=>by
   simp only [mapO] at h
   split at h
   ·rename_i b bs hb hbs
    injection h with h;subst h
    cases k with
    | zero=>simp at hk;subst hk;exact ⟨b,rfl,hb⟩
    | succ k=>simpa using mapO_get hbs k a (by simpa using hk)
   ·cases h
theorem valL_length {fr:Nat→Option PV}:∀{l:List A} {r:List PV},valL fr l=some r→r.length=l.length
 | [],r,h=>by simp [valL] at h;subst h;rfl
 | a::l,r,h=>by
   simp only [valL] at h
   split at h
   ·rename_i b bs _ hbs;injection h with h;subst h;simp [valL_length hbs]
   ·cases h
theorem args_rep {fr:Nat→Option PV} (H:Opd X γ w fr ρ):∀{xs:List Operand} {ys:List A} {ps:List PV},mapO arg xs=some ys→valL fr ys=some ps→RepL X γ w ps (xs.map ρ)
 | [],ys,ps,h,hp=>by
   simp [mapO] at h;subst h
   simp [valL] at hp;subst hp
   exact RepL.nil_
 | x::xs,ys,ps,h,hp=>by
   simp only [mapO] at h
   split at h
   ·rename_i b bs hb hbs
    injection h with h;subst h
    simp only [valL] at hp
    split at hp
    ·rename_i p qs hp1 hp2
     injection hp with hp;subst hp
     exact RepL.cons_ (arg_rep H hb hp1) (args_rep H hbs hp2)
    ·cases hp
   ·cases h
theorem argsT_rep {α:Type} {fr:Nat→Option PV} (H:Opd X γ w fr ρ) (ty:α→TypeId) (op:α→Operand):∀{xs:List α} {ys:List A} {ps:List PV},
  mapO (fun x=>argT P (ty x) (op x)) xs=some ys→valL fr ys=some ps→RepL X γ w ps (xs.map fun x=>ρ (op x))
 | [],ys,ps,h,hp=>by
   simp [mapO] at h;subst h
   simp [valL] at hp;subst hp
   exact RepL.nil_
 | x::xs,ys,ps,h,hp=>by
   simp only [mapO] at h
   split at h
   ·rename_i b bs hb hbs
    injection h with h;subst h
    simp only [valL] at hp
    split at hp
    ·rename_i p qs hp1 hp2
     injection hp with hp;subst hp
     exact RepL.cons_ (argT_rep H hb hp1) (argsT_rep H ty op hbs hp2)
    ·cases hp
   ·cases h
theorem wrap_in (k:IntKind) (n:Int) (h:inR k n):k.wrap n=n:=by
 obtain ⟨h1,h2⟩:=h
 cases k<;>simp [IntKind.min,IntKind.max,IntKind.signed,IntKind.bits] at h1 h2<;>simp [IntKind.wrap,IntKind.signed,IntKind.bits]<;>omega
def allP:List Prop→Prop
 | []=>True
 | p::ps=>p∧allP ps
def Eff.still (E:Eff):Prop:=E.wr= []∧E.nw= []∧E.kill= []∧E.rm= []
theorem Eff.still_pure (p:PV):(Eff.pure p).still:=⟨rfl,rfl,rfl,rfl⟩
theorem Eff.still_side (p:PV) (s:Prop):(Eff.side' p s).still:=⟨rfl,rfl,rfl,rfl⟩
def Good (P:Program) (X:Cx) (γ:Gh) (w:World) (E:Eff) (m:Sem Value):Prop:=E.still∧∃v,m.run P w= .ok v w∧Rep X γ w E.val v
def topBits (k:IntKind):Nat:=if k.signed then k.bits - 1 else k.bits
theorem max_top (k:IntKind):k.max=2 ^ topBits k - 1:=by cases k<;>rfl
theorem top_le (k:IntKind):topBits k≤k.bits:=by cases k<;>decide
theorem lt_top (k:IntKind) {a:Int} (h0:0≤a) (h1:a≤k.max):a.toNat<2 ^ topBits k:=by
 rw [max_top] at h1
 have:((2 ^ topBits k:Nat):Int)=(2:Int) ^ topBits k:=by simp
 omega
theorem bits_nat (k:IntKind) {a:Int} (h0:0≤a) (h1:a≤k.max):(a % 2 ^ k.bits).toNat=a.toNat:=by
 have h2:=lt_top k h0 h1
 have h3:2 ^ topBits k≤2 ^ k.bits:=Nat.pow_le_pow_right (by decide) (top_le k)
 have:((2 ^ k.bits:Nat):Int)=(2:Int) ^ k.bits:=by simp
 rw [Int.emod_eq_of_lt h0 (by omega)]
theorem wrap_nat (k:IntKind) {n:Nat} (h:n<2 ^ topBits k):k.wrap (n:Int)=n:=by
 refine wrap_in k _ ⟨?_, ?_⟩
 ·have:k.min≤0:=by cases k<;>decide
  omega
 ·rw [max_top]
  have:((2 ^ topBits k:Nat):Int)=(2:Int) ^ topBits k:=by simp
  omega
theorem bits_or (k:IntKind) {a b:Int} (a0:0≤a) (a1:a≤k.max) (b0:0≤b) (b1:b≤k.max):k.wrap ((a.toNat ||| b.toNat:Nat):Int)=((a.toNat ||| b.toNat:Nat):Int):=wrap_nat k (Nat.or_lt_two_pow (lt_top k a0 a1) (lt_top k b0 b1))
theorem bits_xor (k:IntKind) {a b:Int} (a0:0≤a) (a1:a≤k.max) (b0:0≤b) (b1:b≤k.max):k.wrap ((a.toNat ^^^ b.toNat:Nat):Int)=((a.toNat ^^^ b.toNat:Nat):Int):=wrap_nat k (Nat.xor_lt_two_pow (lt_top k a0 a1) (lt_top k b0 b1))
theorem bits_and (k:IntKind) {a b:Int} (a0:0≤a) (a1:a≤k.max) (b0:0≤b) (b1:b≤k.max):k.wrap ((a.toNat &&& b.toNat:Nat):Int)=((a.toNat &&& b.toNat:Nat):Int):=wrap_nat k (Nat.and_lt_two_pow _ (lt_top k b0 b1))
theorem shfI_sound {wr:Bool} {op:BinOp} {k k':IntKind} {a b:Int} {E:Eff} (t:TypeId) (hE:shfI wr op k a b=some E) (hs:allP E.side):
  Good P X γ w E (binOp op t (.int k a) (.int k' b)):=by
 cases op with
 | shr=>
   simp only [shfI,Option.some.injEq] at hE;subst hE
   obtain ⟨⟨h0,h1⟩,_⟩:=hs
   refine ⟨Eff.still_side _ _, .int k (a / 2 ^ b.toNat), ?_, .int _ _⟩
   have e:min b.toNat k.bits=b.toNat:=Nat.min_eq_left h1
   have hb:¬b<0:=by omega
   simp only [binOp,Op.shift,hb,if_false,e,Sem.run_pure]
   rw [Int.fdiv_eq_ediv_of_nonneg a (Int.le_of_lt (Int.pow_pos (by decide)))]
 | shl=>
   simp only [shfI] at hE
   split at hE
   ·simp only [Option.some.injEq] at hE;subst hE
    obtain ⟨⟨h0,h1⟩,_⟩:=hs
    refine ⟨Eff.still_side _ _, .int k (k.wrap (a*2 ^ b.toNat)), ?_, .int _ _⟩
    have e:min b.toNat k.bits=b.toNat:=Nat.min_eq_left h1
    have hb:¬b<0:=by omega
    simp only [binOp,Op.shift,hb,if_false,e,Sem.run_pure]
   ·simp only [Option.some.injEq] at hE;subst hE
    obtain ⟨⟨h0,h1,h2⟩,_⟩:=hs
    refine ⟨Eff.still_side _ _, .int k (a*2 ^ b.toNat), ?_, .int _ _⟩
    have e:min b.toNat k.bits=b.toNat:=Nat.min_eq_left h1
    have hb:¬b<0:=by omega
    simp only [binOp,Op.shift,hb,if_false,e,Sem.run_pure]
    rw [wrap_in _ _ h2]
 | _=>cases hE
theorem biI_sound {wr:Bool} {op:BinOp} {k:IntKind} {a b:Int} {E:Eff} (t:TypeId) (hE:biI wr op k a b=some E) (hs:allP E.side):
  Good P X γ w E (binOp op t (.int k a) (.int k b)):=by
 cases op with
 | add | sub | mul=>
   cases wr with
   | true=>simp only [biI,if_true,Option.some.injEq] at hE;subst hE;exact ⟨Eff.still_pure _,_,by simp [binOp,Op.intArith], .int _ _⟩
   | false=>
     simp only [biI,Bool.false_eq_true,if_false,Option.some.injEq] at hE;subst hE
     refine ⟨Eff.still_side _ _,_,by simp [binOp,Op.intArith];rfl, ?_⟩
     rw [wrap_in _ _ hs.1];exact .int _ _
 | quo=>
   cases wr with
   | true=>
     simp only [biI,if_true,Option.some.injEq] at hE;subst hE
     have h0:b≠0:=hs.1
     exact ⟨Eff.still_side _ _,_,by simp [binOp,Op.intDiv,h0], .int _ _⟩
   | false=>
     simp only [biI,Bool.false_eq_true,if_false,Option.some.injEq] at hE;subst hE
     obtain ⟨⟨h0,h1⟩,_⟩:=hs
     refine ⟨Eff.still_side _ _,_,by simp [binOp,Op.intDiv,h0];rfl, ?_⟩
     rw [wrap_in _ _ h1];exact .int _ _
 | rem=>
   simp only [biI,Option.some.injEq] at hE;subst hE
   have h0:b≠0:=hs.1
   exact ⟨Eff.still_side _ _,_,by simp [binOp,Op.intDiv,h0], .int _ _⟩
 | shr=>
   simp only [biI,Option.some.injEq] at hE;subst hE
   obtain ⟨h0,_⟩:=hs
   subst h0
   refine ⟨Eff.still_side _ _,_,by simp [binOp,Op.shift];rfl, ?_⟩
   have e:min 1 k.bits=1:=by cases k<;>rfl
   rw [show a.fdiv (2 ^ min 1 k.bits)=a / 2 by rw [e];exact Int.fdiv_eq_ediv_of_nonneg a (by decide)]
   exact .int _ _
 | or=>
   simp only [biI,Option.some.injEq] at hE;subst hE
   obtain ⟨⟨⟨a0,a1⟩,b0,b1⟩,_⟩:=hs
   refine ⟨Eff.still_side _ _,_,by simp [binOp,Op.intBits];rfl, ?_⟩
   rw [bits_nat k a0 a1,bits_nat k b0 b1,bits_or k a0 a1 b0 b1];exact .int _ _
 | xor=>
   simp only [biI,Option.some.injEq] at hE;subst hE
   obtain ⟨⟨⟨a0,a1⟩,b0,b1⟩,_⟩:=hs
   refine ⟨Eff.still_side _ _,_,by simp [binOp,Op.intBits];rfl, ?_⟩
   rw [bits_nat k a0 a1,bits_nat k b0 b1,bits_xor k a0 a1 b0 b1];exact .int _ _
 | and=>
   simp only [biI,Option.some.injEq] at hE;subst hE
   obtain ⟨⟨⟨a0,a1⟩,b0,b1⟩,_⟩:=hs
   refine ⟨Eff.still_side _ _,_,by simp [binOp,Op.intBits];rfl, ?_⟩
   rw [bits_nat k a0 a1,bits_nat k b0 b1,bits_and k a0 a1 b0 b1];exact .int _ _
 | eql=>simp only [biI,Option.some.injEq] at hE;subst hE;exact ⟨Eff.still_pure _,_,by simp [binOp,Op.intCmp], .bool _⟩
 | neq=>simp only [biI,Option.some.injEq] at hE;subst hE;exact ⟨Eff.still_pure _,_,by simp [binOp,Op.intCmp], .bool _⟩
 | lss=>simp only [biI,Option.some.injEq] at hE;subst hE;exact ⟨Eff.still_pure _,_,by simp [binOp,Op.intCmp], .bool _⟩
 | leq=>simp only [biI,Option.some.injEq] at hE;subst hE;exact ⟨Eff.still_pure _,_,by simp [binOp,Op.intCmp], .bool _⟩
 | gtr=>simp only [biI,Option.some.injEq] at hE;subst hE;exact ⟨Eff.still_pure _,_,by simp [binOp,Op.intCmp], .bool _⟩
 | geq=>simp only [biI,Option.some.injEq] at hE;subst hE;exact ⟨Eff.still_pure _,_,by simp [binOp,Op.intCmp], .bool _⟩
 | _=>cases hE
theorem toList_mk (a:List UInt8):(⟨a.toArray⟩:ByteArray).toList=a:=by unfold ByteArray.toList;rw [ByteArray.toList_loop_eq _ _ 0 [] rfl (Nat.zero_le _)];simp
theorem mk_append (a b:List UInt8):(⟨a.toArray⟩:ByteArray)++⟨b.toArray⟩=⟨(a++b).toArray⟩:=by
 ext1
 simp
theorem biV_sound {wr:Bool} {op:BinOp} {p q:PV} {E:Eff} {u v:Value} {t:TypeId}
  (hu:Rep X γ w p u) (hv:Rep X γ w q v) (hE:biV wr op p q=some E) (hs:allP E.side):Good P X γ w E (binOp op t u v):=by
 unfold biV at hE
 split at hE
 ·rename_i k a k' b
  cases hu.int_inv;cases hv.int_inv
  split at hE
  ·rename_i hk;subst hk;exact biI_sound t hE hs
  ·exact shfI_sound t hE hs
 ·rename_i a b
  cases hu.str_inv;cases hv.str_inv
  cases op with
  | eql=>simp only [Option.some.injEq] at hE;subst hE;exact ⟨Eff.still_pure _,_,by simp [binOp,Op.stringOp], .bool _⟩
  | neq=>simp only [Option.some.injEq] at hE;subst hE;exact ⟨Eff.still_pure _,_,by simp [binOp,Op.stringOp], .bool _⟩
  | lss=>simp only [Option.some.injEq] at hE;subst hE;exact ⟨Eff.still_pure _,_,by simp [binOp,Op.stringOp], .bool _⟩
  | leq=>simp only [Option.some.injEq] at hE;subst hE;exact ⟨Eff.still_pure _,_,by simp [binOp,Op.stringOp], .bool _⟩
  | gtr=>simp only [Option.some.injEq] at hE;subst hE;exact ⟨Eff.still_pure _,_,by simp [binOp,Op.stringOp], .bool _⟩
  | geq=>simp only [Option.some.injEq] at hE;subst hE;exact ⟨Eff.still_pure _,_,by simp [binOp,Op.stringOp], .bool _⟩
  | add=>
    simp only [Option.some.injEq] at hE;subst hE
    have h0:a.length+b.length≤9223372036854775807:=hs.1
    refine ⟨Eff.still_side _ _, .string ⟨(a++b).toArray⟩, ?_, .str _⟩
    have e:¬IntKind.max IntKind.i64<(((⟨a.toArray⟩:ByteArray).size:Int)+((⟨b.toArray⟩:ByteArray).size:Int)):=by
     have e1:(⟨a.toArray⟩:ByteArray).size=a.length:=rfl
     have e2:(⟨b.toArray⟩:ByteArray).size=b.length:=rfl
     have e3:IntKind.max IntKind.i64=9223372036854775807:=rfl
     rw [e1,e2,e3];omega
    simp only [binOp,Op.stringOp,gt_iff_lt,Int.natCast_add,e,if_false,mk_append,Sem.run_pure]
  | _=>cases hE
 ·cases hE
theorem eqCell_run {e:TypeId} {k:Nat} {p q:PV} {u v:Value} {b:Bool} (d:Nat) (he:eqKind P e=some k)
  (hu:Rep X γ w p u) (hv:Rep X γ w q v) (hb:eqCell k p q=some b):(Op.equalIn (d+1) e u v).run P w= .ok b w∧u.oneCell'=true∧v.oneCell'=true∧(isAgg e).run P w= .ok false w:=by
 have hag:∀d,P.underlying e=some d→(match d with | .struct _ | .array _ _=>true | _=>false)=false→(isAgg e).run P w= .ok false w:=fun d hd h0=>by
  apply run_isAgg_
  unfold isAggO;rw [hd];cases d<;>simp_all
 unfold eqCell at hb
 split at hb
 ·split at hb
  case isFalse=>cases hb
  rename_i hkk;subst hkk
  injection hb with hb;subst hb
  cases hu.int_inv;cases hv.int_inv
  unfold eqKind at he
  cases hd:P.underlying e with
  | none=>simp [hd] at he
  | some d=>cases d<;>simp [hd] at he;exact ⟨run_equalIn_int w _ _ _ _ _ _ hd,rfl,rfl,hag _ hd rfl⟩
 ·injection hb with hb;subst hb
  cases hu.bool_inv;cases hv.bool_inv
  unfold eqKind at he
  cases hd:P.underlying e with
  | none=>simp [hd] at he
  | some d=>cases d<;>simp [hd] at he;exact ⟨run_equalIn_bool w _ _ _ _ hd,rfl,rfl,hag _ hd rfl⟩
 ·injection hb with hb;subst hb
  cases hu.str_inv;cases hv.str_inv
  unfold eqKind at he
  cases hd:P.underlying e with
  | none=>simp [hd] at he
  | some d=>
    cases d<;>simp [hd] at he
    refine ⟨?_,rfl,rfl,hag _ hd rfl⟩
    rw [run_equalIn_string w _ _ _ _ hd,toList_mk,toList_mk]
 ·cases hb
theorem eqFields_run (d:Nat) (xs ys:Array Value):∀(i:Nat) (fs:List Field) (ks:List Nat) (as bs:List PV) (b:Bool),eqKinds P i fs=some ks→
  RepL X γ w as (xs.toList.drop i)→RepL X γ w bs (ys.toList.drop i)→eqCells ks as bs=some b→(Op.eqFields (d+1) xs ys fs).run P w= .ok b w
 | i, [],ks,as,bs,b,hk,ha,hb,he=>by
   simp only [eqKinds,Option.some.injEq] at hk;subst hk
   cases as<;>cases bs<;>simp [eqCells] at he
   subst he
   simp [Op.eqFields]
 | i,f::fs,ks,as,bs,b,hk,ha,hb,he=>by
   simp only [eqKinds] at hk
   split at hk
   ·rename_i hn
    simp only [Bool.and_eq_true,bne_iff_ne,ne_eq,beq_iff_eq] at hn
    split at hk
    ·rename_i k ks' hk1 hk2
     injection hk with hk;subst hk
     cases as with
     | nil=>simp [eqCells] at he
     | cons p as'=>
     cases bs with
     | nil=>simp [eqCells] at he
     | cons q bs'=>
       simp only [eqCells] at he
       split at he
       ·rename_i x y hx hy
        injection he with he;subst he
        obtain ⟨u,us,hu,hpu,hus⟩:=ha.cons_inv
        obtain ⟨v,vs,hv,hqv,hvs⟩:=hb.cons_inv
        have hxi:xs[i]? =some u:=by
         have:=congrArg (fun l=>l[0]?) hu
         simpa using this
        have hyi:ys[i]? =some v:=by
         have:=congrArg (fun l=>l[0]?) hv
         simpa using this
        have hus':RepL X γ w as' (xs.toList.drop (i+1)):=by
         have:xs.toList.drop (i+1)=us:=by rw [←List.drop_drop,hu];rfl
         rw [this];exact hus
        have hvs':RepL X γ w bs' (ys.toList.drop (i+1)):=by
         have:ys.toList.drop (i+1)=vs:=by rw [←List.drop_drop,hv];rfl
         rw [this];exact hvs
        obtain ⟨hr,h1,h2,hag⟩:=eqCell_run (X:=X) (γ:=γ) (w:=w) d hk1 hpu hqv hx
        have ih:=eqFields_run d xs ys (i+1) fs ks' as' bs' y hk2 hus' hvs' hy
        have hp1:(part f.type xs f.offset).run P w= .ok u w:=by simp [part,hag,hn.2,hxi]
        have hp2:(part f.type ys f.offset).run P w= .ok v w:=by simp [part,hag,hn.2,hyi]
        simp only [Op.eqFields,ne_eq,hn.1,not_false_eq_true,if_true,Sem.run_bind,hp1,hp2,hr,Result.andThen_ok]
        cases x<;>simp [ih]
       ·cases he
    ·cases hk
   ·cases hk
theorem eqCells_app:∀(k1 k2:List Nat) (as bs:List PV) (b:Bool),eqCells (k1++k2) as bs=some b→
  ∃x y,eqCells k1 (as.take k1.length) (bs.take k1.length)=some x∧eqCells k2 (as.drop k1.length) (bs.drop k1.length)=some y∧b=(x&&y)
 | [],k2,as,bs,b,h=>⟨true,b,by simp [eqCells],by simpa using h,by simp⟩
 | _::_,_, [],_,_,h=>by simp [eqCells] at h
 | _::_,_,_::_, [],_,h=>by simp [eqCells] at h
 | k::k1,k2,a::as,b::bs,_,h=>by
   simp only [List.cons_append,eqCells] at h
   split at h
   ·rename_i x y hx hy
    injection h with h
    obtain ⟨x',y',h1,h2,h3⟩:=eqCells_app k1 k2 as bs y hy
    refine ⟨x&&x',y', ?_,by simpa using h2,by rw [←h,h3,Bool.and_assoc]⟩
    simp only [List.length_cons,List.take_succ_cons,eqCells,hx,h1]
   ·cases h
theorem eqFields2_run (d:Nat) (xs ys:Array Value):∀(i:Nat) (fs:List Field) (ks:List Nat) (as bs:List PV) (b:Bool),eqKinds2 P i fs=some ks→
  RepL X γ w as (xs.toList.drop i)→RepL X γ w bs (ys.toList.drop i)→eqCells ks as bs=some b→(Op.eqFields (d+2) xs ys fs).run P w= .ok b w
 | i, [],ks,as,bs,b,hk,ha,hb,he=>by
   simp only [eqKinds2,Option.some.injEq] at hk;subst hk
   cases as<;>cases bs<;>simp [eqCells] at he
   subst he
   simp [Op.eqFields]
 | i,f::fs,ks,as,bs,b,hk,ha,hb,he=>by
   simp only [eqKinds2] at hk
   split at hk
   ·rename_i hn
    simp only [Bool.and_eq_true,bne_iff_ne,ne_eq,beq_iff_eq] at hn
    split at hk
    ·rename_i k hk1
     obtain ⟨ks',hk2,rfl⟩:=Option.map_eq_some_iff.1 hk
     cases as with
     | nil=>simp [eqCells] at he
     | cons p as'=>
     cases bs with
     | nil=>simp [eqCells] at he
     | cons q bs'=>
       simp only [eqCells] at he
       split at he
       ·rename_i x y hx hy
        injection he with he;subst he
        obtain ⟨u,us,hu,hpu,hus⟩:=ha.cons_inv
        obtain ⟨v,vs,hv,hqv,hvs⟩:=hb.cons_inv
        have hxi:xs[i]? =some u:=by
         have:=congrArg (fun l=>l[0]?) hu
         simpa using this
        have hyi:ys[i]? =some v:=by
         have:=congrArg (fun l=>l[0]?) hv
         simpa using this
        have hus':RepL X γ w as' (xs.toList.drop (i+1)):=by
         have:xs.toList.drop (i+1)=us:=by rw [←List.drop_drop,hu];rfl
         rw [this];exact hus
        have hvs':RepL X γ w bs' (ys.toList.drop (i+1)):=by
         have:ys.toList.drop (i+1)=vs:=by rw [←List.drop_drop,hv];rfl
         rw [this];exact hvs
        obtain ⟨hr,h1,h2,hag⟩:=eqCell_run (X:=X) (γ:=γ) (w:=w) (d+1) hk1 hpu hqv hx
        have ih:=eqFields2_run d xs ys (i+1) fs ks' as' bs' y hk2 hus' hvs' hy
        have hp1:(part f.type xs f.offset).run P w= .ok u w:=by simp [part,hag,hn.2,hxi]
        have hp2:(part f.type ys f.offset).run P w= .ok v w:=by simp [part,hag,hn.2,hyi]
        simp only [Op.eqFields,ne_eq,hn.1,not_false_eq_true,if_true,Sem.run_bind,hp1,hp2,hr,Result.andThen_ok]
        cases x<;>simp [ih]
       ·cases he
    ·split at hk
     ·rename_i gs ht
      split at hk
      ·rename_i k1 k2 hk1 hk2
       split at hk
       ·rename_i hg
        injection hk with hk;subst hk
        simp only [Bool.and_eq_true,Bool.not_eq_true',beq_iff_eq] at hg
        obtain ⟨⟨hs,hl⟩,hi⟩:=hg
        obtain ⟨x,y,hx,hy,rfl⟩:=eqCells_app k1 k2 as bs b he
        have hgo:isAggO P f.type=some true:=by unfold isAggO;rw [ht]
        have hag:(isAgg f.type).run P w= .ok true w:=run_isAgg_ hgo
        obtain ⟨_,hi',_⟩:=info_of_agg hgo
        have hsz:=run_sizeOf (P:=P) w hi'
        have e1:(xs.extract i (i+P.cellsOf f.type)).toList=(xs.toList.drop i).take (P.cellsOf f.type):=by simp
        have e2:(ys.extract i (i+P.cellsOf f.type)).toList=(ys.toList.drop i).take (P.cellsOf f.type):=by simp
        have hp1:(part f.type xs f.offset).run P w= .ok (.agg (xs.extract i (i+P.cellsOf f.type))) w:=by simp [part,hag,hn.2,hsz]
        have hp2:(part f.type ys f.offset).run P w= .ok (.agg (ys.extract i (i+P.cellsOf f.type))) w:=by simp [part,hag,hn.2,hsz]
        have hf:P.fieldsOf f.type=gs:=by simp [Program.fieldsOf,ht]
        have hr:(Op.equalIn (d+2) f.type (.agg (xs.extract i (i+P.cellsOf f.type))) (.agg (ys.extract i (i+P.cellsOf f.type)))).run P w= .ok x w:=by
         rw [run_equalIn_struct w (d+1) f.type _ _ (by rw [hf];exact ht) hs,hf]
         refine eqFields_run (X:=X) (γ:=γ) d _ _ 0 gs.toList k1 (as.take k1.length) (bs.take k1.length) x hk1 ?_ ?_ hx
         ·rw [List.drop_zero,e1,hl];exact ha.take _
         ·rw [List.drop_zero,e2,hl];exact hb.take _
        have ih:=eqFields2_run d xs ys (i+P.cellsOf f.type) fs k2 (as.drop k1.length) (bs.drop k1.length) y hk2
         (by rw [←List.drop_drop,hl];exact ha.drop _) (by rw [←List.drop_drop,hl];exact hb.drop _) hy
        simp only [Op.eqFields,ne_eq,hn.1,not_false_eq_true,if_true,Sem.run_bind,hp1,hp2,hr,Result.andThen_ok]
        cases x<;>simp [ih]
       ·cases hk
      ·cases hk
     ·cases hk
   ·cases hk
theorem eqa_sound {t:TypeId} {fs:Array Field} {ks:List Nat} {as bs:List PV} {u v:Value} {b neg:Bool} (x y:Operand) (ht:P.underlying t=some (.struct fs)) (hk:eqKinds2 P 0 fs.toList=some ks)
  (hg:P.eqGuardType P.depth t=false) (hs:P.stoodInHeld t=false) (hu:Rep X γ w (.agg as) u) (hv:Rep X γ w (.agg bs) v) (he:eqCells ks as bs=some b):
  ((do eqGuard (if neg then .neq else .eql) t x y u v;binOp (if neg then .neq else .eql) t u v):Sem Value).run P w= .ok (.bool (if neg then !b else b)) w:=by
 obtain ⟨us,rfl,hus,_⟩:=hu.agg_inv
 obtain ⟨vs,rfl,hvs,_⟩:=hv.agg_inv
 have hf:P.fieldsOf t=fs:=by simp [Program.fieldsOf,ht]
 have h0:=eqFields2_run (P:=P) (X:=X) (γ:=γ) (w:=w) 9997 us.toArray vs.toArray 0 fs.toList ks as bs b hk (by simpa using hus) (by simpa using hvs) he
 have h1:(Op.equalIn 10000 t (.agg us.toArray) (.agg vs.toArray)).run P w= .ok b w:=by
  rw [run_equalIn_struct w 9999 t _ _ (by rw [hf];exact ht) hs,hf];exact h0
 cases neg with
 | true=>simp [run_eqGuard_agg w _ t x y _ _ hg,run_neq_struct,h1]
 | false=>simp [run_eqGuard_agg w _ t x y _ _ hg,run_eql_struct,h1]
theorem eqItems_run (d:Nat) (xs ys:Array Value) {e:TypeId} {k:Nat} (hk:eqKind P e=some k):∀(m i:Nat) (as bs:List PV) (b:Bool),
  RepL X γ w as (xs.toList.drop i)→RepL X γ w bs (ys.toList.drop i)→eqCells (List.replicate m k) as bs=some b→(Op.eqItems (d+1) e 1 xs ys (List.range' i m)).run P w= .ok b w
 | 0,i,as,bs,b,ha,hb,he=>by
   cases as<;>cases bs<;>simp [eqCells] at he
   subst he
   simp [Op.eqItems]
 | m+1,i,as,bs,b,ha,hb,he=>by
   rw [List.replicate_succ] at he
   cases as with
   | nil=>simp [eqCells] at he
   | cons p as'=>
   cases bs with
   | nil=>simp [eqCells] at he
   | cons q bs'=>
     simp only [eqCells] at he
     split at he
     ·rename_i x y hx hy
      injection he with he;subst he
      obtain ⟨u,us,hu,hpu,hus⟩:=ha.cons_inv
      obtain ⟨v,vs,hv,hqv,hvs⟩:=hb.cons_inv
      have hxi:xs[i]? =some u:=by
       have:=congrArg (fun l=>l[0]?) hu
       simpa using this
      have hyi:ys[i]? =some v:=by
       have:=congrArg (fun l=>l[0]?) hv
       simpa using this
      have hus':RepL X γ w as' (xs.toList.drop (i+1)):=by
       have:xs.toList.drop (i+1)=us:=by rw [←List.drop_drop,hu];rfl
       rw [this];exact hus
      have hvs':RepL X γ w bs' (ys.toList.drop (i+1)):=by
       have:ys.toList.drop (i+1)=vs:=by rw [←List.drop_drop,hv];rfl
       rw [this];exact hvs
      obtain ⟨hr,h1,h2,hag⟩:=eqCell_run (X:=X) (γ:=γ) (w:=w) d hk hpu hqv hx
      have ih:=eqItems_run d xs ys hk m (i+1) as' bs' y hus' hvs' hy
      have hp1:(part e xs (i*1)).run P w= .ok u w:=by simp [part,hag,hxi]
      have hp2:(part e ys (i*1)).run P w= .ok v w:=by simp [part,hag,hyi]
      rw [List.range'_succ]
      simp only [Op.eqItems,Sem.run_bind,hp1,hp2,hr,Result.andThen_ok]
      cases x<;>simp [ih]
     ·cases he
theorem eqar_sound {t e:TypeId} {n k:Nat} {as bs:List PV} {u v:Value} {b neg:Bool} (x y:Operand) (ht:P.underlying t=some (.array n e)) (hk:eqKind P e=some k) (hc:P.cellsOf e=1) (hi:(P.info? e).isSome=true)
  (hg:P.eqGuardType P.depth t=false) (hu:Rep X γ w (.agg as) u) (hv:Rep X γ w (.agg bs) v) (he:eqCells (List.replicate n k) as bs=some b):
  ((do eqGuard (if neg then .neq else .eql) t x y u v;binOp (if neg then .neq else .eql) t u v):Sem Value).run P w= .ok (.bool (if neg then !b else b)) w:=by
 obtain ⟨us,rfl,hus,_⟩:=hu.agg_inv
 obtain ⟨vs,rfl,hvs,_⟩:=hv.agg_inv
 obtain ⟨ti,hti⟩:=Option.isSome_iff_exists.1 hi
 have h0:=eqItems_run (P:=P) (X:=X) (γ:=γ) (w:=w) 9998 us.toArray vs.toArray hk n 0 as bs b (by simpa using hus) (by simpa using hvs) he
 have h1:(Op.equalIn 10000 t (.agg us.toArray) (.agg vs.toArray)).run P w= .ok b w:=by
  rw [run_equalIn_array w 9999 _ _ ht hti,hc,List.range_eq_range'];exact h0
 cases neg with
 | true=>simp [run_eqGuard_agg w _ t x y _ _ hg,run_neq_struct,h1]
 | false=>simp [run_eqGuard_agg w _ t x y _ _ hg,run_eql_struct,h1]
theorem pick_sound {c:Bool} {p q:PV} {u v:Value} {E:Eff} (hp:Rep X γ w p u) (hq:Rep X γ w q v) (hE:pickV c p q=some E) (hs:allP E.side):
  E.still∧Rep X γ w E.val (if c then u else v):=by
 unfold pickV at hE
 split at hE
 ·injection hE with hE;subst hE
  cases hp.bool_inv;cases hq.bool_inv
  refine ⟨Eff.still_pure _, ?_⟩
  cases c<;>exact .bool _
 ·injection hE with hE;subst hE
  have h1:=hs.1
  refine ⟨Eff.still_side _ _, ?_⟩
  cases hp.bool_inv
  cases c with
  | true=>exact .bool _
  | false=>cases (hq.cnd_inv (h1 rfl)).bool_inv;exact .bool _
 ·injection hE with hE;subst hE
  have h1:=hs.1
  refine ⟨Eff.still_side _ _, ?_⟩
  cases hq.bool_inv
  cases c with
  | false=>exact .bool _
  | true=>cases (hp.cnd_inv (h1 rfl)).bool_inv;exact .bool _
 ·injection hE with hE;subst hE
  have h1:=hs.1
  refine ⟨Eff.still_side _ _, ?_⟩
  subst h1
  cases hp.bool_inv
  exact .bool _
 ·injection hE with hE;subst hE
  have h1:=hs.1
  refine ⟨Eff.still_side _ _, ?_⟩
  subst h1
  cases hq.bool_inv
  exact .bool _
 ·injection hE with hE;subst hE
  obtain ⟨h1,h2⟩:=hs.1
  refine ⟨Eff.still_side _ _, ?_⟩
  cases c with
  | false=>cases (hq.cnd_inv (h2 rfl)).bool_inv;exact .bool _
  | true=>cases (hp.cnd_inv (h1 rfl)).bool_inv;exact .bool _
 ·cases hE
theorem neg_sound {wr:Bool} {k:IntKind} {n:Int} {E:Eff} (hE:biI wr .sub k 0 n=some E) (hs:allP E.side):Good P X γ w E (Op.unary .neg (.int k n)):=by
 have:=biI_sound (P:=P) (X:=X) (γ:=γ) (w:=w) 0 hE hs
 simpa [Op.unary,binOp] using this
theorem add_plain (b o n:Nat):(⟨b,o,none⟩:Addr).add n=⟨b,o+n,none⟩:=by unfold Addr.add;split<;>simp_all
theorem add_block (a:Addr) (n:Nat):(a.add n).block=a.block:=by unfold Addr.add;split<;>rfl
theorem add_add_ (a:Addr) (i j:Nat):(a.add i).add j=a.add (i+j):=by
 unfold Addr.add
 by_cases hi:i=0<;>by_cases hj:j=0<;>simp [hi,hj,Nat.add_assoc]
theorem rp_drop {τ:Nat} {cs:List PV} {a:Addr} (h:Rep X γ w (.rp τ cs) (.pointer (some a))) (n:Nat):Rep X γ w (.rp τ (cs.drop n)) (.pointer (some (a.add n))):=by
 cases h with
 | rp _ _ _ vs hf hb hc h=>
   refine .rp τ _ _ (fun k=>vs (n+k)) (fun c hc=>hf c (List.mem_of_mem_drop hc)) (fun hn=> ?_) (fun k hk=> ?_) (fun k c hk=> ?_)
   ·rw [add_block];exact hb (by rintro rfl;simp at hn)
   ·rw [add_add_];exact hc _ (by simp at hk;omega)
   ·exact h _ c (by simpa using hk)
theorem rp_inv {τ:Nat} {cs:List PV} {v:Value} (h:Rep X γ w (.rp τ cs) v):∃a,v= .pointer (some a):=by cases h;exact ⟨_,rfl⟩
theorem pt_inv {r i j:Nat} {v:Value} (h:Rep X γ w (.pt r i j) v):∃ge b,γ r=some ge∧ge.blk=some b∧v= .pointer (some ⟨b,i*ge.z+j,none⟩):=by
 cases h with | pt _ _ _ ge b hg hb=>exact ⟨ge,b,hg,hb,rfl⟩
theorem vw_inv {b:Bool} {r lo n:Nat} {v:Value} (h:Rep X γ w (.vw b r lo n) v):∃ge ad m cap,γ r=some ge∧ge.hdr= .slice ad m cap∧lo+n≤m∧v= .slice (if cap=lo then ad else ad.map (·.add (lo*ge.z))) n (cap - lo):=by
 cases h with | vw _ _ _ _ ge ad m cap hg hh hle h0 h2=>exact ⟨ge,ad,m,cap,hg,hh,hle,rfl⟩
theorem os_inv {r:Nat} {v:Value} (h:Rep X γ w (.os r) v):∃ge,γ r=some ge∧v=ge.hdr:=by
 cases h with | os _ ge hg _=>exact ⟨ge,hg,rfl⟩
theorem os_inv2 {r:Nat} {v:Value} (h:Rep X γ w (.os r) v):∃ge,γ r=some ge∧v=ge.hdr∧ge.blk=ge.hdr.ownBlock:=by
 cases h with | os _ ge hg _ h2=>exact ⟨ge,hg,rfl,h2⟩
theorem fa_sound {s:TypeId} {fs:Array Field} {k:Nat} {f:Field} {p q:PV} {u:Value} (hs:P.underlying s=some (.struct fs)) (hf:fs[k]? =some f) (hz:0<P.cellsOf f.type)
  (hp:Rep X γ w p u) (hq:(match p with | .pt r i j=>some (PV.pt r i (j+f.offset)) | .rp τ cs=>some (.rp τ (cs.drop f.offset)) | _=>none)=some q):
  ∃v,(Instr.fieldAt s u k).run P w= .ok v w∧Rep X γ w q v:=by
 obtain ⟨i,hi,hsz⟩:=info_of_size hz
 have hrun:∀a:Addr,(Instr.fieldAt s (.pointer (some a)) k).run P w= .ok (.pointer (some (a.add f.offset))) w:=fun a=>by
  have h0:¬P.cellsOf f.type=0:=by omega
  simp [Instr.fieldAt,run_underlying hs,hf,Instr.sureAddr,fieldPlace,run_sizeOf w hi,h0]
 cases p with
 | pt r i j=>
   simp only [Option.some.injEq] at hq;subst hq
   obtain ⟨ge,b,hg,hb,rfl⟩:=pt_inv hp
   refine ⟨_,hrun _, ?_⟩
   rw [add_plain,Nat.add_assoc]
   exact .pt r i _ ge b hg hb
 | rp τ cs=>
   simp only [Option.some.injEq] at hq;subst hq
   obtain ⟨a,rfl⟩:=rp_inv hp
   exact ⟨_,hrun _,rp_drop hp _⟩
 | _=>cases hq
theorem asV_false {n:Nat} {cs:List PV} {p:PV} (h:asV n false cs=some p):n=1∧cs= [p]:=by
 unfold asV at h
 simp only [Bool.false_eq_true,if_false] at h
 split at h
 ·rename_i hn
  cases cs with
  | nil=>cases h
  | cons c cs=>cases cs with
    | nil=>simp only [Option.some.injEq] at h;subst h;exact ⟨by simpa using hn.symm,rfl⟩
    | cons _ _=>cases h
 ·cases h
theorem part_sound {t:TypeId} {g:Bool} {cs:List PV} {us:List Value} {off:Nat} {p:PV} (hg:isAggO P t=some g) (hr:RepL X γ w cs us) (h1:∀u∈us,u.oneCell'=true)
  (hp:asV (P.cellsOf t) g ((cs.drop off).take (P.cellsOf t))=some p):∃v,(part t us.toArray off).run P w= .ok v w∧Rep X γ w p v:=by
 obtain ⟨i,hi,hs⟩:=info_of_agg hg
 obtain ⟨hl,hrep⟩:=asV_rep ((hr.drop off).take _) (fun u hu=>h1 u (List.mem_of_mem_drop (List.mem_of_mem_take hu))) hp
 cases g with
 | true=>
   simp only [if_true] at hrep
   refine ⟨_,by simp [part,run_isAgg_ hg,run_sizeOf w hi];rfl, ?_⟩
   exact hrep
 | false=>
   simp only [Bool.false_eq_true,if_false] at hrep
   have h1n:P.cellsOf t=1:=(asV_false hp).1
   rw [h1n] at hl hrep
   have hlt:off<us.length:=by simp at hl;omega
   have he:us[off]? =some us[off]:=List.getElem?_eq_getElem hlt
   refine ⟨us[off],by simp [part,run_isAgg_ hg,he], ?_⟩
   have:((us.drop off).take 1).getD 0 undef=us[off]:=by
    simp [List.getD,he]
   rwa [this] at hrep
theorem ld_rp_sound {t:TypeId} {g:Bool} {τ:Nat} {cs:List PV} {u:Value} {p:PV} (hg:isAggO P t=some g) (hr:Rep X γ w (.rp τ cs) u)
  (hp:asV (P.cellsOf t) g ((cs.take (P.cellsOf t)).map (PV.mark τ))=some p):∃v,(Instr.loadAt t u).run P w= .ok v w∧Rep X γ w p v:=by
 cases hr with
 | rp _ _ a vs hf hb hc h=>
   have hl:((cs.take (P.cellsOf t)).map (PV.mark τ)).length=P.cellsOf t:=by
    unfold asV at hp;split at hp
    ·assumption
    ·cases hp
   have hle:P.cellsOf t≤cs.length:=by simp at hl;omega
   have hR:RepL X γ w ((cs.take (P.cellsOf t)).map (PV.mark τ)) ((List.range (P.cellsOf t)).map vs):=by
    refine ⟨by rw [hl];simp,fun k c u hk hu=> ?_⟩
    rw [List.getElem?_map] at hk
    obtain ⟨c0,h0,rfl⟩:=Option.map_eq_some_iff.1 hk
    rw [List.getElem?_take] at h0
    split at h0
    ·rename_i hlt
     simp [hlt] at hu
     subst hu
     exact h k c0 h0
    ·cases h0
   have h1:∀u∈(List.range (P.cellsOf t)).map vs,u.oneCell'=true:=by
    intro u hu
    obtain ⟨k,hk,rfl⟩:=List.mem_map.1 hu
    have hk':k<cs.length:=by have:=List.mem_range.1 hk;omega
    have hcell:=h k cs[k] (List.getElem?_eq_getElem hk')
    have hfl:=hf cs[k] (List.getElem_mem hk')
    refine hcell.one_ ?_
    generalize cs[k]=c at hfl
    cases c<;>simp_all [PV.flat,PV.mark,PV.one]
   obtain ⟨hl',hrep⟩:=asV_rep hR h1 hp
   refine ⟨_,run_loadAt_ hg hl' (fun h0=> ?_) (fun k u hu=> ?_),hrep⟩
   ·subst h0
    rw [hl'];exact (asV_false hp).1
   ·have hk:k<P.cellsOf t:=by have:=(List.getElem?_eq_some_iff.1 hu).1;simpa using this
    have:=cellT_cell (hc k (by omega))
    simp [hk] at hu
    rw [this,hu]
theorem indexAt_slice {t e:TypeId} {a:Addr} {n cap:Nat} {k:IntKind} {i:Int} (ht:P.underlying t=some (.slice e)) (hz:0<P.cellsOf e) (h0:0≤i) (h1:i.toNat<n):
  (Instr.indexAt t (.slice (some a) n cap) (.int k i)).run P w= .ok (.pointer (some (a.add (i.toNat*P.cellsOf e)))) w:=by
 obtain ⟨inf,hi,hs⟩:=info_of_size hz
 have h2:i<n:=by omega
 simp [Instr.indexAt,asIntOf,run_underlying ht,h0,h2,run_sizeOf w hi]
theorem ia_sl_sound {t e:TypeId} {τ n:Nat} {f:Nat→List PV} {u:Value} {k:IntKind} {i:Int} (ht:P.underlying t=some (.slice e)) (hz:0<P.cellsOf e)
  (hp:Rep X γ w (.sl τ (P.cellsOf e) n f) u) (h0:0≤i) (h1:i.toNat<n):
  ∃v,(Instr.indexAt t u (.int k i)).run P w= .ok v w∧Rep X γ w (.rp τ (f i.toNat)) v:=by
 cases hp with
 | sl _ _ _ _ ad cap vs hcap hzz hf hb h=>
   obtain ⟨a,rfl,hm,hlt,hc⟩:=hb (by omega)
   refine ⟨_,indexAt_slice ht hz h0 h1, .rp τ _ _ (fun k=>vs (i.toNat*P.cellsOf e+k)) (hf _ h1) (fun _=>by rw [add_block];exact ⟨hm,hlt⟩) (fun k hk=> ?_) (fun k c hk=>h _ k c h1 hk)⟩
   rw [add_add_]
   refine hc _ ?_
   rw [hzz _ h1] at hk
   calc i.toNat*P.cellsOf e+k<i.toNat*P.cellsOf e+P.cellsOf e:=by omega
    _=(i.toNat+1)*P.cellsOf e:=by rw [Nat.add_mul];omega
    _≤n*P.cellsOf e:=Nat.mul_le_mul_right _ h1
theorem iaa_sound {t e:TypeId} {len:Nat} {p q:PV} {u:Value} {k:IntKind} {i:Int} (ht:P.underlying t=some (.array len e)) (hz:0<P.cellsOf e)
  (hp:Rep X γ w p u) (h0:0≤i) (h1:i.toNat<len)
  (hq:(match p with | .pt r a b=>some (PV.pt r a (b+i.toNat*P.cellsOf e)) | .rp τ cs=>some (.rp τ (cs.drop (i.toNat*P.cellsOf e))) | _=>none)=some q):
  ∃v,(Instr.indexAt t u (.int k i)).run P w= .ok v w∧Rep X γ w q v:=by
 obtain ⟨inf,hi,hs⟩:=info_of_size hz
 have h2:i<len:=by omega
 have hrun:∀a:Addr,(Instr.indexAt t (.pointer (some a)) (.int k i)).run P w= .ok (.pointer (some (a.add (i.toNat*P.cellsOf e)))) w:=fun a=>by
  simp [Instr.indexAt,asIntOf,run_underlying ht,h0,h2,run_sizeOf w hi,Instr.sureAddr]
 cases p with
 | pt r a b=>
   simp only [Option.some.injEq] at hq;subst hq
   obtain ⟨ge,bl,hg,hb,rfl⟩:=pt_inv hp
   refine ⟨_,hrun _, ?_⟩
   rw [add_plain,Nat.add_assoc]
   exact .pt r a _ ge bl hg hb
 | rp τ cs=>
   simp only [Option.some.injEq] at hq;subst hq
   obtain ⟨a,rfl⟩:=rp_inv hp
   exact ⟨_,hrun _,rp_drop hp _⟩
 | _=>cases hq
theorem max_run:∀(k:IntKind) (m:Int) (ps:List PV) (us:List Value) (p:PV),RepL X γ w ps us→maxV k m ps=some p→
  ∃v,(us.foldlM Builtin.max2 (.int k m):Sem Value).run P w= .ok v w∧Rep X γ w p v
 | k,m, [],us,p,h,hp=>by
   cases h.nil_inv
   simp only [maxV,Option.some.injEq] at hp;subst hp
   exact ⟨_,by simp, .int _ _⟩
 | k,m,q::ps,us,p,h,hp=>by
   cases q<;>simp only [maxV] at hp<;>(try cases hp)
   rename_i k' n
   obtain ⟨u,us',rfl,hu,hus⟩:=h.cons_inv
   cases hu.int_inv
   split at hp
   ·obtain ⟨v,hv,hr⟩:=max_run k _ ps us' p hus hp
    exact ⟨v,by simp [Builtin.max2];exact hv,hr⟩
   ·cases hp
theorem min_run:∀(k:IntKind) (m:Int) (ps:List PV) (us:List Value) (p:PV),RepL X γ w ps us→minV k m ps=some p→
  ∃v,(us.foldlM Builtin.min2 (.int k m):Sem Value).run P w= .ok v w∧Rep X γ w p v
 | k,m, [],us,p,h,hp=>by
   cases h.nil_inv
   simp only [minV,Option.some.injEq] at hp;subst hp
   exact ⟨_,by simp, .int _ _⟩
 | k,m,q::ps,us,p,h,hp=>by
   cases q<;>simp only [minV] at hp<;>(try cases hp)
   rename_i k' n
   obtain ⟨u,us',rfl,hu,hus⟩:=h.cons_inv
   cases hu.int_inv
   split at hp
   ·obtain ⟨v,hv,hr⟩:=min_run k _ ps us' p hus hp
    exact ⟨v,by simp [Builtin.min2];exact hv,hr⟩
   ·cases hp
end
open Go.RowKit
theorem upd_same {α:Type} (f:Nat→Option α) (k:Nat) (v:α):upd f k v k=some v:=by
 have:Nat.beq k k=true:=Nat.beq_refl k
 simp only [upd,this]
theorem upd_ne {α:Type} (f:Nat→Option α) {k i:Nat} (v:α) (h:i≠k):upd f k v i=f i:=by
 have:Nat.beq i k=false:=by
  rw [Bool.eq_false_iff];intro hh;exact h (Nat.eq_of_beq_eq_true hh)
 simp only [upd,this]
theorem upd_eq {α:Type} (f:Nat→Option α) (k i:Nat) (v:α):upd f k v i=if i=k then some v else f i:=by
 by_cases h:i=k
 ·subst h;rw [upd_same,if_pos rfl]
 ·rw [upd_ne f v h,if_neg h]
theorem svoid_nil (e:SE):e.void []=e:=by cases e<;>simp [SE.void,void_nilL]
theorem voidS_nil (st:Nat→Option SE):voidS [] st=st:=by
 funext t;unfold voidS;cases st t<;>simp [svoid_nil]
theorem rmS_nil (st:Nat→Option SE):rmS [] st=st:=by funext t;simp [rmS]
theorem voidF_nil (fr:Nat→Option PV):voidF [] fr=fr:=by
 funext t;unfold voidF;cases fr t<;>simp [void_nil]
theorem pinOK_iff:∀{kill:List Nat},pinOK kill=true↔∀r∈kill,r=0∨16≤r
 | []=>by simp [pinOK]
 | 0::rs=>by simp [pinOK,pinOK_iff (kill:=rs)]
 | (r+1)::rs=>by
   simp only [pinOK]
   split
   ·rename_i h
    have:=Nat.le_of_ble_eq_true h
    rw [pinOK_iff (kill:=rs),List.forall_mem_cons]
    exact ⟨fun hh=>⟨.inr (by omega),hh⟩,fun hh=>hh.2⟩
   ·rename_i h
    have h:¬15≤r:=fun hh=>by rw [Nat.ble_eq_true_of_le hh] at h;cases h
    refine ⟨fun hh=>(by cases hh),fun hh=> ?_⟩
    have:=hh (r+1) (List.mem_cons_self ..)
    omega
theorem newFr_some {kill:List Nat} {fr fr':Nat→Option PV} (h:newFr kill fr=some fr'):fr'=voidF kill fr∧∀r∈kill,r=0∨16≤r:=by
 cases kill with
 | nil=>simp only [newFr,Option.some.injEq] at h;subst h;exact ⟨(voidF_nil _).symm,fun r hr=>by cases hr⟩
 | cons k ks=>
   simp only [newFr] at h
   split at h
   ·rename_i hp
    injection h with h;subst h
    exact ⟨rfl,pinOK_iff.1 hp⟩
   ·cases h
theorem newFr_mk {kill:List Nat} (fr:Nat→Option PV) (h:∀r∈kill,r=0∨16≤r):newFr kill fr=some (voidF kill fr):=by
 cases kill with
 | nil=>simp [newFr,voidF_nil]
 | cons k ks=>simp only [newFr,pinOK_iff.2 h]
theorem newSt_eq (d:Nat) (kill rm:List Nat) (wr:List (Nat×SE)) (nw:List SE) (st:Nat→Option SE):
  newSt d kill rm wr nw st=nwS d nw (wrS wr (rmS rm (voidS kill st))):=by
 unfold newSt
 split
 ·simp [voidS_nil,rmS_nil,wrS,nwS]
 ·simp [voidS_nil,rmS_nil,wrS,nwS,snorm_some]
 ·simp only [voidS_nil,rmS_nil,wrS,nwS,snorm_some]
  cases st d<;>rfl
 ·rfl
structure EffOK (X:Cx) (γ:Gh) (w:World) (st:Nat→Option SE) (E:Eff) (v:Value) (w':World) (γ':Gh) (st':Nat→Option SE):Prop where
 val:Rep X γ' w' E.val v
 old:∀p u,Rep X γ w p u→Rep X γ' w' (p.void E.kill) u
 sto:RepSt X γ' w' st'
 keeps:Keeps γ.own w w'
 ownE:∀r ge b,γ' r=some ge→ge.has b→w.heap.size≤b∨∃ge0,γ r=some ge0∧ge0.has b
 box:∀r l,st r=some (.box l)→γ' r=γ r∧∃l',st' r=some (.box l')
 bld:∀r T e s,st r=some (.bld T e s)→∃ge ge',γ r=some ge∧γ' r=some ge'∧ge'.blk=ge.blk∧ge'.z=ge.z∧∃T' e' s',st' r=some (.bld T' e' s')
 fix:∀r e',st' r=some e'→fixR e'=true→(∃e,st r=some e∧fixR e=true)∧r∉E.kill
theorem fix_low {τ e z n:Nat} {f:Nat→List PV} (h:τ≤2):fixR (.row τ e z n f)=false:=by
 unfold fixR;rw [Bool.eq_false_iff];intro hh;have:=Nat.le_of_ble_eq_true hh;omega
theorem fix_max {τ τ' e z n e' z' n':Nat} {f f':Nat→List PV} (h:τ'≤2) (hf:fixR (.row (max τ τ') e z n f)=true):fixR (.row τ e' z' n' f')=true:=by
 unfold fixR at hf⊢
 have:=Nat.le_of_ble_eq_true hf
 exact Nat.ble_eq_true_of_le (by omega)
theorem EffOK.own {X:Cx} {γ γ':Gh} {w w':World} {st st':Nat→Option SE} {E:Eff} {v:Value} (h:EffOK X γ w st E v w' γ' st'):∀b,γ'.own b→γ.own b∨w.heap.size≤b:=by
 rintro b ⟨r,ge,hr,hb⟩
 rcases h.ownE r ge b hr hb with h1 | ⟨ge0,h1,h2⟩
 ·exact .inr h1
 ·exact .inl ⟨r,ge0,h1,h2⟩
section
variable {P:Program} {X:Cx} {γ:Gh} {w:World} {st:Nat→Option SE}
theorem RepSt.get {γ:Gh} {r:Nat} {e:SE} (hst:RepSt X γ w st) (h:st r=some e):∃ge,γ r=some ge:=by
 have:=hst.dom r
 rw [h] at this
 exact Option.isSome_iff_exists.1 this
theorem EffOK.still {E:Eff} {v:Value} (hE:E.still) (hst:RepSt X γ w st) (hv:Rep X γ w E.val v):EffOK X γ w st E v w γ st:=by
 refine ⟨hv,fun p u h=> ?_,hst,Keeps.refl _ _,fun r ge b hr hb=> .inr ⟨ge,hr,hb⟩,fun r l h=>⟨rfl,l,h⟩,fun r T e s h=> ?_,fun r e h hf=>⟨⟨e,h,hf⟩,by rw [hE.2.2.1];simp⟩⟩
 rotate_left
 ·obtain ⟨ge,hge⟩:=hst.get h
  exact ⟨ge,ge,hge,hge,rfl,rfl,T,e,s,h⟩
 rw [hE.2.2.1,void_nil];exact h
theorem RepS.mono {γ':Gh} {w':World} {ge:GE} {e:SE} (h:RepS X γ w ge e) (hr:∀p u,Rep X γ w p u→Rep X γ' w' p u)
  (hb:∀b,ge.has b→w'.heap[b]? =w.heap[b]?):RepS X γ' w' ge e:=by
 cases e with
 | box cells=>
   obtain ⟨b,h1,h2⟩:=h
   exact ⟨b,h1,h2.map_ (hb b (.inl h1.1)) (fun us h=>⟨h.1,fun k c u hc hu=>hr _ _ (h.2 k c u hc hu)⟩) (fun _ _ _ _ _ _ h=>h)⟩
 | row τ e z n f=>
   obtain ⟨vs,h1,h2,h2',h3,h4,h5,h6,h7⟩:=h
   refine ⟨vs,h1,h2,h2', ?_,h4,h5,h6,fun i j c u hi hc hu=>hr _ _ (h7 i j c u hi hc hu)⟩
   obtain ⟨hl,ho⟩:=h3
   refine ⟨hl, ?_⟩
   rcases ho with ho | ⟨g,cap,cur,fz,hv,hh,rest⟩
   ·exact .inl ho
   ·refine .inr ⟨g,cap,cur,fz,hv, ?_,rest⟩
    rw [hb g (.inl (by rw [h2,hv];rfl))];exact hh
 | bld T e s=>
   obtain ⟨b,p,v,h1,h2,h3,h4,⟨hl,ho⟩,h6⟩:=h
   refine ⟨b,p,v,h1,h2,h3,by rw [hb b (.inl h1)];exact h4,⟨hl, ?_⟩,h6⟩
   rcases ho with ho | ⟨g,cap,cur,fz,hv,hg,hh,rest⟩
   ·exact .inl ho
   ·refine .inr ⟨g,cap,cur,fz,hv,hg, ?_,rest⟩
    rw [hb g (.inr (by rw [h2,hv];rfl))];exact hh
theorem RepS.void {γ':Gh} {w':World} {ge:GE} {e:SE} {ks:List Nat} (h:RepS X γ w ge e) (hr:∀p u,Rep X γ w p u→Rep X γ' w' (p.void ks) u)
  (hb:∀b,ge.has b→w'.heap[b]? =w.heap[b]?):RepS X γ' w' ge (e.void ks):=by
 cases e with
 | box cells=>
   obtain ⟨b,h1,h2⟩:=h
   refine ⟨b,h1,h2.map_ (hb b (.inl h1.1)) (fun us h=>⟨by rw [voidL_length];exact h.1,fun k c u hc hu=> ?_⟩) (fun _ _ _ _ _ _ h=>by rw [h];rfl)⟩
   rw [voidL_get] at hc
   obtain ⟨c0,h0,rfl⟩:=Option.map_eq_some_iff.1 hc
   exact hr _ _ (h.2 k c0 u h0 hu)
 | row τ e z n f=>
   obtain ⟨vs,h1,h2,h2',h3,h4,h5,h6,h7⟩:=h
   refine ⟨vs,h1,h2,h2', ?_,h4,h5,h6,fun i j c u hi hc hu=> ?_⟩
   ·obtain ⟨hl,ho⟩:=h3
    refine ⟨hl, ?_⟩
    rcases ho with ho | ⟨g,cap,cur,fz,hv,hh,rest⟩
    ·exact .inl ho
    ·refine .inr ⟨g,cap,cur,fz,hv, ?_,rest⟩
     rw [hb g (.inl (by rw [h2,hv];rfl))];exact hh
   ·have:=hr _ _ (h7 i j c u hi hc hu)
    rwa [flat_void (h6 i hi c (List.mem_of_getElem? hc))] at this
 | bld T e s=>
   obtain ⟨b,p,v,h1,h2,h3,h4,⟨hl,ho⟩,h6⟩:=h
   refine ⟨b,p,v,h1,h2,h3,by rw [hb b (.inl h1)];exact h4,⟨hl, ?_⟩,h6⟩
   rcases ho with ho | ⟨g,cap,cur,fz,hv,hg,hh,rest⟩
   ·exact .inl ho
   ·refine .inr ⟨g,cap,cur,fz,hv,hg, ?_,rest⟩
    rw [hb g (.inr (by rw [h2,hv];rfl))];exact hh
theorem EffOK.add {E:Eff} {v:Value} {w':World} {d:Nat} {ge:GE} {e:SE} (hst:RepSt X γ w st) (hX:∀b,X.as b∨X.ls b→b<w.heap.size)
  (hd:st d=none) (hk:E.kill= []) (hw:Keeps (fun _=>False) w w') (hge:∀b,ge.has b→w.heap.size≤b∧b<w'.heap.size)
  (hs:(∀p u,Rep X γ w p u→Rep X (upd γ d ge) w' p u)→RepS X (upd γ d ge) w' ge e) (hv:(∀p u,Rep X γ w p u→Rep X (upd γ d ge) w' p u)→Rep X (upd γ d ge) w' E.val v) (hfx:fixR e=false:=by rfl):
  EffOK X γ w st E v w' (upd γ d ge) (upd st d e):=by
 have hγd:γ d=none:=by
  have:=hst.dom d
  rw [hd] at this
  cases hg:γ d with
  | none=>rfl
  | some _=>rw [hg] at this;cases this
 have hown:∀b,Gh.own (upd γ d ge) b→γ.own b∨w.heap.size≤b:=by
  rintro b ⟨r,g,hg,hb⟩
  by_cases hr:r=d
  ·subst hr;rw [upd_same] at hg;injection hg with hg;subst hg;exact .inr (hge b hb).1
  ·rw [upd_ne γ _ hr] at hg;exact .inl ⟨r,g,hg,hb⟩
 have hmono:∀p u,Rep X γ w p u→Rep X (upd γ d ge) w' p u:=fun p u h=>h.mono (fun r g hg=>by
  rw [upd_ne γ _ (by rintro rfl;rw [hγd] at hg;cases hg)];exact hg) hown hw.size (fun b _ hb=>hw.block b hb (fun h=>h))
 refine ⟨hv hmono,fun p u h=>by rw [hk,void_nil];exact hmono p u h, ?_,hw.mono (fun _ _ h=>h.elim), ?_,fun r l h=> ?_,fun r T e' s h=> ?_,fun r e' h hf=> ?_⟩
 rotate_right
 ·by_cases hr:r=d
  ·subst hr;rw [upd_same] at h;injection h with h;subst h;rw [hfx] at hf;cases hf
  ·rw [upd_ne st _ hr] at h;exact ⟨⟨e',h,hf⟩,by rw [hk];simp⟩
 rotate_right
 ·obtain ⟨g,hg⟩:=hst.get h
  have hr:r≠d:=by rintro rfl;rw [hd] at h;cases h
  rw [upd_ne γ _ hr,upd_ne st _ hr]
  exact ⟨g,g,hg,hg,rfl,rfl,T,e',s,h⟩
 ·refine ⟨fun r=> ?_,fun r g e' hg he=> ?_,fun r r' g g' b hg hg' hb hb'=> ?_,fun b hb=> ?_,fun b hb=> ?_,glob_keep hst.glob (fun b hlt _=>hw.block b hlt (fun h=>h)) hown⟩
  ·by_cases hr:r=d
   ·subst hr;rw [upd_same,upd_same];rfl
   ·rw [upd_ne γ _ hr,upd_ne st _ hr];exact hst.dom r
  ·by_cases hr:r=d
   ·subst hr;rw [upd_same] at hg he;injection hg with hg;injection he with he;subst hg;subst he;exact hs hmono
   ·rw [upd_ne γ _ hr] at hg;rw [upd_ne st _ hr] at he
    exact (hst.at_ r g e' hg he).mono hmono fun b hb=>hw.block b (hst.lt b ⟨r,g,hg,hb⟩) (fun h=>h)
  ·by_cases hr:r=d<;>by_cases hr':r'=d
   ·rw [hr,hr']
   ·subst hr;rw [upd_same] at hg;rw [upd_ne γ _ hr'] at hg';injection hg with hg;subst hg
    exact absurd (hst.lt b ⟨r',g',hg',hb'⟩) (by have:=(hge b hb).1;omega)
   ·subst hr';rw [upd_same] at hg';rw [upd_ne γ _ hr] at hg;injection hg' with hg';subst hg'
    exact absurd (hst.lt b ⟨r,g,hg,hb⟩) (by have:=(hge b hb').1;omega)
   ·rw [upd_ne γ _ hr] at hg;rw [upd_ne γ _ hr'] at hg';exact hst.inj r r' g g' b hg hg' hb hb'
  ·rcases hown b hb with h | h
   ·exact hst.asOff b h
   ·exact ⟨fun ha=>by have:=hX b (.inl ha);omega,fun ha=>by have:=hX b (.inr ha);omega⟩
  ·obtain ⟨r,g,hg,hb⟩:=hb
   by_cases hr:r=d
   ·subst hr;rw [upd_same] at hg;injection hg with hg;subst hg;exact (hge b hb).2
   ·rw [upd_ne γ _ hr] at hg;exact Nat.lt_of_lt_of_le (hst.lt b ⟨r,g,hg,hb⟩) hw.size
 ·intro r g b hg hb
  by_cases hr:r=d
  ·subst hr;rw [upd_same] at hg;injection hg with hg;subst hg;exact .inl (hge b hb).1
  ·rw [upd_ne γ _ hr] at hg;exact .inr ⟨g,hg,hb⟩
 ·have hr:r≠d:=by rintro rfl;rw [hd] at h;cases h
  rw [upd_ne γ _ hr,upd_ne st _ hr]
  exact ⟨rfl,l,h⟩
theorem EffOK.write {E:Eff} {v:Value} {w':World} {r b:Nat} {ge:GE} {e e0:SE} (hst:RepSt X γ w st) (hγ:γ r=some ge) (hb:ge.blk=some b) (he0:st r=some e0)
  (hk:E.kill= []) (hw:Keeps (· =b) w w') (hs:(∀p u,Rep X γ w p u→Rep X γ w' p u)→RepS X γ w' ge e) (hv:E.val= .junk)
  (hbox:∀l,e0= .box l→∃l',e= .box l') (hnbl:e0.kind≠2:=by simp [SE.kind]) (hfx:fixR e=true→fixR e0=true:=by first | exact fun h=>h | exact fun h=>(by cases h)):EffOK X γ w st E v w' γ (upd st r e):=by
 have hmono:∀p u,Rep X γ w p u→Rep X γ w' p u:=fun p u h=>h.mono (fun _ _ h=>h) (fun _ h=> .inl h) hw.size
  (fun x hx hlt=>hw.block x hlt (by rintro rfl;exact hx ⟨r,ge,hγ, .inl hb⟩))
 refine ⟨by rw [hv];exact .junk _,fun p u h=>by rw [hk,void_nil];exact hmono p u h, ?_,hw.mono (by rintro i _ rfl;exact ⟨r,ge,hγ, .inl hb⟩),fun r ge b hr hb=> .inr ⟨ge,hr,hb⟩,fun r' l h=>⟨rfl, ?_⟩,fun r' T e' s h=> ?_,fun r' e' h hf=> ?_⟩
 rotate_right
 ·refine ⟨?_,by rw [hk];simp⟩
  by_cases hr:r'=r
  ·subst hr;rw [upd_same] at h;injection h with h;subst h;exact ⟨e0,he0,hfx hf⟩
  ·rw [upd_ne st _ hr] at h;exact ⟨e',h,hf⟩
 rotate_right
 ·obtain ⟨g,hg⟩:=hst.get h
  have hr:r'≠r:=by
   rintro rfl
   rw [he0] at h;injection h with h
   exact hnbl (by rw [h];rfl)
  exact ⟨g,g,hg,hg,rfl,rfl,T,e',s,by rw [upd_ne st _ hr];exact h⟩
 ·refine ⟨fun x=> ?_,fun x g e' hg he=> ?_,hst.inj,hst.asOff,fun x hx=>Nat.lt_of_lt_of_le (hst.lt x hx) hw.size,glob_keep hst.glob (fun x hlt ho=>hw.block x hlt (by rintro rfl;exact ho ⟨r,ge,hγ, .inl hb⟩)) (fun _ h=> .inl h)⟩
  ·by_cases hx:x=r
   ·subst hx;rw [upd_same,hγ];rfl
   ·rw [upd_ne st _ hx];exact hst.dom x
  ·by_cases hx:x=r
   ·subst hx
    rw [upd_same] at he;injection he with he;subst he
    rw [hγ] at hg;injection hg with hg;subst hg
    exact hs hmono
   ·rw [upd_ne st _ hx] at he
    refine (hst.at_ x g e' hg he).mono hmono fun y hy=>hw.block y (hst.lt y ⟨x,g,hg,hy⟩) ?_
    rintro rfl
    exact hx (hst.inj x r g ge y hg hγ hy (.inl hb))
 ·by_cases hx:r'=r
  ·subst hx
   rw [he0] at h;injection h with h
   obtain ⟨l',hl'⟩:=hbox l h
   exact ⟨l',by rw [upd_same,hl']⟩
  ·exact ⟨l,by rw [upd_ne st _ hx];exact h⟩
theorem EffOK.writeR {E:Eff} {v:Value} {w':World} {r:Nat} {ge:GE} {e e0:SE} (hst:RepSt X γ w st) (hγ:γ r=some ge) (he0:st r=some e0)
  (hk:E.kill= []) (hw:Keeps (fun b=>ge.has b) w w') (hs:(∀p u,Rep X γ w p u→Rep X γ w' p u)→RepS X γ w' ge e) (hv:Rep X γ w' E.val v) (hk0:e0.kind=1) (hfx:fixR e=true→fixR e0=true):EffOK X γ w st E v w' γ (upd st r e):=by
 have hmono:∀p u,Rep X γ w p u→Rep X γ w' p u:=fun p u h=>h.mono (fun _ _ h=>h) (fun _ h=> .inl h) hw.size
  (fun x hx hlt=>hw.block x hlt (fun hb=>hx ⟨r,ge,hγ,hb⟩))
 refine ⟨hv,fun p u h=>by rw [hk,void_nil];exact hmono p u h, ?_,hw.mono (fun i _ hb=>⟨r,ge,hγ,hb⟩),fun r ge b hr hb=> .inr ⟨ge,hr,hb⟩,fun r' l h=>⟨rfl, ?_⟩,fun r' T e' s h=> ?_,fun r' e' h hf=> ?_⟩
 rotate_right
 ·refine ⟨?_,by rw [hk];simp⟩
  by_cases hr:r'=r
  ·subst hr;rw [upd_same] at h;injection h with h;subst h;exact ⟨e0,he0,hfx hf⟩
  ·rw [upd_ne st _ hr] at h;exact ⟨e',h,hf⟩
 rotate_right
 ·obtain ⟨g,hg⟩:=hst.get h
  have hr:r'≠r:=by
   rintro rfl
   rw [he0] at h;injection h with h
   rw [h] at hk0;cases hk0
  exact ⟨g,g,hg,hg,rfl,rfl,T,e',s,by rw [upd_ne st _ hr];exact h⟩
 ·refine ⟨fun x=> ?_,fun x g e' hg he=> ?_,hst.inj,hst.asOff,fun x hx=>Nat.lt_of_lt_of_le (hst.lt x hx) hw.size,glob_keep hst.glob (fun x hlt ho=>hw.block x hlt (fun hb=>ho ⟨r,ge,hγ,hb⟩)) (fun _ h=> .inl h)⟩
  ·by_cases hx:x=r
   ·subst hx;rw [upd_same,hγ];rfl
   ·rw [upd_ne st _ hx];exact hst.dom x
  ·by_cases hx:x=r
   ·subst hx
    rw [upd_same] at he;injection he with he;subst he
    rw [hγ] at hg;injection hg with hg;subst hg
    exact hs hmono
   ·rw [upd_ne st _ hx] at he
    refine (hst.at_ x g e' hg he).mono hmono fun y hy=>hw.block y (hst.lt y ⟨x,g,hg,hy⟩) fun hb=> ?_
    exact hx (hst.inj x r g ge y hg hγ hy hb)
 ·have hr:r'≠r:=by
    rintro rfl
    rw [he0] at h;injection h with h
    rw [h] at hk0;cases hk0
  exact ⟨l,by rw [upd_ne st _ hr];exact h⟩
theorem EffOK.app {E:Eff} {v:Value} {w':World} {r:Nat} {ge ge':GE} {e e0:SE} (hst:RepSt X γ w st) (hX:∀b,X.as b∨X.ls b→b<w.heap.size) (hγ:γ r=some ge) (he0:st r=some e0)
  (hnb:∀l,e0≠ .box l) (hk:E.kill= [r]) (hw:Keeps (fun b=>ge.blk=some b) w w') (hge0:∀b,ge'.blk=some b→ge.blk=some b∨(w.heap.size≤b)) (hlt0:∀b,ge'.blk=some b→b<w'.heap.size)
  (hs:(∀p u,Rep X γ w p u→Rep X (upd γ r ge') w' (p.void [r]) u)→RepS X (upd γ r ge') w' ge' e) (hv:Rep X (upd γ r ge') w' E.val v)
  (hgr:ge'.blk=ge'.hdr.ownBlock:=by rfl) (hnbl:e0.kind≠2:=by simp [SE.kind]) (hfx:fixR e=false:=by rfl):EffOK X γ w st E v w' (upd γ r ge') (upd (voidS [r] st) r e):=by
 have hge:∀b,ge'.has b→ge.has b∨(w.heap.size≤b):=fun b hb=>(hge0 b ((GE.has_row hgr).1 hb)).imp .inl id
 have hlt:∀b,ge'.has b→b<w'.heap.size:=fun b hb=>hlt0 b ((GE.has_row hgr).1 hb)
 have hown:∀b,Gh.own (upd γ r ge') b→γ.own b∨w.heap.size≤b:=by
  rintro b ⟨x,g,hg,hb⟩
  by_cases hx:x=r
  ·subst hx;rw [upd_same] at hg;injection hg with hg;subst hg
   exact (hge b hb).imp (fun h=>⟨x,ge,hγ,h⟩) id
  ·rw [upd_ne γ _ hx] at hg;exact .inl ⟨x,g,hg,hb⟩
 have hmono:∀p u,Rep X γ w p u→Rep X (upd γ r ge') w' (p.void [r]) u:=fun p u h=>h.move (fun x g hx hg=>by
  rw [upd_ne γ _ (by simpa using hx)];exact hg) hown hw.size (fun b hb hlt=>hw.block b hlt (fun h=>hb ⟨r,ge,hγ, .inl h⟩))
 refine ⟨hv,fun p u h=>by rw [hk];exact hmono p u h, ?_,hw.mono (fun i _ h=>⟨r,ge,hγ, .inl h⟩), ?_,fun r' l h=> ?_,fun r' T e' s h=> ?_,fun r' e' h hf=> ?_⟩
 rotate_right
 ·by_cases hr:r'=r
  ·subst hr;rw [upd_same] at h;injection h with h;subst h;rw [hfx] at hf;cases hf
  ·rw [upd_ne _ _ hr] at h
   unfold voidS at h
   obtain ⟨e1,he1,rfl⟩:=Option.map_eq_some_iff.1 h
   exact ⟨⟨e1,he1,by cases e1<;>exact hf⟩,by rw [hk];simpa using hr⟩
 rotate_right
 ·obtain ⟨g,hg⟩:=hst.get h
  have hr:r'≠r:=by
   rintro rfl
   rw [he0] at h;injection h with h
   exact hnbl (by rw [h];rfl)
  rw [upd_ne γ _ hr,upd_ne _ _ hr]
  exact ⟨g,g,hg,hg,rfl,rfl,T,e',s,by unfold voidS;rw [h];rfl⟩
 ·refine ⟨fun x=> ?_,fun x g e' hg he=> ?_,fun x x' g g' b hg hg' hb hb'=> ?_,fun b hb=> ?_,fun b hb=> ?_,glob_keep hst.glob (fun b hlt ho=>hw.block b hlt (fun h=>ho ⟨r,ge,hγ, .inl h⟩)) hown⟩
  ·by_cases hx:x=r
   ·subst hx;rw [upd_same,upd_same];rfl
   ·rw [upd_ne γ _ hx,upd_ne _ _ hx];unfold voidS;have:=hst.dom x;cases h1:st x<;>simp_all
  ·by_cases hx:x=r
   ·subst hx;rw [upd_same] at hg he;injection hg with hg;injection he with he;subst hg;subst he;exact hs hmono
   ·rw [upd_ne γ _ hx] at hg;rw [upd_ne _ _ hx] at he
    unfold voidS at he
    obtain ⟨e1,he1,rfl⟩:=Option.map_eq_some_iff.1 he
    refine (hst.at_ x g e1 hg he1).void hmono fun b hb=>hw.block b (hst.lt b ⟨x,g,hg,hb⟩) (fun h=>hx (hst.inj x r g ge b hg hγ hb (.inl h)))
  ·by_cases hx:x=r<;>by_cases hx':x'=r
   ·rw [hx,hx']
   ·subst hx;rw [upd_same] at hg;rw [upd_ne γ _ hx'] at hg';injection hg with hg;subst hg
    rcases hge b hb with h | h
    ·exact absurd (hst.inj x' x g' ge b hg' hγ hb' h) hx'
    ·exact absurd (hst.lt b ⟨x',g',hg',hb'⟩) (by omega)
   ·subst hx';rw [upd_same] at hg';rw [upd_ne γ _ hx] at hg;injection hg' with hg';subst hg'
    rcases hge b hb' with h | h
    ·exact absurd (hst.inj x x' g ge b hg hγ hb h) hx
    ·exact absurd (hst.lt b ⟨x,g,hg,hb⟩) (by omega)
   ·rw [upd_ne γ _ hx] at hg;rw [upd_ne γ _ hx'] at hg';exact hst.inj x x' g g' b hg hg' hb hb'
  ·rcases hown b hb with h | h
   ·exact hst.asOff b h
   ·exact ⟨fun ha=>by have:=hX b (.inl ha);omega,fun ha=>by have:=hX b (.inr ha);omega⟩
  ·obtain ⟨x,g,hg,hb⟩:=hb
   by_cases hx:x=r
   ·subst hx;rw [upd_same] at hg;injection hg with hg;subst hg;exact hlt b hb
   ·rw [upd_ne γ _ hx] at hg;exact Nat.lt_of_lt_of_le (hst.lt b ⟨x,g,hg,hb⟩) hw.size
 ·intro x g b hg hb
  by_cases hx:x=r
  ·subst hx;rw [upd_same] at hg;injection hg with hg;subst hg
   exact (hge b hb).symm.imp id fun h=>⟨ge,hγ,h⟩
  ·rw [upd_ne γ _ hx] at hg;exact .inr ⟨g,hg,hb⟩
 ·have hx:r'≠r:=by rintro rfl;rw [he0] at h;injection h with h;exact hnb l h
  rw [upd_ne γ _ hx,upd_ne _ _ hx]
  refine ⟨rfl,PV.voidL [r] l, ?_⟩
  unfold voidS;rw [h];rfl
theorem EffOK.swap {E:Eff} {v:Value} {w':World} {d:Nat} {ge:GE} {e:SE} {ids:List Nat} (hst:RepSt X γ w st) (hX:∀b,X.as b∨X.ls b→b<w.heap.size)
  (hd:rmS ids (voidS ids st) d=none) (hnb:∀r∈ids,∀l,st r≠some (.box l)) (hnbl:∀r∈ids,∀T e s,st r≠some (.bld T e s)) (hk:E.kill=ids) (hw:Keeps (fun _=>False) w w') (hge:∀b,ge.has b→w.heap.size≤b∧b<w'.heap.size)
  (hs:(∀p u,Rep X γ w p u→Rep X (upd (fun r=>if r∈ids then none else γ r) d ge) w' (p.void ids) u)→RepS X (upd (fun r=>if r∈ids then none else γ r) d ge) w' ge e)
  (hv:Rep X (upd (fun r=>if r∈ids then none else γ r) d ge) w' E.val v) (hfx:fixR e=false):
  EffOK X γ w st E v w' (upd (fun r=>if r∈ids then none else γ r) d ge) (upd (rmS ids (voidS ids st)) d e):=by
 have hγd:d∉ids→γ d=none:=fun hdi=>by
  have:=hst.dom d
  unfold rmS voidS at hd
  rw [if_neg hdi] at hd
  cases hs':st d with
  | none=>rw [hs'] at this;cases hg:γ d with
    | none=>rfl
    | some _=>rw [hg] at this;cases this
  | some _=>rw [hs'] at hd;cases hd
 have hown:∀b,Gh.own (upd (fun r=>if r∈ids then none else γ r) d ge) b→γ.own b∨w.heap.size≤b:=by
  rintro b ⟨r,g,hg,hb⟩
  by_cases hr:r=d
  ·subst hr;rw [upd_same] at hg;injection hg with hg;subst hg;exact .inr (hge b hb).1
  ·rw [upd_ne _ _ hr] at hg
   split at hg
   ·cases hg
   ·exact .inl ⟨r,g,hg,hb⟩
 have hmono:∀p u,Rep X γ w p u→Rep X (upd (fun r=>if r∈ids then none else γ r) d ge) w' (p.void ids) u:=fun p u h=>h.move (fun r g hr hg=>by
  rw [upd_ne _ _ (by rintro rfl;rw [hγd hr] at hg;cases hg),if_neg hr];exact hg) hown hw.size (fun b _ hb=>hw.block b hb (fun h=>h))
 refine ⟨hv,fun p u h=>by rw [hk];exact hmono p u h, ?_,hw.mono (fun _ _ h=>h.elim), ?_,fun r l h=> ?_,fun r T e' s h=> ?_,fun r e' h hf=> ?_⟩
 rotate_right
 ·by_cases hr:r=d
  ·subst hr;rw [upd_same] at h;injection h with h;subst h;rw [hfx] at hf;cases hf
  ·rw [upd_ne _ _ hr] at h
   unfold rmS voidS at h
   split at h
   ·cases h
   ·rename_i hri
    obtain ⟨e1,he1,rfl⟩:=Option.map_eq_some_iff.1 h
    exact ⟨⟨e1,he1,by cases e1<;>exact hf⟩,by rw [hk];exact hri⟩
 rotate_right
 ·obtain ⟨g,hg⟩:=hst.get h
  have hri:r∉ids:=fun hi=>hnbl r hi T e' s h
  have hr:r≠d:=by
   rintro rfl
   have:=hst.dom r
   rw [hγd hri,h] at this;cases this
  rw [upd_ne _ _ hr,upd_ne _ _ hr,if_neg hri]
  exact ⟨g,g,hg,hg,rfl,rfl,T,e',s,by unfold rmS voidS;rw [if_neg hri,h];rfl⟩
 ·refine ⟨fun r=> ?_,fun r g e' hg he=> ?_,fun r r' g g' b hg hg' hb hb'=> ?_,fun b hb=> ?_,fun b hb=> ?_,glob_keep hst.glob (fun b hlt _=>hw.block b hlt (fun h=>h)) hown⟩
  ·by_cases hr:r=d
   ·subst hr;rw [upd_same,upd_same];rfl
   ·rw [upd_ne _ _ hr,upd_ne _ _ hr]
    unfold rmS voidS
    split
    ·rfl
    ·have:=hst.dom r;cases h1:st r<;>simp_all
  ·by_cases hr:r=d
   ·subst hr;rw [upd_same] at hg he;injection hg with hg;injection he with he;subst hg;subst he;exact hs hmono
   ·rw [upd_ne _ _ hr] at hg;rw [upd_ne _ _ hr] at he
    unfold rmS voidS at he
    split at hg
    ·cases hg
    ·rename_i hni
     rw [if_neg hni] at he
     obtain ⟨e1,he1,rfl⟩:=Option.map_eq_some_iff.1 he
     exact (hst.at_ r g e1 hg he1).void hmono fun b hb=>hw.block b (hst.lt b ⟨r,g,hg,hb⟩) (fun h=>h)
  ·by_cases hr:r=d<;>by_cases hr':r'=d
   ·rw [hr,hr']
   ·subst hr;rw [upd_same] at hg;rw [upd_ne _ _ hr'] at hg';injection hg with hg;subst hg
    split at hg'
    ·cases hg'
    ·exact absurd (hst.lt b ⟨r',g',hg',hb'⟩) (by have:=(hge b hb).1;omega)
   ·subst hr';rw [upd_same] at hg';rw [upd_ne _ _ hr] at hg;injection hg' with hg';subst hg'
    split at hg
    ·cases hg
    ·exact absurd (hst.lt b ⟨r,g,hg,hb⟩) (by have:=(hge b hb').1;omega)
   ·rw [upd_ne _ _ hr] at hg;rw [upd_ne _ _ hr'] at hg'
    split at hg
    ·cases hg
    ·split at hg'
     ·cases hg'
     ·exact hst.inj r r' g g' b hg hg' hb hb'
  ·rcases hown b hb with h | h
   ·exact hst.asOff b h
   ·exact ⟨fun ha=>by have:=hX b (.inl ha);omega,fun ha=>by have:=hX b (.inr ha);omega⟩
  ·obtain ⟨r,g,hg,hb⟩:=hb
   by_cases hr:r=d
   ·subst hr;rw [upd_same] at hg;injection hg with hg;subst hg;exact (hge b hb).2
   ·rw [upd_ne _ _ hr] at hg
    split at hg
    ·cases hg
    ·exact Nat.lt_of_lt_of_le (hst.lt b ⟨r,g,hg,hb⟩) hw.size
 ·intro r g b hg hb
  by_cases hr:r=d
  ·subst hr;rw [upd_same] at hg;injection hg with hg;subst hg;exact .inl (hge b hb).1
  ·rw [upd_ne _ _ hr] at hg
   split at hg
   ·cases hg
   ·exact .inr ⟨g,hg,hb⟩
 ·have hri:r∉ids:=fun hi=>hnb r hi l h
  have hr:r≠d:=by
   rintro rfl
   have:=hst.dom r
   rw [hγd hri,h] at this;cases this
  rw [upd_ne _ _ hr,upd_ne _ _ hr,if_neg hri]
  refine ⟨rfl,PV.voidL ids l, ?_⟩
  unfold rmS voidS;rw [if_neg hri,h];rfl
end
open Go.RowKit
def Snd (P:Program) (X:Cx) (γ:Gh) (w:World) (st:Nat→Option SE) (E:Eff) (st':Nat→Option SE) (m:Sem Next):Prop:=
 ∃nx v w' γ',m.run P w= .ok nx w'∧(nx= .value v∨(nx= .skip∧v=undef))∧EffOK X γ w st E v w' γ' st'
section
variable {P:Program} {X:Cx} {γ:Gh} {w:World} {st st':Nat→Option SE}
theorem still_st {E:Eff} {d:Nat} (h:E.still) (hn:newSt d E.kill E.rm E.wr E.nw st=some st'):st'=st:=by
 rw [h.1,h.2.1,h.2.2.1,h.2.2.2] at hn
 simp only [newSt,Option.some.injEq] at hn;exact hn.symm
theorem Snd.good {E:Eff} {d:Nat} {m:Sem Value} (hst:RepSt X γ w st) (h:Good P X γ w E m) (hn:newSt d E.kill E.rm E.wr E.nw st=some st'):
  Snd P X γ w st E st' (do pure (.value (←m))):=by
 obtain ⟨hE,v,hr,hv⟩:=h
 cases still_st hE hn
 exact ⟨_,v,w,γ,by simp [hr], .inl rfl,EffOK.still hE hst hv⟩
theorem Snd.val {E:Eff} {d:Nat} {v:Value} (hst:RepSt X γ w st) (hE:E.still) (hv:Rep X γ w E.val v) (hn:newSt d E.kill E.rm E.wr E.nw st=some st'):
  Snd P X γ w st E st' (pure (.value v)):=by
 cases still_st hE hn
 exact ⟨_,v,w,γ,rfl, .inl rfl,EffOK.still hE hst hv⟩
theorem setAt_length (cs:List PV) (off:Nat) (new:List PV) (h:off+new.length≤cs.length):(setAt cs off new).length=cs.length:=by
 simp [setAt];omega
theorem RepL.setAt_ {cs new:List PV} {us vs:List Value} {off:Nat} (h:RepL X γ w cs us) (hn:RepL X γ w new vs):
  RepL X γ w (setAt cs off new) (us.take off++vs++us.drop (off+vs.length)):=by
 rw [List.append_assoc]
 refine (h.take off).append (hn.append ?_)
 rw [hn.1];exact h.drop _
theorem setRow_keeps (w:World) (b:Nat) (cs:Array Value):Keeps (· =b) w (w.setRow b cs):=
 ⟨rfl,rfl,rfl,by simp [World.setRow],fun k _ hk=>setRow_other w b k cs hk⟩
theorem run_storeCells_off (P:Program) (g o:Nat) (t:TypeId) (fz:Nat×Nat):∀(vs:List Value) (i:Nat) (cur:Array Value) (w:World),w.heap[g]? =some (.cells cur t fz)→fzOff cur.size fz→o+i+vs.length≤cur.size→(∀v∈vs,v.oneCell'=true)→
  (storeCells ⟨g,o,none⟩ vs i).run P w= .ok () (w.setRow g (cur.toList.take (o+i)++vs++cur.toList.drop (o+i+vs.length)).toArray)
 | [],i,cur,w,hg,_,_,_=>by
   simp only [storeCells,List.append_nil,List.length_nil,Nat.add_zero,List.take_append_drop,Array.toArray_toList]
   rw [setRow_self w g cur t fz hg]
   rfl
 | v::rest,i,cur,w,hg,hfz,hl,h1=>by
   have hi:o+i<cur.size:=by simp at hl;omega
   have hadd:(⟨g,o,none⟩:Addr).add i=⟨g,o+i,none⟩:=by unfold Addr.add;split<;>simp_all
   have hcell:w.cell? ⟨g,o+i,none⟩=some cur[o+i]:=by simp [World.cell?,hg,hi]
   have hfro:w.frozen? ⟨g,o+i,none⟩=false:=by
    obtain ⟨lo,hi'⟩:=fz
    unfold fzOff at hfz
    simp only [World.frozen?,hg,Bool.and_eq_false_iff,decide_eq_false_iff_not]
    simp only at hfz
    omega
   have hst:(store ((⟨g,o,none⟩:Addr).add i) v).run P w= .ok () (w.setRow g (cur.setIfInBounds (o+i) v)):=by
    rw [hadd,run_store P w _ v _ (h1 v (by simp)),hcell]
    simp [hfro,setCell_eq_setRow w g (o+i) cur t fz v hg]
   have ih:=run_storeCells_off P g o t fz rest (i+1) (cur.setIfInBounds (o+i) v) (w.setRow g (cur.setIfInBounds (o+i) v)) (setRow_heap w g cur _ t _ hg) (by simpa using hfz) (by simp at hl⊢;omega) (fun x hx=>h1 x (by simp [hx]))
   simp only [storeCells,Sem.run_bind,hst,Result.andThen_ok,ih,setRow_setRow]
   congr 3
   have e:=list_seg_step cur.toList (o+i) v rest (by simp at hl⊢;omega)
   simpa [Array.toList_setIfInBounds,Nat.add_assoc] using e
theorem run_storeAt_ {t:TypeId} {b off:Nat} {T:TypeId} {fz:Nat×Nat} {cur:Array Value} {v:Value} (hz:0<P.cellsOf t) (hg:w.heap[b]? =some (.cells cur T fz)) (hfz:fzOff cur.size fz)
  (hl:v.cells.toList.length=P.cellsOf t) (hfit:off+P.cellsOf t≤cur.size) (h1:∀u∈v.cells.toList,u.oneCell'=true):
  (Instr.storeAt t (.pointer (some ⟨b,off,none⟩)) v).run P w= .ok () (w.setRow b (cur.toList.take off++v.cells.toList++cur.toList.drop (off+v.cells.toList.length)).toArray):=by
 obtain ⟨i,hi,hs⟩:=info_of_size hz
 have hst:=run_storeCells_off P b off T fz v.cells.toList 0 cur w hg hfz (by rw [hl];omega) h1
 simp only [Nat.add_zero] at hst
 have hsz:v.cells.size=P.cellsOf t:=by rw [←hl];simp
 simp only [Instr.storeAt,Instr.sureAddr,pure_bind,storeVar,Sem.run_bind,run_sizeOf w hi,Result.andThen_ok,hsz,ne_eq,not_true_eq_false,if_false,hst]
theorem st_box_sound {t:TypeId} {r i j:Nat} {p:PV} {u v:Value} {cells:List PV} (hst:RepSt X γ w st) (hz:0<P.cellsOf t)
  (hu:Rep X γ w (.pt r i j) u) (hv:Rep X γ w p v) (he:st r=some (.box cells)) (hi:i=0∧mpB cells=false) (hl:p.cells.length=P.cellsOf t) (hj:j+P.cellsOf t≤cells.length) (hok:p.okCell=true)
  (E:Eff) (hE:E=⟨.junk, [], [(r, .box (setAt cells j p.cells))], [], [], []⟩) (hn:newSt 0 E.kill E.rm E.wr E.nw st=some st'):
  Snd P X γ w st E st' (do Instr.storeAt t u v;pure .skip):=by
 obtain ⟨hi,hmp⟩:=hi
 subst hE;subst hi
 obtain ⟨ge,b,hg,hb,rfl⟩:=pt_inv hu
 obtain ⟨b',T,cur,⟨hb',hb2⟩,hh,h1,hr⟩:=(hst.at_ r ge _ hg he).plain hmp
 have hbb:b'=b:=by rw [hb'] at hb;injection hb
 subst hbb
 obtain ⟨hvr,hv1⟩:=hv.cells_ hok
 have hcl:v.cells.toList.length=P.cellsOf t:=by rw [hvr.1];exact hl
 have hcs:cur.size=cells.length:=by have:=hr.1;simpa using this
 have e0:0*ge.z+j=j:=by omega
 rw [e0]
 have hrun:=run_storeAt_ (P:=P) (w:=w) (off:=j) hz hh (.inl rfl) hcl (by rw [hcs];omega) hv1
 simp only [newSt_eq,voidS_nil,rmS_nil,wrS,nwS,Option.some.injEq] at hn
 subst hn
 refine ⟨.skip,undef,_,γ,by simp only [Sem.run_bind,hrun,Result.andThen_ok,Sem.run_pure];rfl, .inr ⟨rfl,rfl⟩,EffOK.write hst hg hb he rfl (setRow_keeps w b' _) (fun hm=> ?_) rfl (fun l _=>⟨_,rfl⟩)⟩
 refine ⟨b',⟨hb,hb2⟩, .inl ⟨T,_,setRow_heap w b' _ _ T _ hh, ?_, ?_⟩⟩
 ·intro x hx
  simp only [List.mem_append] at hx
  rcases hx with (hx | hx) | hx
  ·exact h1 x (List.mem_of_mem_take hx)
  ·exact hv1 x hx
  ·exact h1 x (List.mem_of_mem_drop hx)
 ·have:=(RepL.setAt_ (off:=j) hr hvr)
  exact ⟨this.1,fun k c u hc hu=>hm _ _ (this.2 k c u hc hu)⟩
theorem alloc_keeps (w:World) (o:Obj):Keeps (fun _=>False) w (w.alloc o):=Keeps.alloc _ w o
theorem new_box {cells:List PV} {us:List Value} {T:TypeId} {d:Nat} (hst:RepSt X γ w st) (hX:∀b,X.as b∨X.ls b→b<w.heap.size) (hr:RepL X γ w cells us) (h1:∀u∈us,u.oneCell'=true)
  (E:Eff) (hE:E=⟨.pt d 0 0, [], [], [.box cells], [], []⟩) (hn:newSt d E.kill E.rm E.wr E.nw st=some st') (m:Sem Value)
  (hm:m.run P w= .ok (.pointer (some ⟨w.heap.size,0,none⟩)) (w.alloc (.cells us.toArray T))):Snd P X γ w st E st' (do pure (.value (←m))):=by
 subst hE
 simp only [newSt_eq,voidS_nil,rmS_nil,wrS,nwS] at hn
 cases hd:st d with
 | some _=>rw [hd] at hn;cases hn
 | none=>
   rw [hd] at hn;injection hn with hn;subst hn
   have hpt:∀w',Rep X (upd γ d ⟨some w.heap.size,undef,0⟩) w' (.pt d 0 0) (.pointer (some ⟨w.heap.size,0,none⟩)):=fun w'=>by
    have:=Rep.pt (X:=X) (γ:=upd γ d ⟨some w.heap.size,undef,0⟩) (w:=w') d 0 0 _ _ (upd_same _ _ _) rfl
    simpa using this
   refine ⟨_,_,_,_,by simp [hm];rfl, .inl rfl,EffOK.add (ge:=⟨some w.heap.size,undef,0⟩) hst hX hd rfl (alloc_keeps w _) (fun b hb=> ?_) (fun hmono=> ?_) (fun _=>hpt _)⟩
   ·rcases hb with hb | hb
    ·injection hb with hb;subst hb;exact ⟨Nat.le_refl _,by simp⟩
    ·cases hb
   ·exact ⟨w.heap.size,⟨rfl,rfl⟩, .inl ⟨T,us.toArray,heap_alloc_new w _,by simpa using h1,by simpa using hr.1,fun k c u hc hu=>hmono _ _ (hr.2 k c u hc (by simpa using hu))⟩⟩
theorem new_bld {T e:TypeId} {d:Nat} (hst:RepSt X γ w st) (hX:∀b,X.as b∨X.ls b→b<w.heap.size)
  (E:Eff) (hE:E=⟨.pt d 0 0, [], [], [.bld T e []], [], []⟩) (hn:newSt d E.kill E.rm E.wr E.nw st=some st') (m:Sem Value)
  (hm:m.run P w= .ok (.pointer (some ⟨w.heap.size,0,none⟩)) (w.alloc (.cells #[.pointer none, .slice none 0 0] T))):Snd P X γ w st E st' (do pure (.value (←m))):=by
 subst hE
 simp only [newSt_eq,voidS_nil,rmS_nil,wrS,nwS] at hn
 cases hd:st d with
 | some _=>rw [hd] at hn;cases hn
 | none=>
   rw [hd] at hn;injection hn with hn;subst hn
   have hpt:∀w',Rep X (upd γ d ⟨some w.heap.size, .slice none 0 0,0⟩) w' (.pt d 0 0) (.pointer (some ⟨w.heap.size,0,none⟩)):=fun w'=>by
    have:=Rep.pt (X:=X) (γ:=upd γ d ⟨some w.heap.size, .slice none 0 0,0⟩) (w:=w') d 0 0 _ _ (upd_same _ _ _) rfl
    simpa using this
   refine ⟨_,_,_,_,by simp [hm];rfl, .inl rfl,EffOK.add (ge:=⟨some w.heap.size, .slice none 0 0,0⟩) hst hX hd rfl (alloc_keeps w _) (fun b hb=> ?_) (fun hmono=> ?_) (fun _=>hpt _)⟩
   ·rcases hb with hb | hb
    ·injection hb with hb;subst hb;exact ⟨Nat.le_refl _,by simp⟩
    ·cases hb
   ·exact ⟨w.heap.size, .pointer none, .slice none 0 0,rfl,rfl, .inl rfl,heap_alloc_new w _,World.ownsRowF_nil _ 0 e 1,by intro h;cases h⟩
theorem sameCells_rep:∀{cs:List PV} {vs:List Value},sameCells cs vs=true→RepL X γ w cs vs∧∀u∈vs,u.oneCell'=true:=by
 intro cs
 induction cs with
 | nil=>intro vs h;cases vs with
   | nil=>exact ⟨RepL.nil_,by simp⟩
   | cons _ _=>simp [sameCells] at h
 | cons c cs ih=>
   intro vs h
   unfold sameCells at h
   split at h
   ·rename_i e;cases e
   ·rename_i ps vs' e;injection e with e1 e2;subst e1;subst e2
    obtain ⟨h1,h2⟩:=ih h
    exact ⟨RepL.cons_ (.bool _) h1,by simpa [Value.oneCell'] using h2⟩
   ·rename_i k ps k' vs' e;injection e with e1 e2;subst e1;subst e2
    simp only [Bool.and_eq_true,beq_iff_eq] at h
    obtain ⟨h1,h2⟩:=ih h.2
    rw [h.1]
    exact ⟨RepL.cons_ (.int _ _) h1,by simpa [Value.oneCell'] using h2⟩
   ·rename_i ps s vs' e;injection e with e1 e2;subst e1;subst e2
    simp only [Bool.and_eq_true,List.isEmpty_iff] at h
    obtain ⟨h1,h2⟩:=ih h.2
    refine ⟨RepL.cons_ ?_ h1,by simpa [Value.oneCell'] using h2⟩
    have hs:s=⟨[].toArray⟩:=by
     cases s with | mk d=>congr;apply Array.ext';simpa using h.1
    rw [hs];exact .str []
   ·rename_i z ps vs' e;injection e with e1 e2;subst e1;subst e2
    obtain ⟨h1,h2⟩:=ih h
    exact ⟨RepL.cons_ (.nil _) h1,by simpa [Value.oneCell'] using h2⟩
   ·rename_i ps vs' e;injection e with e1 e2;subst e1;subst e2
    obtain ⟨h1,h2⟩:=ih h
    exact ⟨RepL.cons_ (.raw _ rfl) h1,by simpa [Value.oneCell'] using h2⟩
   ·rename_i ps vs' e;injection e with e1 e2;subst e1;subst e2
    obtain ⟨h1,h2⟩:=ih h
    exact ⟨RepL.cons_ (.raw _ rfl) h1,by simpa [Value.oneCell'] using h2⟩
   ·rename_i ps vs' e;injection e with e1 e2;subst e1;subst e2
    obtain ⟨h1,h2⟩:=ih h
    exact ⟨RepL.cons_ (.raw _ rfl) h1,by simpa [Value.oneCell'] using h2⟩
   ·cases h
theorem zeroOf_rep {t:TypeId} {cs:List PV} (h:zeroOf P t=some cs):∃z,(zeroValue t).run P w= .ok z w∧RepL X γ w cs z.cells.toList∧(∀u∈z.cells.toList,u.oneCell'=true)∧z.cells.size=P.cellsOf t∧
  ∃i,P.info? t=some i∧i.zero=some z∧i.size=P.cellsOf t∧i.bytes=P.bytesOf t:=by
 unfold zeroOf at h
 split at h
 ·rename_i cs' z hz hi
  split at h
  ·rename_i hc
   injection h with h;subst h
   simp only [Bool.and_eq_true,beq_iff_eq] at hc
   obtain ⟨i,hi',hz'⟩:=Option.map_eq_some_iff.1 hi
   obtain ⟨h1,h2⟩:=sameCells_rep (X:=X) (γ:=γ) (w:=w) hc.1
   refine ⟨z, ?_,h1,h2,hc.2,i,hi',hz',by simp [Program.cellsOf,hi'],by simp [Program.bytesOf,hi']⟩
   simp [zeroValue,run_typeInfo w hi',hz']
  ·cases h
 ·cases h
theorem bldOf_zero {t e:TypeId} (h:bldOf P t=some e):∃z,(zeroValue t).run P w= .ok z w∧z.cells= #[.pointer none, .slice none 0 0]:=by
 have hz:zeroOf P t=some [.raw (.pointer none), .nil 1]:=by
  unfold bldOf at h
  repeat' (split at h)
  all_goals first | assumption | (cases h;done)
 obtain ⟨z,h1,hr,_⟩:=zeroOf_rep (X:=⟨0,fun _=>False,fun _=>False,0,fun _=>none, []⟩) (γ:=fun _=>none) (w:=w) hz
 refine ⟨z,h1, ?_⟩
 apply Array.ext'
 obtain ⟨u,us,hu,hu1,hus⟩:=hr.cons_inv
 obtain ⟨u2,us2,hu2,hu3,hus2⟩:=hus.cons_inv
 rw [hu,hu2,hus2.nil_inv]
 cases hu3.nil_inv
 cases hu1
 rfl
theorem foldl_set:∀(vs:List Value) (cs:Array Value) (off k:Nat),off+k+vs.length≤cs.size→
  ((vs.zipIdx k).foldl (fun (a:Array Value) (p:Value×Nat)=>a.setIfInBounds (off+p.2) p.1) cs).toList=cs.toList.take (off+k)++vs++cs.toList.drop (off+k+vs.length)
 | [],cs,off,k,h=>by simp
 | v::vs,cs,off,k,h=>by
   simp only [List.zipIdx_cons,List.foldl_cons]
   rw [foldl_set vs _ off (k+1) (by simp at h⊢;omega)]
   have hlt:off+k<cs.toList.length:=by simp at h⊢;omega
   have:=list_seg_step cs.toList (off+k) v vs (by simp at h⊢;omega)
   simp only [Array.toList_setIfInBounds,List.length_cons] at this⊢
   rw [show off+(k+1)=off+k+1 from by omega]
   simpa [Nat.add_assoc,Nat.add_comm,Nat.add_left_comm] using this
theorem zipIdx_foldl (vs:Array Value) (cs:Array Value) (off:Nat) (h:off+vs.size≤cs.size):
  (vs.zipIdx.foldl (fun (a:Array Value) (p:Value×Nat)=>a.setIfInBounds (off+p.2) p.1) cs).toList=cs.toList.take off++vs.toList++cs.toList.drop (off+vs.toList.length):=by
 have:=foldl_set vs.toList cs off 0 (by simpa using h)
 rw [←Array.foldl_toList,Array.toList_zipIdx]
 simpa using this
theorem fill_sound {ρ:Operand→Value} (place:Nat→Option (Nat×Nat)) (places:List (Nat×Nat×TypeId)) (hpl:∀i,place i=(places[i]?).map (fun x=>(x.1,x.2.1))):
  ∀(ps:List (Nat×Operand)) (qs:List (Nat×Nat×A)) (vs:List PV) (cs cs':List PV) (cur:Array Value),parts P places ps=some qs→RepL X γ w vs (ps.map fun x=>ρ x.2)→
   RepL X γ w cs cur.toList→(∀u∈cur.toList,u.oneCell'=true)→fillV cs qs vs=some cs'→
   ∃cur',Instr.fill place cur (ps.map fun x=>(x.1,ρ x.2))=some cur'∧RepL X γ w cs' cur'.toList∧(∀u∈cur'.toList,u.oneCell'=true)
 | [],qs,vs,cs,cs',cur,hp,hv,hc,h1,hf=>by
   simp only [parts,Option.some.injEq] at hp;subst hp
   cases vs with
   | nil=>simp only [fillV,Option.some.injEq] at hf;subst hf;exact ⟨cur,rfl,hc,h1⟩
   | cons _ _=>simp [fillV] at hf
 | (i,x)::ps,qs,vs,cs,cs',cur,hp,hv,hc,h1,hf=>by
   simp only [parts] at hp
   split at hp
   ·rename_i off n t r' hpi hpr
    obtain ⟨a,ha,rfl⟩:=Option.map_eq_some_iff.1 hp
    cases vs with
    | nil=>simp [fillV] at hf
    | cons v vs=>
      simp only [fillV] at hf
      split at hf
      ·rename_i hcond
       obtain ⟨hl,hfit,hok⟩:=hcond
       obtain ⟨u,us,hu,hvu,hvs⟩:=hv.cons_inv
       simp only [List.map_cons,List.cons.injEq] at hu
       obtain ⟨hu1,hu2⟩:=hu
       rw [←hu1] at hvu;rw [←hu2] at hvs
       obtain ⟨hcr,hc1⟩:=hvu.cells_ hok
       have hcl:(ρ x).cells.size=n:=by have:=hcr.1;rw [hl] at this;simpa using this
       have hcur:cur.size=cs.length:=by have:=hc.1;simpa using this
       have hz:=zipIdx_foldl (ρ x).cells cur off (by rw [hcl,hcur];exact hfit)
       have hplace:place i=some (off,n):=by rw [hpl,hpi];rfl
       obtain ⟨cur',hcur',hr',h1'⟩:=fill_sound place places hpl ps r' vs (setAt cs off v.cells) cs' _ hpr hvs (by rw [hz];exact RepL.setAt_ hc hcr) (by
        intro y hy;rw [hz] at hy
        simp only [List.mem_append] at hy
        rcases hy with (hy | hy) | hy
        ·exact h1 y (List.mem_of_mem_take hy)
        ·exact hc1 y hy
        ·exact h1 y (List.mem_of_mem_drop hy)) hf
       refine ⟨cur', ?_,hr',h1'⟩
       simp only [List.map_cons,Instr.fill,hplace]
       rw [if_neg (by rw [hcl];simp;omega)]
       exact hcur'
      ·cases hf
   ·cases hp
end
open Go.RowKit
structure RowsRep (X:Cx) (γ:Gh) (w:World) (τ z n:Nat) (f:Nat→List PV) (vs:List Value):Prop where
 len:vs.length=n*z
 one:∀u∈vs,u.oneCell'=true
 hz:∀i,i<n→(f i).length=z
 hf:∀i,i<n→∀c∈f i,c.flat=true
 rep:∀(i j:Nat) (c:PV) (u:Value),i<n→(f i)[j]? =some c→vs[i*z+j]? =some u→Rep X γ w (c.mark τ) u
section
variable {P:Program} {X:Cx} {γ γ':Gh} {w w':World} {st st':Nat→Option SE}
theorem idx_lt {i j n z:Nat} (hi:i<n) (hj:j<z):i*z+j<n*z:=
 calc i*z+j<i*z+z:=by omega
  _=(i+1)*z:=by rw [Nat.add_mul];omega
  _≤n*z:=Nat.mul_le_mul_right _ hi
theorem RowsRep.mono {τ z n:Nat} {f:Nat→List PV} {vs:List Value} {ks:List Nat} (h:RowsRep X γ w τ z n f vs) (hr:∀p u,Rep X γ w p u→Rep X γ' w' (p.void ks) u):RowsRep X γ' w' τ z n f vs:=
 ⟨h.len,h.one,h.hz,h.hf,fun i j c u hi hc hu=>by
  have:=hr _ _ (h.rep i j c u hi hc hu)
  rwa [flat_void (h.hf i hi c (List.mem_of_getElem? hc))] at this⟩
theorem Rep.mark_le {c:PV} {u:Value} {τ τ':Nat} (h:Rep X γ w (c.mark τ) u) (ht:τ≤τ'):Rep X γ w (c.mark τ') u:=by
 have:=h.mark_up τ' (Nat.le_trans (tau_mark c τ) ht)
 rwa [mark_mark] at this
theorem RowsRep.up {τ τ' z n:Nat} {f:Nat→List PV} {vs:List Value} (h:RowsRep X γ w τ z n f vs) (ht:τ≤τ'):RowsRep X γ w τ' z n f vs:=
 ⟨h.len,h.one,h.hz,h.hf,fun i j c u hi hc hu=>(h.rep i j c u hi hc hu).mark_le ht⟩
theorem RowsRep.app {τ τ' z n m:Nat} {f f':Nat→List PV} {vs ws:List Value} (h:RowsRep X γ w τ z n f vs) (h':RowsRep X γ w τ' z m f' ws):
  RowsRep X γ w (max τ τ') z (n+m) (appF n f f') (vs++ws):=by
 refine ⟨by rw [List.length_append,h.len,h'.len,Nat.add_mul],fun u hu=> ?_,fun i hi=> ?_,fun i hi=> ?_,fun i j c u hi hc hu=> ?_⟩
 ·rcases List.mem_append.1 hu with h1 | h1
  ·exact h.one u h1
  ·exact h'.one u h1
 ·unfold appF;split
  ·exact h.hz i ‹_›
  ·exact h'.hz _ (by omega)
 ·unfold appF;split
  ·exact h.hf i ‹_›
  ·exact h'.hf _ (by omega)
 ·unfold appF at hc
  split at hc
  ·rename_i hlt
   have hj:j<z:=by rw [←h.hz i hlt];exact (List.getElem?_eq_some_iff.1 hc).1
   have hk:i*z+j<vs.length:=by rw [h.len];exact idx_lt hlt hj
   rw [List.getElem?_append_left hk] at hu
   exact (h.rep i j c u hlt hc hu).mark_le (Nat.le_max_left _ _)
  ·rename_i hge
   have hlt:i - n<m:=by omega
   have hk:vs.length≤i*z+j:=by rw [h.len];exact Nat.le_trans (Nat.mul_le_mul_right z (by omega:n≤i)) (Nat.le_add_right _ _)
   rw [List.getElem?_append_right hk] at hu
   have e:i*z+j - vs.length=(i - n)*z+j:=by
    rw [h.len]
    have:i*z=(i - n)*z+n*z:=by rw [←Nat.add_mul];congr 1;omega
    omega
   rw [e] at hu
   exact (h'.rep _ j c u hlt hc hu).mark_le (Nat.le_max_right _ _)
theorem RepS.rows {ge:GE} {τ e z n:Nat} {f:Nat→List PV} (h:RepS X γ w ge (.row τ e z n f)):
  ∃vs,ge.z=z∧ge.blk=ge.hdr.ownBlock∧ge.hdr.oneCell'=true∧OwnsG w e z ge.hdr n vs∧RowsRep X γ w τ z n f vs:=by
 obtain ⟨vs,h1,h2,h2',h3,h4,h5,h6,h7⟩:=h
 exact ⟨vs,h1,h2,h2',h3,h3.1,h4,h5,h6,h7⟩
theorem RowsRep.repS {ge:GE} {τ e z n:Nat} {f:Nat→List PV} {vs:List Value} (h:RowsRep X γ w τ z n f vs) (h1:ge.z=z) (h2:ge.blk=ge.hdr.ownBlock) (h3:ge.hdr.oneCell'=true)
  (h4:OwnsG w e z ge.hdr n vs):RepS X γ w ge (.row τ e z n f):=
 ⟨vs,h1,h2,h3,h4,h.one,h.hz,h.hf,h.rep⟩
theorem own_slice {e z n:Nat} {v:Value} {vs:List Value} (h:OwnsG w e z v n vs):∃ad cap,v= .slice ad n cap∧n≤cap∧cap≤maxLen∧(n=0∨∃g,ad=some ⟨g,0,none⟩∧g<w.heap.size∧v.ownBlock=some g):=by
 rcases h.2 with ⟨rfl,rfl⟩ | ⟨g,cap,cur,fz,rfl,hg,_,hnc,hcm,_⟩
 ·exact ⟨none,0,rfl,Nat.le_refl _,Nat.zero_le _, .inl rfl⟩
 ·exact ⟨_,cap,rfl,hnc,hcm, .inr ⟨g,rfl,(Array.getElem?_eq_some_iff.1 hg).1,rfl⟩⟩
theorem own_cells {e z n:Nat} {v:Value} {vs:List Value} {ad:Option Addr} {cap:Nat} {a:Addr} (h:OwnsG w e z v n vs) (hv:v= .slice ad n cap) (ha:ad=some a):
  ∀j u,vs[j]? =some u→w.cell? (a.add j)=some u:=by
 subst hv;subst ha
 rcases h.2 with ⟨hh,_⟩ | ⟨g,cap',cur,fz,hh,_⟩
 ·cases hh
 ·injection hh with h1 _ _;injection h1 with h1
  subst h1
  exact h.cells (g:=g) rfl
theorem own_cellsT {e z n τ:Nat} {v:Value} {vs:List Value} {ad:Option Addr} {cap:Nat} {a:Addr} (h:OwnsG w e z v n vs) (hv:v= .slice ad n cap) (ha:ad=some a):
  ∀j u,vs[j]? =some u→cellT τ w (a.add j)=some u:=by
 intro j u hu
 refine cellT_off ?_ (own_cells h hv ha j u hu)
 subst hv;subst ha
 rcases h.2 with ⟨hh,_⟩ | ⟨g,cap',cur,fz,hh,_⟩
 ·cases hh
 ·injection hh with h1 _ _;injection h1 with h1
  subst h1
  exact h.free (g:=g) rfl j (List.getElem?_eq_some_iff.1 hu).1
theorem sl_rowsT {τ z n:Nat} {f:Nat→List PV} {v:Value} (h:Rep X γ w (.sl τ z n f) v):∃ad cap vs,v= .slice ad n cap∧n≤cap∧RowsRep X γ w τ z n f vs∧
  (n=0∨∃a,ad=some a∧mayLie X γ τ a.block∧a.block<w.heap.size)∧∀a,ad=some a→∀j u,vs[j]? =some u→cellT τ w (a.add j)=some u:=by
 cases h with
 | sl _ _ _ _ ad cap vs hcap hz hf hb h=>
   refine ⟨ad,cap,(List.range (n*z)).map vs,rfl,hcap,⟨by simp,fun u hu=> ?_,hz,hf,fun i j c u hi hc hu=> ?_⟩, ?_,fun a ha j u hu=> ?_⟩
   ·obtain ⟨k,hk,rfl⟩:=List.mem_map.1 hu
    have hk:=List.mem_range.1 hk
    have hz0:0<z:=by rcases Nat.eq_zero_or_pos z with h0 | h0; · subst h0;simp at hk
                     ·exact h0
    have hi:k / z<n:=(Nat.div_lt_iff_lt_mul hz0).2 hk
    have hj:k % z<(f (k / z)).length:=by rw [hz _ hi];exact Nat.mod_lt _ hz0
    have:=h (k / z) (k % z) _ hi (List.getElem?_eq_getElem hj)
    have hfl:=hf _ hi _ (List.getElem_mem hj)
    rw [Nat.div_add_mod' k z] at this
    refine this.one_ ?_
    generalize (f (k / z))[k % z]=c at hfl
    cases c<;>simp_all [PV.flat,PV.mark,PV.one]
   ·have hj:j<z:=by rw [←hz i hi];exact (List.getElem?_eq_some_iff.1 hc).1
    have hk:i*z+j<n*z:=idx_lt hi hj
    simp [hk] at hu
    subst hu
    exact h i j c hi hc
   ·rcases Nat.eq_zero_or_pos n with h0 | h0
    ·exact .inl h0
    ·obtain ⟨a,ha,hm,hlt,_⟩:=hb h0
     exact .inr ⟨a,ha,hm,hlt⟩
   ·have hk:j<n*z:=by have:=(List.getElem?_eq_some_iff.1 hu).1;simpa using this
    have h0:0<n:=by rcases Nat.eq_zero_or_pos n with h0 | h0; · subst h0;simp at hk
                    ·exact h0
    obtain ⟨a',ha',_,_,hc⟩:=hb h0
    rw [ha] at ha';injection ha' with ha';subst ha'
    simp [hk] at hu
    rw [hc j hk,hu]
theorem sl_rows {τ z n:Nat} {f:Nat→List PV} {v:Value} (h:Rep X γ w (.sl τ z n f) v):∃ad cap vs,v= .slice ad n cap∧n≤cap∧RowsRep X γ w τ z n f vs∧
  (n=0∨∃a,ad=some a∧mayLie X γ τ a.block∧a.block<w.heap.size)∧∀a,ad=some a→∀j u,vs[j]? =some u→w.cell? (a.add j)=some u:=by
 obtain ⟨ad,cap,vs,k1,k2,k3,k4,k5⟩:=sl_rowsT h
 exact ⟨ad,cap,vs,k1,k2,k3,k4,fun a ha j u hu=>cellT_cell (k5 a ha j u hu)⟩
theorem RowsRep.sl {τ z n:Nat} {f:Nat→List PV} {vs:List Value} {ad:Option Addr} {cap:Nat} (h:RowsRep X γ w τ z n f vs) (hcap:n≤cap)
  (hb:n=0∨∃a,ad=some a∧mayLie X γ τ a.block∧a.block<w.heap.size) (hc:∀a,ad=some a→∀j u,vs[j]? =some u→cellT τ w (a.add j)=some u):Rep X γ w (.sl τ z n f) (.slice ad n cap):=by
 refine .sl τ z n f ad cap (fun k=>vs.getD k undef) hcap h.hz h.hf (fun h0=> ?_) (fun i j c hi hj=> ?_)
 ·rcases hb with hb | ⟨a,ha,hm,hlt⟩
  ·omega
  ·refine ⟨a,ha,hm,hlt,fun k hk=> ?_⟩
   have hk':k<vs.length:=by rw [h.len];exact hk
   rw [hc a ha k vs[k] (List.getElem?_eq_getElem hk')]
   simp [List.getD,List.getElem?_eq_getElem hk']
 ·have hjz:j<z:=by rw [←h.hz i hi];exact (List.getElem?_eq_some_iff.1 hj).1
  have hk:i*z+j<vs.length:=by rw [h.len];exact idx_lt hi hjz
  have:=h.rep i j c vs[i*z+j] hi hj (List.getElem?_eq_getElem hk)
  simpa [List.getD,List.getElem?_eq_getElem hk] using this
theorem vw_rows {h:Bool} {r lo m n:Nat} {τ e z:Nat} {f:Nat→List PV} {u:Value} (hst:RepSt X γ w st) (hy:Rep X γ w (.vw h r lo m) u) (he:st r=some (.row τ e z n f)):
  ∃ad cap vs,u= .slice ad m cap∧m≤cap∧RowsRep X γ w τ z m (fun i=>f (lo+i)) vs∧(ad=none→m=0)∧∀τ' a,ad=some a→∀j u,vs[j]? =some u→cellT τ' w (a.add j)=some u:=by
 cases hy with
 | vw _ _ _ _ ge ad m0 cap hg hh hle h0 _=>
 obtain ⟨vs,hz,hb,h1,ho,hr⟩:=(hst.at_ _ _ _ hg he).rows
 obtain ⟨ad',cap',hv,hnc,hcm,hor⟩:=own_slice ho
 rw [hh] at hv
 injection hv with e1 e2 e3
 subst e1;subst e2;subst e3
 rw [hz]
 refine ⟨_,_,(vs.drop (lo*z)).take (m*z),rfl,by omega,⟨?_,fun u hu=>hr.one u (List.mem_of_mem_drop (List.mem_of_mem_take hu)),fun i hi=>hr.hz _ (by omega),fun i hi=>hr.hf _ (by omega),fun i j c u hi hc' hu=> ?_⟩,fun hn=> ?_,fun τ' a ha j u hu=> ?_⟩
 ·rw [List.length_take,List.length_drop,hr.len]
  have:m*z≤m0*z - lo*z:=by rw [←Nat.sub_mul];exact Nat.mul_le_mul_right z (by omega)
  omega
 ·have hj:j<z:=by rw [←hr.hz (lo+i) (by omega)];exact (List.getElem?_eq_some_iff.1 hc').1
  rw [List.getElem?_take,if_pos (idx_lt hi hj),List.getElem?_drop] at hu
  refine hr.rep (lo+i) j c u (by omega) hc' ?_
  rw [←hu];congr 1;rw [Nat.add_mul];omega
 ·by_cases hc:cap=lo
  ·omega
  ·rw [if_neg hc] at hn
   rcases hor with h0 | ⟨g,h0,_⟩
   ·omega
   ·rw [h0] at hn;cases hn
 ·have hm:j<m*z:=by
    have:=(List.getElem?_eq_some_iff.1 hu).1
    rw [List.length_take] at this;omega
  by_cases hc:cap=lo
  ·rw [show m=0 by omega,Nat.zero_mul] at hm;omega
  ·rw [if_neg hc] at ha
   rw [List.getElem?_take,if_pos hm,List.getElem?_drop] at hu
   cases had:ad with
   | none=>rw [had] at ha;cases ha
   | some a0=>
     rw [had] at ha
     simp only [Option.map_some,Option.some.injEq] at ha
     subst ha
     rw [add_add_]
     exact own_cellsT ho hh had _ _ hu
theorem head_own {r lo h n:Nat} {τ e z:Nat} {f:Nat→List PV} {v:Value} (hst:RepSt X γ w st) (hy:Rep X γ w (.vw true r lo h) v) (he:st r=some (.row τ e z n f)):
  ∃ge vs,γ r=some ge∧ge.z=z∧v.ownBlock=ge.blk∧OwnsG w e z v h vs∧RowsRep X γ w τ z h f vs:=by
 cases hy with
 | vw _ _ _ _ ge ad m0 cap hg hh hle h0 _=>
 obtain ⟨vs,hz,hb,h1,ho,hr⟩:=(hst.at_ _ _ _ hg he).rows
 obtain ⟨ad',cap',hv,hnc,hcm,hor⟩:=own_slice ho
 rw [hh] at hv
 injection hv with e1 e2 e3
 subst e1;subst e2;subst e3
 have hl0:=h0 rfl
 subst hl0
 have had':ad=none∨∃g,ad=some ⟨g,0,none⟩:=by
  rcases ho.2 with ⟨h2,_⟩ | ⟨g,cap',cur,fz,h2,_⟩<;>rw [hh] at h2<;>injection h2 with e1 _ _
  ·exact .inl e1
  ·exact .inr ⟨g,e1⟩
 have hmap:(if cap=0 then ad else ad.map (·.add (0*ge.z)))=ad:=by
  split
  ·rfl
  ·rcases had' with rfl | ⟨g,rfl⟩
   ·rfl
   ·rw [Nat.zero_mul];rfl
 rw [hmap]
 have ho':OwnsG w e z (.slice ad h (cap - 0)) h (vs.take (h*z)):=by
  have hle':h*z≤m0*z:=Nat.mul_le_mul_right _ (by omega)
  refine ⟨by rw [List.length_take,hr.len];omega, ?_⟩
  rcases ho.2 with ⟨h2,h3⟩ | ⟨g,cap',cur,fz,h2,hgg,hfz,hnc',hcm',hsz,htk⟩
  ·rw [hh] at h2;injection h2 with e1 e2 e3
   subst e1 e3
   left;exact ⟨by rw [show h=0 by omega],by omega⟩
  ·rw [hh] at h2;injection h2 with e1 e2 e3
   subst e1 e3
   exact .inr ⟨g,cap,cur,fz,rfl,hgg,hfz,by omega,hcm',hsz,by rw [←htk,List.take_take,Nat.min_eq_left hle']⟩
 refine ⟨ge,vs.take (h*z),hg,hz,by rw [hb,hh];cases ad<;>rfl,ho',⟨ho'.1,fun u hu=>hr.one u (List.mem_of_mem_take hu),fun j hj=>hr.hz j (by omega),fun j hj=>hr.hf j (by omega),fun j j' c u hj hc hu=> ?_⟩⟩
 have hj':j'<z:=by rw [←hr.hz j (by omega)];exact (List.getElem?_eq_some_iff.1 hc).1
 rw [List.getElem?_take,if_pos (idx_lt hj hj')] at hu
 exact hr.rep j j' c u (by omega) hc hu
theorem src_rows {y:PV} {u:Value} {ids:List Nat} {cs:List SE} {τ z m:Nat} {f:Nat→List PV} (hst:RepSt X γ w st) (hy:Rep X γ w y u) (hids:ids=y.top) (hcs:getL st ids=some cs)
  (h:srcRows y cs=some (τ,z,m,f)):∃ad cap vs,u= .slice ad m cap∧m≤cap∧RowsRep X γ w τ z m f vs∧(ad=none→m=0)∧∀a,ad=some a→∀j u,vs[j]? =some u→w.cell? (a.add j)=some u:=by
 unfold srcRows at h
 split at h
 ·injection h with h;injection h with h1 h;injection h with h2 h;injection h with h3 h4
  subst h1;subst h2;subst h3;subst h4
  obtain ⟨ad,cap,vs,rfl,hcap,hr,hb,hc⟩:=sl_rows hy
  refine ⟨ad,cap,vs,rfl,hcap,hr,fun hn=> ?_,hc⟩
  rcases hb with hb | ⟨a,ha,_⟩
  ·exact hb
  ·rw [ha] at hn;cases hn
 ·injection h with h;injection h with h1 h;injection h with h2 h;injection h with h3 h4
  subst h1;subst h2;subst h3;subst h4
  cases hy.nil_inv
  exact ⟨none,0, [],rfl,Nat.le_refl _,⟨by simp,by simp,by simp,by simp,by simp⟩,fun _=>rfl,fun a ha=>by cases ha⟩
 ·rename_i r τ' e z' n f'
  injection h with h;injection h with h1 h;injection h with h2 h;injection h with h3 h4
  subst h1;subst h2;subst h3;subst h4
  obtain ⟨ge,hg,rfl⟩:=os_inv hy
  subst hids
  simp only [PV.top,getL] at hcs
  split at hcs
  ·rename_i e1 es he1 he2
   injection hcs with hcs;injection hcs with h1 h2
   subst h1
   obtain ⟨vs,hz,hb,h1',ho,hr⟩:=(hst.at_ _ _ _ hg he1).rows
   obtain ⟨ad,cap,hv,hnc,_,hor⟩:=own_slice ho
   refine ⟨ad,cap,vs,hv,hnc,hr,fun hn=> ?_,fun a ha=>own_cells ho hv ha⟩
   rcases hor with h0 | ⟨g,h0,_⟩
   ·exact h0
   ·rw [h0] at hn;cases hn
  ·cases hcs
 ·rename_i hb r lo m' τ' e z' n f'
  injection h with h;injection h with h1 h;injection h with h2 h;injection h with h3 h4
  subst h1;subst h2;subst h3;subst h4
  subst hids
  simp only [PV.top,getL] at hcs
  split at hcs
  ·rename_i e1 es he1 he2
   injection hcs with hcs;injection hcs with h1 h2
   subst h1
   obtain ⟨ad,cap,vs,k1,k2,k3,k4,k5⟩:=vw_rows hst hy he1
   exact ⟨ad,cap,vs,k1,k2,k3,k4,fun a ha j u hu=>cellT_cell (k5 0 a ha j u hu)⟩
  ·cases hcs
 ·cases h
theorem zeroFits_get {e:TypeId} (h:zeroFits P e=true):∃i z,P.info? e=some i∧i.zero=some z∧z.cells.size=P.cellsOf e∧i.size=P.cellsOf e∧i.bytes=P.bytesOf e:=by
 unfold zeroFits at h
 split at h
 ·rename_i i hi
  split at h
  ·rename_i z hz
   exact ⟨i,z,hi,hz,by simpa using h,by simp [Program.cellsOf,hi],by simp [Program.bytesOf,hi]⟩
  ·cases h
 ·cases h
theorem run_append_roomG (t ty e:TypeId) (i:TypeInfo) (ht:P.underlying t=some (.slice e)) (hi:P.info? e=some i)
  (g sLen sCap:Nat) (cur:Array Value) (fz:Nat×Nat) (hg:w.heap[g]? =some (.cells cur e fz)) (hfz:fzOff cur.size fz)
  (a:Addr) (m c:Nat) (news:List Value) (hl:news.length=m*i.size) (hnews:∀j u,news[j]? =some u→w.cell? (a.add j)=some u) (h1:∀u∈news,u.oneCell'=true)
  (hroom:sLen+m≤sCap) (hfit:sLen*i.size+news.length≤cur.size):
  (Builtin.append_ #[t,t] ty #[.slice (some ⟨g,0,none⟩) sLen sCap, .slice (some a) m c]).run P w=
   .ok (.slice (some ⟨g,0,none⟩) (sLen+m) sCap) (w.setRow g (cur.toList.take (sLen*i.size)++news++cur.toList.drop (sLen*i.size+news.length)).toArray):=by
 have hf:=run_firstCells_some (P:=P) w i.size m a m c news hl hnews
 have hst:=run_storeCells_off P g (sLen*i.size) e fz news 0 cur w hg hfz (by simpa using hfit) h1
 simp only [Nat.add_zero] at hst
 simp [Builtin.append_,run_underlying ht,sizeOf,typeInfo,hi,Builtin.lenOf,hroom,hf,Addr.add_lit,hst]
theorem run_app {t e:TypeId} {v:Value} {n m:Nat} {ad:Option Addr} {cap:Nat} {xs news:List Value} (ty:TypeId) (ht:P.underlying t=some (.slice e)) (hzf:zeroFits P e=true) (hpos:0<P.cellsOf e)
  (ho:OwnsG w e (P.cellsOf e) v n xs) (hl:news.length=m*P.cellsOf e) (h1:∀u∈news,u.oneCell'=true) (hn:ad=none→m=0)
  (hc:∀a,ad=some a→∀j u,news[j]? =some u→w.cell? (a.add j)=some u) (hby:(n+m)*P.bytesOf e≤140737488355328) (h63:n+m≤maxLen):
  ∃v' w',(Builtin.append_ #[t,t] ty #[v, .slice ad m cap]).run P w= .ok v' w'∧OwnsG w' e (P.cellsOf e) v' (n+m) (xs++news)∧w.grownBy w' v.ownBlock∧
   (v'.ownBlock=v.ownBlock∨v'.ownBlock=some w.heap.size):=by
 obtain ⟨i,z,hi,hz,hzs,hs,hb⟩:=zeroFits_get hzf
 cases ad with
 | some a=>
   rcases ho.2 with ⟨rfl,rfl⟩ | ⟨g,cap0,cur,fz,rfl,hg,hfz,hnc,hcm,hcs,htake⟩
   ·obtain ⟨v',w',h1',h2,h3,_,h5⟩:=run_append_own_at (P:=P) w 0 t ty e i z _ _ ht hi hz hs hb hzs hpos (.slice none 0 0) 0 xs ⟨ho.1, .inl ⟨rfl,rfl⟩⟩ a m cap news hl (hc a rfl) h1 h63 hby (Nat.zero_le _)
    exact ⟨v',w',h1',OwnsG_of h2,h3,h5⟩
   ·have hlen:(xs++news).length=(n+m)*P.cellsOf e:=by rw [List.length_append,ho.1,hl,Nat.add_mul]
    by_cases hroom:n+m≤cap0
    ·have hfit:n*P.cellsOf e+news.length≤cur.size:=by rw [hl,hcs,←Nat.add_mul];exact Nat.mul_le_mul_right _ hroom
     have hr:=run_append_roomG (P:=P) (w:=w) t ty e i ht hi g n cap0 cur fz hg hfz a m cap news (by rw [hs];exact hl) (hc a rfl) h1 hroom (by rw [hs];exact hfit)
     rw [hs] at hr
     refine ⟨_,_,hr,⟨hlen, .inr ⟨g,cap0,_,fz,rfl,setRow_heap w g cur _ e _ hg, ?_,hroom,hcm, ?_, ?_⟩⟩,⟨rfl,rfl,rfl,by simp,fun k _ hk=>setRow_other w g k _ (fun e=>hk (by simp [Value.ownBlock,e]))⟩,Or.inl rfl⟩
     ·have e0:(cur.toList.take (n*P.cellsOf e)++news++cur.toList.drop (n*P.cellsOf e+news.length)).toArray.size=cur.size:=by
        simp only [List.size_toArray,List.length_append,List.length_take,List.length_drop,Array.length_toList]
        omega
      rw [e0];exact hfz
     ·simp only [List.size_toArray,List.length_append,List.length_take,List.length_drop,Array.length_toList]
      omega
     ·rw [htake,←hlen]
      exact List.take_left
    ·have hr:=run_append_grow (P:=P) w t ty e i z ht hi hz ⟨g,0,none⟩ n cap0 xs (by rw [hs];exact ho.1) (ho.cells (g:=g) rfl) a m cap news (by rw [hs];exact hl) (hc a rfl) (by omega) (by simp only [maxLen] at h63;omega) (by rw [hb];exact growslice_fits (by omega) hby)
     have hge:=grownCap_ge w (n+m) cap0 e
     have hcm2:grownCap w (n+m) cap0 e≤maxLen:=grownCap_le_maxLen w (n+m) cap0 e h63
     refine ⟨_,_,hr,⟨hlen, .inr ⟨w.heap.size,_,_,(0,0),rfl,heap_alloc_new w.drew _, .inl rfl,hge,hcm2, ?_, ?_⟩⟩,⟨rfl,rfl,rfl,by simp,fun k hk _=>Below.heap_alloc w.drew _ k hk⟩,Or.inr rfl⟩
     ·simp only [Array.size_append,List.size_toArray,size_zeroCells,hzs,ho.1,hl,←Nat.add_mul]
      congr 1
      omega
     ·simp only [Array.toList_append,List.append_assoc]
      rw [←List.append_assoc,←hlen]
      exact List.take_left
 | none=>
   have hm:=hn rfl
   subst hm
   have hnil:news= []:=List.eq_nil_of_length_eq_zero (by simpa using hl)
   subst hnil
   refine ⟨v,w, ?_,by simpa using ho,⟨rfl,rfl,rfl,Nat.le_refl _,fun _ _ _=>rfl⟩, .inl rfl⟩
   rcases ho.2 with ⟨rfl,rfl⟩ | ⟨g,cap',cur,fz,rfl,_,_,hnc,_⟩
   ·simp [Builtin.append_,run_underlying ht,sizeOf,typeInfo,hi,Builtin.lenOf,Builtin.firstCells]
   ·simp [Builtin.append_,run_underlying ht,sizeOf,typeInfo,hi,Builtin.lenOf,Builtin.firstCells,hnc,storeCells]
theorem own_lt' {e z n:Nat} {v:Value} {vs:List Value} (h:OwnsG w e z v n vs):∀b,v.ownBlock=some b→b<w.heap.size:=fun b hb=>h.lt b hb
theorem slice_one {e z n:Nat} {v:Value} {vs:List Value} (h:OwnsG w e z v n vs):v.oneCell'=true:=by
 obtain ⟨ad,cap,rfl,_⟩:=own_slice h;rfl
theorem app_os_sound {t e:TypeId} {r:Nat} {y:PV} {u v:Value} {τ τ' n m:Nat} {f f':Nat→List PV} {cs:List SE} (ty:TypeId) (hst:RepSt X γ w st) (hX:∀b,X.as b∨X.ls b→b<w.heap.size)
  (ht:P.underlying t=some (.slice e)) (hzf:zeroFits P e=true) (hpos:0<P.cellsOf e) (hv:Rep X γ w (.os r) v) (hy:Rep X γ w y u) (he:st r=some (.row τ e (P.cellsOf e) n f))
  (hcs:getL st y.top=some cs) (hsrc:srcRows y cs=some (τ',P.cellsOf e,m,f')) (hby:(n+m)*P.bytesOf e≤140737488355328) (h63:n+m≤maxLen) (hfx:max τ τ'≤2)
  (E:Eff) (hEv:E.val= .os r) (hEw:E.wr= [(r, .row (max τ τ') e (P.cellsOf e) (n+m) (appF n f f'))]) (hEn:E.nw= []) (hEk:E.kill= [r]) (hEr:E.rm= [])
  (hn:newSt 0 E.kill E.rm E.wr E.nw st=some st'):Snd P X γ w st E st' (do pure (.value (←Builtin.append_ #[t,t] ty #[v,u]))):=by
 obtain ⟨ge,hg,rfl⟩:=os_inv hv
 obtain ⟨vs,hz,hb,h1,ho,hr⟩:=(hst.at_ _ _ _ hg he).rows
 obtain ⟨ad,cap,ws,rfl,hmc,hr',hnone,hc⟩:=src_rows hst hy rfl hcs hsrc
 obtain ⟨v',w',hrun,ho',hgr,hbl⟩:=run_app (P:=P) (cap:=cap) ty ht hzf hpos ho hr'.len hr'.one hnone hc hby h63
 have hk:Keeps (fun b=>ge.blk=some b) w w':=⟨hgr.os,hgr.tape,hgr.output,hgr.size,fun b hlt hne=>hgr.block b hlt (by rw [←hb];exact fun h=>hne h.symm)⟩
 rw [hEk,hEr,hEw,hEn] at hn
 simp only [newSt_eq,rmS_nil,wrS,nwS,Option.some.injEq] at hn
 subst hn
 refine ⟨_,v',w',upd γ r ⟨v'.ownBlock,v',P.cellsOf e⟩,by simp only [Sem.run_bind,hrun,Result.andThen_ok,Sem.run_pure], .inl rfl,
  EffOK.app (ge':=⟨v'.ownBlock,v',P.cellsOf e⟩) hst hX hg he (fun l hl=>by cases hl) hEk hk (fun b hb'=> ?_) (fun b hb'=>own_lt' ho' b hb') (fun hmono=> ?_) ?_ (hfx:=fix_low hfx)⟩
 ·rcases hbl with h | h
  ·exact .inl (by rw [hb,←h];exact hb')
  ·right
   have:some w.heap.size=some b:=by rw [←h];exact hb'
   injection this with this;omega
 ·exact ((hr.app hr').mono hmono).repS rfl rfl (slice_one ho') ho'
 ·rw [hEv]
  exact .os r ⟨v'.ownBlock,v',P.cellsOf e⟩ (upd_same _ _ _) (slice_one ho') rfl
theorem app_vw_sound {t e:TypeId} {r lo:Nat} {y:PV} {u v:Value} {τ τ' n h m:Nat} {f f':Nat→List PV} {cs:List SE} (ty:TypeId) (hst:RepSt X γ w st) (hX:∀b,X.as b∨X.ls b→b<w.heap.size)
  (ht:P.underlying t=some (.slice e)) (hzf:zeroFits P e=true) (hpos:0<P.cellsOf e) (hv:Rep X γ w (.vw true r lo h) v) (hy:Rep X γ w y u) (he:st r=some (.row τ e (P.cellsOf e) n f))
  (hcs:getL st y.top=some cs) (hsrc:srcRows y cs=some (τ',P.cellsOf e,m,f')) (hby:(h+m)*P.bytesOf e≤140737488355328) (h63:h+m≤maxLen) (hfx:max τ τ'≤2)
  (E:Eff) (hEv:E.val= .os r) (hEw:E.wr= [(r, .row (max τ τ') e (P.cellsOf e) (h+m) (appF h f f'))]) (hEn:E.nw= []) (hEk:E.kill= [r]) (hEr:E.rm= [])
  (hn:newSt 0 E.kill E.rm E.wr E.nw st=some st'):Snd P X γ w st E st' (do pure (.value (←Builtin.append_ #[t,t] ty #[v,u]))):=by
 obtain ⟨ge,vs,hg,hz,hb,ho,hr⟩:=head_own hst hv he
 obtain ⟨ad,cap,ws,rfl,hmc,hr',hnone,hc⟩:=src_rows hst hy rfl hcs hsrc
 obtain ⟨v',w',hrun,ho',hgr,hbl⟩:=run_app (P:=P) (cap:=cap) ty ht hzf hpos ho hr'.len hr'.one hnone hc hby h63
 have hk:Keeps (fun b=>ge.blk=some b) w w':=⟨hgr.os,hgr.tape,hgr.output,hgr.size,fun b hlt hne=>hgr.block b hlt (by rw [hb];exact fun h=>hne h.symm)⟩
 rw [hEk,hEr,hEw,hEn] at hn
 simp only [newSt_eq,rmS_nil,wrS,nwS,Option.some.injEq] at hn
 subst hn
 refine ⟨_,v',w',upd γ r ⟨v'.ownBlock,v',P.cellsOf e⟩,by simp only [Sem.run_bind,hrun,Result.andThen_ok,Sem.run_pure], .inl rfl,
  EffOK.app (ge':=⟨v'.ownBlock,v',P.cellsOf e⟩) hst hX hg he (fun l hl=>by cases hl) hEk hk (fun b hb'=> ?_) (fun b hb'=>own_lt' ho' b hb') (fun hmono=> ?_) ?_ (hfx:=fix_low hfx)⟩
 ·rcases hbl with h | h
  ·exact .inl (by rw [←hb,←h];exact hb')
  ·right
   have:some w.heap.size=some b:=by rw [←h];exact hb'
   injection this with this;omega
 ·exact ((hr.app hr').mono hmono).repS rfl rfl (slice_one ho') ho'
 ·rw [hEv]
  exact .os r ⟨v'.ownBlock,v',P.cellsOf e⟩ (upd_same _ _ _) (slice_one ho') rfl
theorem app_nil_sound {t e:TypeId} {y:PV} {u v:Value} {z0 τ' m d:Nat} {f':Nat→List PV} {cs:List SE} (ty:TypeId) (hst:RepSt X γ w st) (hX:∀b,X.as b∨X.ls b→b<w.heap.size)
  (ht:P.underlying t=some (.slice e)) (hzf:zeroFits P e=true) (hpos:0<P.cellsOf e) (hv:Rep X γ w (.nil z0) v) (hy:Rep X γ w y u)
  (hcs:getL st y.top=some cs) (hsrc:srcRows y cs=some (τ',P.cellsOf e,m,f')) (hby:m*P.bytesOf e≤140737488355328) (h63:m≤maxLen) (hfx:τ'≤2)
  (E:Eff) (hEv:E.val= .os d) (hEw:E.wr= []) (hEn:E.nw= [.row τ' e (P.cellsOf e) m f']) (hEk:E.kill= []) (hEr:E.rm= [])
  (hn:newSt d E.kill E.rm E.wr E.nw st=some st'):Snd P X γ w st E st' (do pure (.value (←Builtin.append_ #[t,t] ty #[v,u]))):=by
 cases hv.nil_inv
 obtain ⟨ad,cap,ws,rfl,hmc,hr',hnone,hc⟩:=src_rows hst hy rfl hcs hsrc
 obtain ⟨v',w',hrun,ho',hgr,hbl⟩:=run_app (P:=P) (cap:=cap) ty ht hzf hpos (OwnsG_nil w e (P.cellsOf e)) hr'.len hr'.one hnone hc (by simpa using hby) (by simpa using h63)
 simp only [Nat.zero_add,List.nil_append] at ho'
 have hk:Keeps (fun _=>False) w w':=⟨hgr.os,hgr.tape,hgr.output,hgr.size,fun b hlt hne=>hgr.block b hlt (by simp [Value.ownBlock])⟩
 rw [hEk,hEr,hEw,hEn] at hn
 simp only [newSt_eq,voidS_nil,rmS_nil,wrS,nwS] at hn
 cases hd:st d with
 | some _=>rw [hd] at hn;cases hn
 | none=>
   rw [hd] at hn;injection hn with hn;subst hn
   refine ⟨_,v',w',upd γ d ⟨v'.ownBlock,v',P.cellsOf e⟩,by simp only [Sem.run_bind,hrun,Result.andThen_ok,Sem.run_pure], .inl rfl,
    EffOK.add (ge:=⟨v'.ownBlock,v',P.cellsOf e⟩) hst hX hd hEk hk (fun b hb0=>have hb':=(GE.has_row rfl).1 hb0;⟨?_,own_lt' ho' b hb'⟩) (fun hmono=> ?_) (fun _=> ?_) (hfx:=fix_low hfx)⟩
   ·rcases hbl with h | h
    ·rw [h] at hb';simp [Value.ownBlock] at hb'
    ·have:some w.heap.size=some b:=by rw [←h];exact hb'
     injection this with this;omega
   ·exact (hr'.mono (ks:= []) (fun p u h=>by rw [void_nil];exact hmono p u h)).repS rfl rfl (slice_one ho') ho'
   ·rw [hEv]
    exact .os d ⟨v'.ownBlock,v',P.cellsOf e⟩ (upd_same _ _ _) (slice_one ho') rfl
theorem len_sound {t e:TypeId} {p:PV} {u:Value} {n:Nat} {cs:List SE} (ty:TypeId) (hst:RepSt X γ w st) (ht:P.underlying t=some (.slice e)) (hp:Rep X γ w p u)
  (hcs:getL st p.top=some cs)
  (hn:(match (generalizing:=false) p,cs with | .sl _ _ m _,_=>n=m | .nil _,_=>n=0 | .os _, [.row _ _ _ m _]=>n=m | .vw _ _ _ m,_=>n=m | .rf (some (_,m)) _,_=>n=m | _,_=>False)):
  (Builtin.len_ #[t] ty #[u]).run P w= .ok (.int .i64 (n:Int)) w:=by
 cases p with
 | sl τ z m f=>
   have hn':n=m:=hn
   rw [hn']
   obtain ⟨ad,cap,vs,rfl,_⟩:=sl_rows hp
   simp [Builtin.len_,run_underlying ht,goInt]
 | nil z=>
   obtain rfl:=hn
   cases hp.nil_inv
   simp [Builtin.len_,run_underlying ht,goInt]
 | os r=>
   obtain ⟨ge,hg,rfl⟩:=os_inv hp
   simp only [PV.top,getL] at hcs
   split at hcs
   ·rename_i e1 es he1 he2
    injection hcs with hcs;subst hcs
    simp only [Option.some.injEq] at he2;subst he2
    cases e1 with
    | box l=>exact hn.elim
    | bld T e s=>exact hn.elim
    | row τ e z m f=>
      have hn':n=m:=hn
      rw [hn']
      obtain ⟨vs,_,_,_,ho,_⟩:=(hst.at_ _ _ _ hg he1).rows
      obtain ⟨ad,cap,hv,_⟩:=own_slice ho
      rw [hv]
      simp [Builtin.len_,run_underlying ht,goInt]
   ·cases hcs
 | vw b r lo m=>
   have hn':n=m:=hn
   rw [hn']
   obtain ⟨ge,ad,m0,cap,_,_,_,rfl⟩:=vw_inv hp
   simp [Builtin.len_,run_underlying ht,goInt]
 | rf m r=>
   cases m with
   | none=>exact hn.elim
   | some zm=>
     obtain ⟨z,m⟩:=zm
     have hn':n=m:=hn
     rw [hn']
     cases hp
     simp [Builtin.len_,run_underlying ht,goInt]
 | _=>exact hn.elim
theorem lens_sound {t:TypeId} {s:List UInt8} {u:Value} (ty:TypeId) (ht:P.underlying t=some .string) (hp:Rep X γ w (.str s) u):
  (Builtin.len_ #[t] ty #[u]).run P w= .ok (.int .i64 (s.length:Int)) w:=by
 cases hp.str_inv
 simp [Builtin.len_,run_underlying ht,goInt];rfl
theorem cut_sl {τ z n l h:Nat} {f:Nat→List PV} {ad:Option Addr} {cap:Nat} (hp:Rep X γ w (.sl τ z n f) (.slice ad n cap)) (hl:l≤h) (hh:h≤n):
  Rep X γ w (.sl τ z (h - l) (fun i=>f (l+i))) (.slice (if cap=l then ad else ad.map (·.add (l*z))) (h - l) (cap - l)):=by
 obtain ⟨ad',cap',vs,e,hcap,hr,hb,hc⟩:=sl_rowsT hp
 injection e with e1 _ e3;subst e1;subst e3
 refine RowsRep.sl (vs:=(vs.drop (l*z)).take ((h - l)*z)) ⟨?_,fun u hu=>hr.one u (List.mem_of_mem_drop (List.mem_of_mem_take hu)),fun i hi=>hr.hz _ (by omega),fun i hi=>hr.hf _ (by omega),fun i j c u hi hc' hu=> ?_⟩ (by omega) ?_ (fun a ha j u hu=> ?_)
 ·rw [List.length_take,List.length_drop,hr.len]
  have:(h - l)*z≤n*z - l*z:=by rw [←Nat.sub_mul];exact Nat.mul_le_mul_right z (by omega)
  omega
 ·have hj:j<z:=by rw [←hr.hz (l+i) (by omega)];exact (List.getElem?_eq_some_iff.1 hc').1
  rw [List.getElem?_take,if_pos (idx_lt hi hj),List.getElem?_drop] at hu
  refine hr.rep (l+i) j c u (by omega) hc' ?_
  rw [←hu];congr 1;rw [Nat.add_mul];omega
 ·rcases Nat.eq_zero_or_pos (h - l) with h0 | h0
  ·exact .inl h0
  ·right
   rcases hb with hb | ⟨a,rfl,hm,hlt⟩
   ·omega
   ·rw [if_neg (by omega)]
    exact ⟨a.add (l*z),rfl,by rw [add_block];exact hm,by rw [add_block];exact hlt⟩
 ·rw [List.getElem?_take] at hu
  split at hu
  ·rename_i hk
   rw [List.getElem?_drop] at hu
   have h0:0<h - l:=by rcases Nat.eq_zero_or_pos (h - l) with h0 | h0
                       ·rw [h0] at hk;omega
                       ·exact h0
   rw [if_neg (by omega)] at ha
   obtain ⟨a0,ha0,rfl⟩:=Option.map_eq_some_iff.1 ha
   rw [add_add_]
   exact hc a0 ha0 _ u hu
  ·cases hu
theorem run_bound {v:Value} {k:IntKind} {i:Int} {y:Nat} {code:BoundsCode} (hv:v= .int k i) (h0:0≤i) (h1:i.toNat≤y):(Instr.sliceBound v y code).run P w= .ok i.toNat w:=by
 subst hv
 have:i≤y:=by omega
 simp [Instr.sliceBound,asIntOf,h0,this]
theorem slc_sound {t e:TypeId} {τ n:Nat} {f:Nat→List PV} {u:Value} {lo hi:Option Value} {l h:Nat} (ht:P.underlying t=some (.slice e)) (hpos:0<P.cellsOf e) (hp:Rep X γ w (.sl τ (P.cellsOf e) n f) u)
  (hlo:(lo=none∧l=0)∨∃k i,lo=some (.int k i)∧0≤i∧l=i.toNat) (hhi:(hi=none∧h=n)∨∃k i,hi=some (.int k i)∧0≤i∧h=i.toNat) (hl:l≤h) (hh:h≤n):
  ∃v,(Instr.sliceAt t u lo hi none).run P w= .ok v w∧Rep X γ w (.sl τ (P.cellsOf e) (h - l) (fun i=>f (l+i))) v:=by
 obtain ⟨i,hi',hs⟩:=info_of_size hpos
 obtain ⟨ad,cap,vs,rfl,hcap,_⟩:=sl_rows hp
 refine ⟨_, ?_,cut_sl hp hl hh⟩
 have hb:(Instr.sliceBounds true n cap lo hi none).run P w= .ok (l,h,cap) w:=by
  unfold Instr.sliceBounds
  rcases hhi with ⟨a1,a2⟩ | ⟨k,i,a1,h0,a2⟩
  ·rcases hlo with ⟨b1,b2⟩ | ⟨k',i',b1,h0',b2⟩
   ·simp [a1,a2,b1,b2]
   ·have e2:=run_bound (P:=P) (w:=w) (code:= .sliceB) (rfl:Value.int k' i'=_) h0' (by omega:i'.toNat≤n)
    simp [a1,a2,b1,b2,e2]
  ·have e1:=run_bound (P:=P) (w:=w) (code:= .sliceAcap) (y:=cap) (rfl:Value.int k i=_) h0 (by omega)
   rcases hlo with ⟨b1,b2⟩ | ⟨k',i',b1,h0',b2⟩
   ·simp [a1,a2,b1,b2,e1]
   ·have e2:=run_bound (P:=P) (w:=w) (code:= .sliceB) (rfl:Value.int k' i'=_) h0' (by omega:i'.toNat≤i.toNat)
    simp [a1,a2,b1,b2,e1,e2]
 simp [Instr.sliceAt,Instr.slice,run_underlying ht,hb,run_sizeOf w hi']
theorem slc_vw_sound {t e e':TypeId} {r n:Nat} {τ:Nat} {f:Nat→List PV} {u:Value} {lo hi:Option Value} {l h:Nat} {b:Bool} (hst:RepSt X γ w st) (ht:P.underlying t=some (.slice e)) (hpos:0<P.cellsOf e)
  (hp:Rep X γ w (.os r) u) (he:st r=some (.row τ e' (P.cellsOf e) n f))
  (hlo:(lo=none∧l=0)∨∃k i,lo=some (.int k i)∧0≤i∧l=i.toNat) (hhi:(hi=none∧h=n)∨∃k i,hi=some (.int k i)∧0≤i∧h=i.toNat) (hl:l≤h) (hh:h≤n) (hb0:b=true→l=0):
  ∃v,(Instr.sliceAt t u lo hi none).run P w= .ok v w∧Rep X γ w (.vw b r l (h - l)) v:=by
 obtain ⟨i,hi',hs⟩:=info_of_size hpos
 obtain ⟨ge,hg,rfl⟩:=os_inv hp
 obtain ⟨vs,hz,hb,h1,ho,hr⟩:=(hst.at_ _ _ _ hg he).rows
 obtain ⟨ad,cap,hhdr,hcap,hcm,had⟩:=own_slice ho
 refine ⟨_, ?_, .vw b r l (h - l) ge ad n cap hg hhdr (by omega) hb0 hb⟩
 have hb:(Instr.sliceBounds true n cap lo hi none).run P w= .ok (l,h,cap) w:=by
  unfold Instr.sliceBounds
  rcases hhi with ⟨a1,a2⟩ | ⟨k,i,a1,h0,a2⟩
  ·rcases hlo with ⟨b1,b2⟩ | ⟨k',i',b1,h0',b2⟩
   ·simp [a1,a2,b1,b2]
   ·have e2:=run_bound (P:=P) (w:=w) (code:= .sliceB) (rfl:Value.int k' i'=_) h0' (by omega:i'.toNat≤n)
    simp [a1,a2,b1,b2,e2]
  ·have e1:=run_bound (P:=P) (w:=w) (code:= .sliceAcap) (y:=cap) (rfl:Value.int k i=_) h0 (by omega)
   rcases hlo with ⟨b1,b2⟩ | ⟨k',i',b1,h0',b2⟩
   ·simp [a1,a2,b1,b2,e1]
   ·have e2:=run_bound (P:=P) (w:=w) (code:= .sliceB) (rfl:Value.int k' i'=_) h0' (by omega:i'.toNat≤i.toNat)
    simp [a1,a2,b1,b2,e1,e2]
 rw [hhdr,hz]
 simp [Instr.sliceAt,Instr.slice,run_underlying ht,hb,run_sizeOf w hi']
theorem mv_vw_sound {r lo h n:Nat} {e z:Nat} {τ:Nat} {f:Nat→List PV} {v:Value} {d:Nat} (hst:RepSt X γ w st) (hX:∀b,X.as b∨X.ls b→b<w.heap.size)
  (hv:Rep X γ w (.vw true r lo h) v) (he:st r=some (.row τ e z n f)) (hfx:τ≤2)
  (E:Eff) (hEv:E.val= .os r) (hEw:E.wr= [(r, .row τ e z h f)]) (hEn:E.nw= []) (hEk:E.kill= [r]) (hEr:E.rm= [])
  (hn:newSt d E.kill E.rm E.wr E.nw st=some st'):Snd P X γ w st E st' (pure (.value v)):=by
 obtain ⟨ge,vs,hg,hz,hb,ho,hr⟩:=head_own hst hv he
 rw [hEk,hEr,hEw,hEn] at hn
 simp only [newSt_eq,rmS_nil,wrS,nwS,Option.some.injEq] at hn
 subst hn
 refine ⟨_,v,w,upd γ r ⟨ge.blk,v,z⟩,by simp only [Sem.run_pure], .inl rfl,
  EffOK.app (ge':=⟨ge.blk,v,z⟩) hst hX hg he (fun l hl=>by cases hl) hEk (Keeps.refl _ w) (fun b hb'=> .inl hb') (fun b hb'=>hst.lt b ⟨r,ge,hg, .inl hb'⟩) (fun hmono=> ?_) ?_ (hgr:=hb.symm) (hfx:=fix_low hfx)⟩
 ·exact (hr.mono hmono).repS rfl hb.symm (slice_one ho) ho
 ·rw [hEv]
  exact .os r ⟨ge.blk,v,z⟩ (upd_same _ _ _) (slice_one ho) hb.symm
theorem extract_mk (s:List UInt8) (l h:Nat):(⟨s.toArray⟩:ByteArray).extract l h=⟨((s.take h).drop l).toArray⟩:=by
 ext1
 simp [List.extract,List.drop_take]
theorem slcs_sound {t:TypeId} {s:List UInt8} {u:Value} {lo hi:Option Value} {l h:Nat} (ht:P.underlying t=some .string) (hp:Rep X γ w (.str s) u)
  (hlo:(lo=none∧l=0)∨∃k i,lo=some (.int k i)∧0≤i∧l=i.toNat) (hhi:(hi=none∧h=s.length)∨∃k i,hi=some (.int k i)∧0≤i∧h=i.toNat) (hl:l≤h) (hh:h≤s.length):
  ∃v,(Instr.sliceAt t u lo hi none).run P w= .ok v w∧Rep X γ w (.str ((s.take h).drop l)) v:=by
 cases hp.str_inv
 refine ⟨_, ?_, .str _⟩
 have hsz:(⟨s.toArray⟩:ByteArray).size=s.length:=rfl
 have hb:(Instr.sliceBounds false s.length s.length lo hi none).run P w= .ok (l,h,s.length) w:=by
  unfold Instr.sliceBounds
  rcases hhi with ⟨a1,a2⟩ | ⟨k,i,a1,h0,a2⟩
  ·rcases hlo with ⟨b1,b2⟩ | ⟨k',i',b1,h0',b2⟩
   ·simp [a1,a2,b1,b2]
   ·have e2:=run_bound (P:=P) (w:=w) (code:= .sliceB) (rfl:Value.int k' i'=_) h0' (by omega:i'.toNat≤s.length)
    simp [a1,a2,b1,b2,e2]
  ·have e1:=run_bound (P:=P) (w:=w) (code:= .sliceAlen) (y:=s.length) (rfl:Value.int k i=_) h0 (by omega)
   rcases hlo with ⟨b1,b2⟩ | ⟨k',i',b1,h0',b2⟩
   ·simp [a1,a2,b1,b2,e1]
   ·have e2:=run_bound (P:=P) (w:=w) (code:= .sliceB) (rfl:Value.int k' i'=_) h0' (by omega:i'.toNat≤i.toNat)
    simp [a1,a2,b1,b2,e1,e2]
 simp [Instr.sliceAt,Instr.slice,run_underlying ht,hsz,hb,extract_mk]
theorem unnil_rep {c:PV} {u:Value} (h:Rep X γ w c u):Rep X γ w c.unnil u:=by
 cases c<;>try exact h
 cases h.nil_inv
 exact .sl 0 _ 0 _ none 0 (fun _=>undef) (Nat.le_refl _) (fun i hi=>by omega) (fun i hi=>by omega) (fun hi=>by omega) (fun i j c hi=>by omega)
theorem tauL_mem:∀(l:List PV),tauL l=0→∀c∈l,c.tau=0
 | [],_,c,hc=>by simp at hc
 | p::ps,h,c,hc=>by
   simp only [tauL] at h
   rcases List.mem_cons.1 hc with rfl | hc
   ·omega
   ·exact tauL_mem ps (by omega) c hc
theorem tauL_le:∀(l:List PV),∀c∈l,c.tau≤tauL l
 | [],c,hc=>by simp at hc
 | p::ps,c,hc=>by
   simp only [tauL]
   rcases List.mem_cons.1 hc with rfl | hc
   ·omega
   ·have:=tauL_le ps c hc;omega
theorem tauR_le:∀(l:List (List PV)),∀r∈l,tauL r≤tauR l
 | [],c,hc=>by simp at hc
 | p::ps,c,hc=>by
   simp only [tauR]
   rcases List.mem_cons.1 hc with rfl | hc
   ·omega
   ·have:=tauR_le ps c hc;omega
theorem mks_sound {t e:TypeId} {k k':IntKind} {n c:Int} {zero:List PV} {d:Nat} (hst:RepSt X γ w st) (hX:∀b,X.as b∨X.ls b→b<w.heap.size)
  (ht:P.underlying t=some (.slice e)) (hpos:0<P.cellsOf e) (hz:zeroOf P e=some zero) (hfl:(zero.map PV.unnil).all PV.flat=true) (hl:(zero.map PV.unnil).length=P.cellsOf e) (htau:tauL (zero.map PV.unnil)=0)
  (h0:0≤n) (h1:n≤c) (h2:c*P.bytesOf e≤140737488355328) (h3:c≤maxLen)
  (E:Eff) (hEv:E.val= .os d) (hEw:E.wr= []) (hEn:E.nw= [.row 0 e (P.cellsOf e) n.toNat (fun _=>zero.map PV.unnil)]) (hEk:E.kill= []) (hEr:E.rm= [])
  (hn:newSt d E.kill E.rm E.wr E.nw st=some st'):Snd P X γ w st E st' (do pure (.value (←Instr.makeSlice t (.int k n) (.int k' c)))):=by
 obtain ⟨z,_,hzr,hz1,hzs,i,hi,hiz,his,hib⟩:=zeroOf_rep (X:=X) (γ:=γ) (w:=w) hz
 have hrun:=run_make (P:=P) w t e i z ht hi hiz k k' n c h0 h1 (by rw [hib,Int.mul_comm];omega) (by unfold maxLen at h3;omega)
 rw [hEk,hEr,hEw,hEn] at hn
 simp only [newSt_eq,voidS_nil,rmS_nil,wrS,nwS] at hn
 cases hd:st d with
 | some _=>rw [hd] at hn;cases hn
 | none=>
   rw [hd] at hn;injection hn with hn;subst hn
   have hcm:n.toNat≤c.toNat:=by omega
   have hzl:z.cells.toList.length=P.cellsOf e:=by simpa using hzs
   have hcs:∀j,j<n.toNat*P.cellsOf e→(madeCells z.cells (c.toNat*i.size)).toList[j]? =z.cells.toList[j % P.cellsOf e]? :=fun j hj=>by
    have hjc:j<c.toNat*P.cellsOf e:=Nat.lt_of_lt_of_le hj (Nat.mul_le_mul_right _ hcm)
    have hm:j % P.cellsOf e<z.cells.size:=by rw [hzs];exact Nat.mod_lt _ hpos
    simp only [madeCells,Array.toList_map,Array.toList_range,his,hzs]
    rw [List.getElem?_map,List.getElem?_range hjc]
    simp [hm]
   have hown:OwnsG (w.alloc (.cells (madeCells z.cells (c.toNat*i.size)) e)) e (P.cellsOf e) (.slice (some ⟨w.heap.size,0,none⟩) n.toNat c.toNat) n.toNat ((madeCells z.cells (c.toNat*i.size)).toList.take (n.toNat*P.cellsOf e)):=by
    refine ⟨?_, .inr ⟨w.heap.size,c.toNat,_,(0,0),rfl,heap_alloc_new w _, .inl rfl,hcm,by omega,by rw [size_madeCells,his],rfl⟩⟩
    rw [List.length_take]
    have:(madeCells z.cells (c.toNat*i.size)).toList.length=c.toNat*P.cellsOf e:=by rw [Array.length_toList,size_madeCells,his]
    rw [this]
    exact Nat.min_eq_left (Nat.mul_le_mul_right _ hcm)
   have hget:∀j u,((madeCells z.cells (c.toNat*i.size)).toList.take (n.toNat*P.cellsOf e))[j]? =some u→j<n.toNat*P.cellsOf e∧z.cells.toList[j % P.cellsOf e]? =some u:=fun j u hu=>by
    rw [List.getElem?_take] at hu
    split at hu
    ·exact ⟨‹_›,by rw [←hcs j ‹_›];exact hu⟩
    ·cases hu
   have hrows:∀(γ':Gh) (w':World),(∀p u,Rep X γ w p u→Rep X γ' w' p u)→RowsRep X γ' w' 0 (P.cellsOf e) n.toNat (fun _=>zero.map PV.unnil) ((madeCells z.cells (c.toNat*i.size)).toList.take (n.toNat*P.cellsOf e)):=fun γ' w' hm=>by
    refine ⟨hown.1,fun u hu=> ?_,fun _ _=>hl,fun _ _ c hc=>List.all_eq_true.1 hfl c hc,fun a j c u ha hc hu=> ?_⟩
    ·obtain ⟨j,hj⟩:=List.getElem?_of_mem hu
     exact hz1 u (List.mem_of_getElem? (hget j u hj).2)
    ·have hj:j<P.cellsOf e:=by rw [←hl];exact (List.getElem?_eq_some_iff.1 hc).1
     have hu':=(hget _ u hu).2
     have e1:(a*P.cellsOf e+j) % P.cellsOf e=j:=by rw [Nat.mul_add_mod_self_right];exact Nat.mod_eq_of_lt hj
     rw [e1] at hu'
     rw [List.getElem?_map] at hc
     obtain ⟨c0,hc0,rfl⟩:=Option.map_eq_some_iff.1 hc
     have:=unnil_rep (hzr.2 j c0 u hc0 hu')
     have hm0:=this.mark_up 0
     refine hm _ _ (hm0 ?_)
     exact Nat.le_of_eq (tauL_mem _ htau _ (List.mem_map.2 ⟨c0,List.mem_of_getElem? hc0,rfl⟩))
   refine ⟨_,_,_,upd γ d ⟨some w.heap.size, .slice (some ⟨w.heap.size,0,none⟩) n.toNat c.toNat,P.cellsOf e⟩,by simp only [Sem.run_bind,hrun,Result.andThen_ok,Sem.run_pure];rfl, .inl rfl,
    EffOK.add (ge:=⟨some w.heap.size, .slice (some ⟨w.heap.size,0,none⟩) n.toNat c.toNat,P.cellsOf e⟩) hst hX hd hEk (alloc_keeps w _) (fun b hb'=> ?_) (fun hmono=> ?_) (fun _=> ?_)⟩
   ·have hb':=(GE.has_row rfl).1 hb'
    injection hb' with hb';subst hb';exact ⟨Nat.le_refl _,by simp⟩
   ·exact (hrows _ _ hmono).repS rfl rfl rfl hown
   ·rw [hEv]
    exact .os d ⟨some w.heap.size, .slice (some ⟨w.heap.size,0,none⟩) n.toNat c.toNat,P.cellsOf e⟩ (upd_same _ _ _) rfl rfl
theorem cvb_sound {src dst e:TypeId} {str:List UInt8} {u:Value} {d:Nat} (hst:RepSt X γ w st) (hX:∀b,X.as b∨X.ls b→b<w.heap.size)
  (hs:P.underlying src=some .string) (hd:P.underlying dst=some (.slice e)) (he:P.underlying e=some (.int .u8)) (hv:Rep X γ w (.str str) u) (h1:str.length≤maxLen)
  (E:Eff) (hEv:E.val= .os d) (hEw:E.wr= []) (hEn:E.nw= [.row 0 e 1 str.length (fun i=> [.int .u8 ((str.getD i 0).toNat:Int)])]) (hEk:E.kill= []) (hEr:E.rm= [])
  (hn:newSt d E.kill E.rm E.wr E.nw st=some st'):Snd P X γ w st E st' (do pure (.value (←convert src dst u))):=by
 have hrun:=run_bytes_of_string (P:=P) w src dst e ⟨str.toArray⟩ hs hd he
 cases hv.str_inv
 have hz:(⟨str.toArray⟩:ByteArray).size=str.length:=rfl
 rw [hz] at hrun
 generalize hcap:grownCap w str.length 0 e=cap at hrun
 have hge:str.length≤cap:=by rw [←hcap];exact grownCap_ge w str.length 0 e
 have hcm:cap≤maxLen:=by rw [←hcap];exact grownCap_le_maxLen w str.length 0 e h1
 have hsz:(bytesRow ⟨str.toArray⟩ cap).size=cap:=by
  have:(⟨str.toArray⟩:ByteArray).size=str.length:=rfl
  simp only [bytesRow,Array.size_append,Array.size_map,Array.size_replicate,this,List.size_toArray]
  omega
 have hget:∀j,j<str.length→(bytesRow ⟨str.toArray⟩ cap)[j]? =some (.int .u8 ((str.getD j 0).toNat:Int)):=fun j hj=>by
  rw [bytesRow_at _ cap j (by simpa using hj)]
  simp [List.getD,List.getElem?_eq_getElem hj]
 generalize bytesRow ⟨str.toArray⟩ cap=B at hrun hsz hget
 have hl2:B.toList.length=cap:=by rw [Array.length_toList];exact hsz
 rw [hEk,hEr,hEw,hEn] at hn
 simp only [newSt_eq,voidS_nil,rmS_nil,wrS,nwS] at hn
 cases hdn:st d with
 | some _=>rw [hdn] at hn;cases hn
 | none=>
   rw [hdn] at hn;injection hn with hn;subst hn
   have hown:OwnsG (w.drew.alloc (.cells B e (B.size,B.size+1))) e 1 (.slice (some ⟨w.heap.size,0,none⟩) str.length cap) str.length (B.toList.take (str.length*1)):=by
    refine ⟨?_, .inr ⟨w.heap.size,cap,_,_,rfl,heap_alloc_new w.drew _, .inr (Nat.le_refl _),hge,hcm,by rw [hsz,Nat.mul_one],rfl⟩⟩
    rw [List.length_take,hl2]
    exact Nat.min_eq_left (by omega)
   have hrows:∀(γ':Gh) (w':World),RowsRep X γ' w' 0 1 str.length (fun i=> [PV.int .u8 ((str.getD i 0).toNat:Int)]) (B.toList.take (str.length*1)):=fun γ' w'=>by
    refine ⟨hown.1,fun u hu=> ?_,fun _ _=>rfl,fun i _ c hc=> ?_,fun a j c u ha hc hu=> ?_⟩
    ·obtain ⟨j,hj⟩:=List.getElem?_of_mem hu
     rw [List.getElem?_take] at hj
     split at hj
     ·rename_i hlt
      rw [Array.getElem?_toList,hget j (by omega)] at hj
      injection hj with hj;subst hj;rfl
     ·cases hj
    ·simp only [List.mem_singleton] at hc;subst hc;rfl
    ·have hj:j=0:=by
       have:=(List.getElem?_eq_some_iff.1 hc).1
       simp at this;omega
     subst hj
     simp only [List.getElem?_cons_zero,Option.some.injEq] at hc
     subst hc
     simp only [Nat.mul_one,Nat.add_zero] at hu
     rw [List.getElem?_take,if_pos (by omega),Array.getElem?_toList,hget a ha] at hu
     injection hu with hu;subst hu
     exact .int _ _
   have hkeep:Keeps (fun _=>False) w (w.drew.alloc (.cells B e (B.size,B.size+1))):=(Keeps.drew _ w).trans (Keeps.alloc _ _ _)
   refine ⟨_,_,_,upd γ d ⟨some w.heap.size, .slice (some ⟨w.heap.size,0,none⟩) str.length cap,1⟩,by simp only [Sem.run_bind,hrun,Result.andThen_ok,Sem.run_pure];rfl, .inl rfl,
    EffOK.add (ge:=⟨some w.heap.size, .slice (some ⟨w.heap.size,0,none⟩) str.length cap,1⟩) hst hX hdn hEk hkeep (fun b hb'=> ?_) (fun hmono=> ?_) (fun _=> ?_)⟩
   ·have hb':=(GE.has_row rfl).1 hb'
    injection hb' with hb';subst hb';exact ⟨Nat.le_refl _,by simp⟩
   ·exact (hrows _ _).repS rfl rfl rfl hown
   ·rw [hEv]
    exact .os d ⟨some w.heap.size, .slice (some ⟨w.heap.size,0,none⟩) str.length cap,1⟩ (upd_same _ _ _) rfl rfl
theorem cvs_rows {src dst e:TypeId} {τ n m:Nat} {f:Nat→List PV} {vs:List Value} {ad:Option Addr} {cap:Nat} (hs:P.underlying src=some (.slice e)) (he:P.underlying e=some (.int .u8)) (hd:P.underlying dst=some .string)
  (hr:RowsRep X γ w τ 1 n f vs) (hb:areBytes n f) (hm:m=n) (hn:ad=none→n=0) (hc:∀a,ad=some a→∀j u,vs[j]? =some u→w.cell? (a.add j)=some u):
  (convert src dst (.slice ad m cap)).run P w= .ok (.string ⟨(strOf n f).toArray⟩) w:=by
 subst hm
 have hlen:(strOf m f).length=m:=by simp [strOf]
 have hvs:∀j (hj:j<(strOf m f).length),vs[j]? =some (.int .u8 ((strOf m f)[j].toNat:Int)):=fun j hj=>by
  have hj':j<m:=by rw [hlen] at hj;exact hj
  obtain ⟨x,hx⟩:=hb j hj'
  have hlv:j*1+0<vs.length:=by rw [hr.len];omega
  have:=hr.rep j 0 (.int .u8 (x.toNat:Int)) (vs[j*1+0]'hlv) hj' (by rw [hx];rfl) (List.getElem?_eq_getElem hlv)
  have h2:vs[j*1+0]'hlv= .int .u8 (x.toNat:Int):=(show Rep X γ w (.int .u8 (x.toNat:Int)) _ from this).int_inv
  have h3:vs[j]? =some (.int .u8 (x.toNat:Int)):=by
   have h5:=List.getElem?_eq_getElem hlv
   rw [h2] at h5
   simpa using h5
  rw [h3]
  have h4:(strOf m f)[j]=x:=by
   simp [strOf,hx,byteOf]
  rw [h4]
 cases ad with
 | some a=>
   have:=run_convert_bytes_back (P:=P) w src dst e a cap (strOf m f) hs he hd (fun j hj=>hc a rfl j _ (hvs j hj))
   rwa [hlen] at this
 | none=>
   have h0:=hn rfl
   subst h0
   have:=run_convert_bytes_string (P:=P) w src dst e none 0 cap hs he hd
   rw [this]
   rfl
theorem cvs_sound {src dst e:TypeId} {p:PV} {u:Value} {cs:List SE} {E:Eff} (hst:RepSt X γ w st) (hs:P.underlying src=some (.slice e)) (he:P.underlying e=some (.int .u8)) (hd:P.underlying dst=some .string)
  (hp:Rep X γ w p u) (hcs:getL st p.top=some cs) (hE:eCvs [p] cs=some E) (hsd:allP E.side):
  Good P X γ w E (convert src dst u):=by
 unfold eCvs at hE
 simp only at hE
 split at hE
 ·rename_i τ z n f hsrc
  split at hE
  ·rename_i hz
   subst hz
   injection hE with hE;subst hE
   obtain ⟨ad,cap,vs,rfl,_,hr,hn,hc⟩:=src_rows hst hp rfl hcs hsrc
   exact ⟨Eff.still_side _ _,_,cvs_rows hs he hd hr hsd.1 rfl hn hc, .str _⟩
  ·cases hE
 ·cases hE
end
open Go.RowKit
theorem getL_append {st:Nat→Option SE}:∀(a b:List Nat) (cs:List SE),getL st (a++b)=some cs→∃c1 c2,cs=c1++c2∧getL st a=some c1∧getL st b=some c2
 | [],b,cs,h=>⟨[],cs,rfl,rfl,h⟩
 | x::a,b,cs,h=>by
   simp only [List.cons_append,getL] at h
   split at h
   ·rename_i e es he hes
    injection h with h;subst h
    obtain ⟨c1,c2,rfl,h1,h2⟩:=getL_append a b es hes
    exact ⟨e::c1,c2,rfl,by simp [getL,he,h1],h2⟩
   ·cases h
theorem getL_one {st:Nat→Option SE} {r:Nat} {cs:List SE} (h:getL st [r]=some cs):∃e,st r=some e∧cs= [e]:=by
 simp only [getL] at h
 split at h
 ·rename_i e es he hes
  injection h with h;subst h
  injection hes with hes;subst hes
  exact ⟨e,he,rfl⟩
 ·cases h
theorem getL_mem {st:Nat→Option SE}:∀(l:List Nat) (cs:List SE),getL st l=some cs→∀r∈l,∃e,st r=some e∧e∈cs
 | [],cs,h,r,hr=>by simp at hr
 | x::l,cs,h,r,hr=>by
   simp only [getL] at h
   split at h
   ·rename_i e es he hes
    injection h with h;subst h
    rcases List.mem_cons.1 hr with rfl | hr
    ·exact ⟨e,he,by simp⟩
    ·obtain ⟨e',h1,h2⟩:=getL_mem l es hes r hr
     exact ⟨e',h1,by simp [h2]⟩
   ·cases h
section
variable {P:Program} {X:Cx} {γ γ':Gh} {w w':World} {st st':Nat→Option SE}
theorem fill_order {z:Nat}:∀(ps:List (Nat×Value)) (k:Nat) (cur:Array Value),(∀j x,ps[j]? =some x→x.1=k+j∧x.2.cells.size=z)→(k+ps.length)*z≤cur.size→
  ∃cur',Instr.fill (fun i=>some (i*z,z)) cur ps=some cur'∧cur'.toList=cur.toList.take (k*z)++(ps.map fun x=>x.2.cells.toList).flatten++cur.toList.drop ((k+ps.length)*z)
 | [],k,cur,_,_=>⟨cur,rfl,by simp⟩
 | (i,v)::ps,k,cur,h,hsz=>by
   obtain ⟨hi,hv⟩:=h 0 (i,v) rfl
   simp only at hi hv
   have hi:i=k:=by omega
   subst hi
   have hle:(i+1)*z≤(i+((i,v)::ps).length)*z:=Nat.mul_le_mul_right z (by simp)
   have hfit:i*z+v.cells.size≤cur.size:=by rw [hv];have:(i+1)*z=i*z+z:=by rw [Nat.add_mul];omega
                                           omega
   have hz:=zipIdx_foldl v.cells cur (i*z) hfit
   obtain ⟨cur',hc,hl⟩:=fill_order ps (i+1) (v.cells.zipIdx.foldl (fun (a:Array Value) (p:Value×Nat)=>a.setIfInBounds (i*z+p.2) p.1) cur) (fun j x hj=>by
    obtain ⟨h1,h2⟩:=h (j+1) x (by simpa using hj)
    exact ⟨by omega,h2⟩) (by
    have hs:(v.cells.zipIdx.foldl (fun (a:Array Value) (p:Value×Nat)=>a.setIfInBounds (i*z+p.2) p.1) cur).size=cur.size:=by
     have:=congrArg List.length hz
     simp only [Array.length_toList,List.length_append,List.length_take,List.length_drop] at this
     rw [this];omega
    rw [hs]
    have:(i+1+ps.length)*z=(i+((i,v)::ps).length)*z:=by congr 1;simp;omega
    omega)
   refine ⟨cur', ?_, ?_⟩
   ·simp only [Instr.fill]
    rw [if_neg (by simp [hv];omega)]
    exact hc
   ·rw [hl,hz]
    have hvl:v.cells.toList.length=z:=by simpa using hv
    have e1:(i+1)*z=i*z+z:=by rw [Nat.add_mul];omega
    have e2:(i+1+ps.length)*z=(i*z+z)+ps.length*z:=by rw [Nat.add_mul,e1]
    have e3:(i+((i,v)::ps).length)*z=(i*z+z)+ps.length*z:=by rw [←e2];congr 1;simp;omega
    have htl:(cur.toList.take (i*z)).length=i*z:=by simp;omega
    rw [e1,e2,e3]
    have t1:(cur.toList.take (i*z)++v.cells.toList++cur.toList.drop (i*z+v.cells.toList.length)).take (i*z+z)=cur.toList.take (i*z)++v.cells.toList:=by
     rw [List.take_left' (by rw [List.length_append,htl,hvl])]
    have t2:(cur.toList.take (i*z)++v.cells.toList++cur.toList.drop (i*z+v.cells.toList.length)).drop (i*z+z+ps.length*z)=cur.toList.drop (i*z+z+ps.length*z):=by
     rw [List.drop_append,List.drop_eq_nil_of_le (by rw [List.length_append,htl,hvl];omega),List.nil_append,List.drop_drop,List.length_append,htl,hvl]
     congr 1;omega
    rw [t1,t2]
    simp
theorem frozen_sl {r:Nat} {ge:GE} {τ e z n:Nat} {f:Nat→List PV} {ids:List Nat} (hst:RepSt X γ w st) (hg:γ r=some ge) (he:st r=some (.row τ e z n f))
  (hlo:∀b,ge.blk=some b→X.my b) (hr:∀p u,Rep X γ w p u→Rep X γ' w' (p.void ids) u) (hcell:∀(τ:Nat) (a:Addr),a.block<w.heap.size→cellT τ w' a=cellT τ w a) (hsz:w.heap.size≤w'.heap.size)
  (hown:∀b,ge.blk=some b→¬γ'.own b):Rep X γ' w' (.sl τ z n f) ge.hdr∧ge.hdr.oneCell'=true:=by
 obtain ⟨vs,h1,h2,h3,ho,hrr⟩:=(hst.at_ r ge _ hg he).rows
 obtain ⟨ad,cap,hv,hnc,_,hor⟩:=own_slice ho
 refine ⟨?_,h3⟩
 rw [hv]
 refine (hrr.mono hr).sl hnc ?_ (fun a ha j u hu=> ?_)
 ·rcases hor with h0 | ⟨g,rfl,hlt,hb⟩
  ·exact .inl h0
  ·have hb':ge.blk=some g:=by rw [h2,hb]
   exact .inr ⟨_,rfl,⟨hown g hb', .inl (hlo g hb')⟩,Nat.lt_of_lt_of_le hlt hsz⟩
 ·have hc:=own_cellsT (τ:=τ) ho hv ha j u hu
  have hlt:(a.add j).block<w.heap.size:=World.block_lt_of_cell? w _ (cellT_cell hc)
  rw [hcell _ _ hlt];exact hc
theorem frozen_vw {h:Bool} {r lo m:Nat} {τ e z n:Nat} {f:Nat→List PV} {u:Value} {ids:List Nat} (hst:RepSt X γ w st) (hu:Rep X γ w (.vw h r lo m) u) (he:st r=some (.row τ e z n f))
  (hlo:∀ge b,γ r=some ge→ge.blk=some b→X.my b) (hr:∀p u,Rep X γ w p u→Rep X γ' w' (p.void ids) u) (hcell:∀(τ:Nat) (a:Addr),a.block<w.heap.size→cellT τ w' a=cellT τ w a) (hsz:w.heap.size≤w'.heap.size)
  (hown:∀ge b,γ r=some ge→ge.blk=some b→¬γ'.own b):Rep X γ' w' (.sl τ z m (fun i=>f (lo+i))) u∧u.oneCell'=true:=by
 obtain ⟨ad,cap,vs,hue,hnc,hrr,hor,hc⟩:=vw_rows hst hu he
 obtain ⟨ge,ad',m',cap',hge,hh,hle,hvw⟩:=vw_inv hu
 rw [hue] at hvw
 refine ⟨?_,by rw [hue];rfl⟩
 rw [hue]
 refine (hrr.mono hr).sl hnc ?_ (fun a ha j u hu=> ?_)
 ·rcases Nat.eq_zero_or_pos m with h0 | h0
  ·exact .inl h0
  ·right
   obtain ⟨vs',_,h2,_,ho,_⟩:=(hst.at_ _ _ _ hge he).rows
   obtain ⟨ad2,cap2,hv2,hnc2,_,hor2⟩:=own_slice ho
   rw [hh] at hv2
   injection hv2 with e1 e2 e3
   subst e1;subst e2;subst e3
   rcases hor2 with h3 | ⟨g,rfl,hlt,hbl⟩
   ·omega
   ·injection hvw with e4 _ _
    have hne:cap'≠lo:=by omega
    rw [if_neg hne,Option.map_some] at e4
    have hb':ge.blk=some g:=by rw [h2,hbl]
    refine ⟨_,e4, ?_, ?_⟩
    ·rw [add_plain];exact ⟨hown ge g hge hb', .inl (hlo ge g hge hb')⟩
    ·rw [add_plain];exact Nat.lt_of_lt_of_le hlt hsz
 ·have hc':=hc τ a ha j u hu
  have hlt:(a.add j).block<w.heap.size:=World.block_lt_of_cell? w _ (cellT_cell hc')
  rw [hcell _ _ hlt];exact hc'
theorem rowCells_sound {ids:List Nat} (hst:RepSt X γ w st) (hr:∀p u,Rep X γ w p u→Rep X γ' w' (p.void ids) u)
  (hfz:∀r ge τ e z n f,r∈ids→γ r=some ge→st r=some (.row τ e z n f)→Rep X γ' w' (.sl τ z n f) ge.hdr∧ge.hdr.oneCell'=true) 
  (hfv:∀h r lo m u τ e z n f,r∈ids→Rep X γ w (.vw h r lo m) u→st r=some (.row τ e z n f)→Rep X γ' w' (.sl τ z m (fun i=>f (lo+i))) u∧u.oneCell'=true):
  ∀(ps:List PV) (us:List Value) (qs:List PV) (cs cs0 cs':List SE),RepL X γ w ps us→(∀r∈ps.flatMap PV.top,r∈ids)→getL st (ps.flatMap PV.top)=some cs0→cs=cs0++cs'→∀cs'',rowCells ps cs=some (qs,cs'')→
   cs''=cs'∧qs.length=ps.length∧(∀q∈qs,q.flat=true)∧RepL X γ' w' qs us∧∀u∈us,u.oneCell'=true
 | [],us,qs,cs,cs0,cs',hp,hid,h0,he,cs'',h=>by
   cases hp.nil_inv
   simp only [rowCells,Option.some.injEq,Prod.mk.injEq] at h
   simp only [List.flatMap_nil,getL,Option.some.injEq] at h0
   subst h0
   obtain ⟨rfl,rfl⟩:=h
   exact ⟨by simpa using he,rfl,by simp,RepL.nil_,by simp⟩
 | p::ps,us,qs,cs,cs0,cs',hp,hid,h0,he,cs'',h=>by
   obtain ⟨u,us',rfl,hu,hus⟩:=hp.cons_inv
   rw [List.flatMap_cons] at h0 hid
   obtain ⟨c1,c2,rfl,hc1,hc2⟩:=getL_append _ _ _ h0
   simp only [rowCells] at h
   split at h
   ·rename_i q cs1 hq
    split at h
    ·rename_i qs' cs2 hqs
     simp only [Option.some.injEq,Prod.mk.injEq] at h
     obtain ⟨rfl,rfl⟩:=h
     have key:cs1=c2++cs'∧q.flat=true∧Rep X γ' w' q u∧u.oneCell'=true:=by
      unfold rowCell at hq
      split at hq
      ·rename_i r o e z n f cs3
       simp only [Option.some.injEq,Prod.mk.injEq] at hq
       obtain ⟨rfl,rfl⟩:=hq
       obtain ⟨e1,he1,rfl⟩:=getL_one hc1
       simp only [List.cons_append,List.nil_append,List.cons.injEq] at he
       obtain ⟨rfl,rfl⟩:=he
       obtain ⟨ge,hg,rfl⟩:=os_inv hu
       obtain ⟨h1,h2⟩:=hfz r ge _ _ _ _ _ (hid r (by simp [PV.top])) hg he1
       exact ⟨rfl,rfl,h1,h2⟩
      ·rename_i hh r lo m o e z n f cs3
       simp only [Option.some.injEq,Prod.mk.injEq] at hq
       obtain ⟨rfl,rfl⟩:=hq
       obtain ⟨e1,he1,rfl⟩:=getL_one hc1
       simp only [List.cons_append,List.nil_append,List.cons.injEq] at he
       obtain ⟨rfl,rfl⟩:=he
       obtain ⟨h1,h2⟩:=hfv _ r _ _ _ _ _ _ _ _ (hid r (by simp [PV.top])) hu he1
       exact ⟨rfl,rfl,h1,h2⟩
      ·simp only [Option.some.injEq,Prod.mk.injEq] at hq
       obtain ⟨rfl,rfl⟩:=hq
       simp only [PV.top,getL,Option.some.injEq] at hc1;subst hc1
       have:=unnil_rep (hr _ _ hu)
       cases hu.nil_inv
       exact ⟨by simpa using he,rfl,this,rfl⟩
      ·simp only [Option.some.injEq,Prod.mk.injEq] at hq
       obtain ⟨rfl,rfl⟩:=hq
       simp only [PV.top,getL,Option.some.injEq] at hc1;subst hc1
       have:=hr _ _ hu
       cases hu.int_inv
       exact ⟨by simpa using he,rfl,this,rfl⟩
      ·simp only [Option.some.injEq,Prod.mk.injEq] at hq
       obtain ⟨rfl,rfl⟩:=hq
       simp only [PV.top,getL,Option.some.injEq] at hc1;subst hc1
       have:=hr _ _ hu
       cases hu.bool_inv
       exact ⟨by simpa using he,rfl,this,rfl⟩
      ·simp only [Option.some.injEq,Prod.mk.injEq] at hq
       obtain ⟨rfl,rfl⟩:=hq
       simp only [PV.top,getL,Option.some.injEq] at hc1;subst hc1
       have:=hr _ _ hu
       cases hu.str_inv
       exact ⟨by simpa using he,rfl,this,rfl⟩
      ·simp only [Option.some.injEq,Prod.mk.injEq] at hq
       obtain ⟨rfl,rfl⟩:=hq
       simp only [PV.top,getL,Option.some.injEq] at hc1;subst hc1
       have:=hr _ _ hu
       have h1:=hu.one_ rfl
       exact ⟨by simpa using he,rfl,this,h1⟩
      ·simp only [Option.some.injEq,Prod.mk.injEq] at hq
       obtain ⟨rfl,rfl⟩:=hq
       simp only [PV.top,getL,Option.some.injEq] at hc1;subst hc1
       have h1:=hu.one_ rfl
       exact ⟨by simpa using he,rfl,hu.fn_nil,h1⟩
      ·cases hq
     obtain ⟨rfl,hqf,hqr,hu1⟩:=key
     obtain ⟨h1,h2,h3,h4,h5⟩:=rowCells_sound hst hr hfz hfv ps us' qs' (c2++cs') c2 cs' hus (fun r hr=>hid r (List.mem_append.2 (.inr hr))) hc2 rfl cs2 hqs
     refine ⟨h1,by simp [h2],fun x hx=> ?_,RepL.cons_ hqr h4,fun x hx=> ?_⟩
     ·rcases List.mem_cons.1 hx with rfl | hx
      ·exact hqf
      ·exact h3 x hx
     ·rcases List.mem_cons.1 hx with rfl | hx
      ·exact hu1
      ·exact h5 x hx
    ·cases h
   ·cases h
theorem rowsOf_sound {z:Nat} {ids:List Nat} (hst:RepSt X γ w st) (hr:∀p u,Rep X γ w p u→Rep X γ' w' (p.void ids) u)
  (hfz:∀r ge τ e z n f,r∈ids→γ r=some ge→st r=some (.row τ e z n f)→Rep X γ' w' (.sl τ z n f) ge.hdr∧ge.hdr.oneCell'=true) 
  (hfv:∀h r lo m u τ e z n f,r∈ids→Rep X γ w (.vw h r lo m) u→st r=some (.row τ e z n f)→Rep X γ' w' (.sl τ z m (fun i=>f (lo+i))) u∧u.oneCell'=true):
  ∀(vs:List PV) (us:List Value) (rows:List (List PV)) (cs:List SE),RepL X γ w vs us→(∀r∈vs.flatMap (fun p=>p.cells.flatMap PV.top),r∈ids)→getL st (vs.flatMap fun p=>p.cells.flatMap PV.top)=some cs→rowsOf z vs cs=some rows→
   rows.length=vs.length∧∀(i:Nat) (row:List PV) (u:Value),rows[i]? =some row→us[i]? =some u→row.length=z∧u.cells.size=z∧(∀q∈row,q.flat=true)∧RepL X γ' w' row u.cells.toList∧∀x∈u.cells.toList,x.oneCell'=true
 | [],us,rows,cs,hv,hid,hg,h=>by
   cases cs with
   | nil=>simp only [rowsOf,Option.some.injEq] at h;subst h;exact ⟨rfl,fun i row u hi=>by simp at hi⟩
   | cons _ _=>simp [rowsOf] at h
 | v::vs,us,rows,cs,hv,hid,hg,h=>by
   obtain ⟨u,us',rfl,hu,hus⟩:=hv.cons_inv
   rw [List.flatMap_cons] at hg hid
   obtain ⟨c1,c2,rfl,hc1,hc2⟩:=getL_append _ _ _ hg
   simp only [rowsOf] at h
   split at h
   ·rename_i hz
    split at h
    ·rename_i r cs' hrc
     split at h
     ·rename_i rs hrs
      injection h with h;subst h

      have hcells:∃ws:List Value,RepL X γ w v.cells ws∧u.cells.toList=ws:=by
       by_cases ho:v.one=true
       ·have h1:=hu.one_ ho
        exact ⟨_,by rw [cells_one h1,PV.cells_one ho];exact RepL.cons_ hu RepL.nil_,rfl⟩
       ·cases v with
        | agg l=>obtain ⟨ws,rfl,hw,_⟩:=hu.agg_inv;exact ⟨ws,hw,rfl⟩
        | tup l=>simp [PV.cells,rowCells,rowCell] at hrc
        | cnd g p=>simp [PV.cells,rowCells,rowCell] at hrc
        | junk=>simp [PV.cells,rowCells,rowCell] at hrc
        | vw h r lo n=>
          have h1:u.oneCell'=true:=by cases hu;rfl
          exact ⟨[u],RepL.cons_ hu RepL.nil_,by rw [cells_one h1]⟩
        | mpv _ _ _ _ _ _=>simp [PV.cells,rowCells,rowCell] at hrc
        | _=>simp [PV.one] at ho
      obtain ⟨ws,hws,hwe⟩:=hcells
      obtain ⟨rfl,h2,h3,h4,h5⟩:=rowCells_sound hst hr hfz hfv v.cells ws r (c1++c2) c1 c2 hws (fun r hr=>hid r (List.mem_append.2 (.inl hr))) hc1 rfl cs' hrc
      obtain ⟨i1,i2⟩:=rowsOf_sound hst hr hfz hfv vs us' rs cs' hus (fun r hr=>hid r (List.mem_append.2 (.inr hr))) hc2 hrs
      refine ⟨by simp [i1],fun i row x hi hx=> ?_⟩
      cases i with
      | zero=>
        simp only [List.getElem?_cons_zero,Option.some.injEq] at hi hx
        subst hi;subst hx
        refine ⟨by rw [h2,hz], ?_,h3,by rw [hwe];exact h4,by rw [hwe];exact h5⟩
        have:=hws.1
        rw [←hwe,hz] at this
        simpa using this
      | succ i=>exact i2 i row x (by simpa using hi) (by simpa using hx)
     ·cases h
    ·cases h
   ·cases h
theorem rowsOf_sizes {z:Nat}:∀(vs:List PV) (us:List Value) (rows:List (List PV)) (cs:List SE),RepL X γ w vs us→rowsOf z vs cs=some rows→
  rows.length=vs.length∧∀(i:Nat) (u:Value),us[i]? =some u→u.cells.size=z
 | [],us,rows,cs,hv,h=>by
   cases hv.nil_inv
   cases cs with
   | nil=>simp only [rowsOf,Option.some.injEq] at h;subst h;exact ⟨rfl,fun i u hi=>by simp at hi⟩
   | cons _ _=>simp [rowsOf] at h
 | v::vs,us,rows,cs,hv,h=>by
   obtain ⟨u,us',rfl,hu,hus⟩:=hv.cons_inv
   simp only [rowsOf] at h
   split at h
   ·rename_i hz
    split at h
    ·rename_i r cs' hrc
     split at h
     ·rename_i rs hrs
      injection h with h;subst h
      obtain ⟨i1,i2⟩:=rowsOf_sizes vs us' rs cs' hus hrs
      refine ⟨by simp [i1],fun i x hx=> ?_⟩
      cases i with
      | zero=>
        simp only [List.getElem?_cons_zero,Option.some.injEq] at hx
        subst hx
        by_cases ho:v.one=true
        ·have h1:=hu.one_ ho
         rw [cells_one h1];rw [PV.cells_one ho] at hz;simpa using hz
        ·cases v with
         | agg l=>
           obtain ⟨ws,rfl,hw,_⟩:=hu.agg_inv
           have:=hw.1
           simp only [PV.cells] at hz
           simp only [Value.cells,List.size_toArray];omega
         | tup l=>simp [PV.cells,rowCells,rowCell] at hrc
         | cnd g p=>simp [PV.cells,rowCells,rowCell] at hrc
         | junk=>simp [PV.cells,rowCells,rowCell] at hrc
         | vw h r lo n=>
           have h1:u.oneCell'=true:=by cases hu;rfl
           rw [cells_one h1]
           simpa [PV.cells] using hz
         | mpv _ _ _ _ _ _=>simp [PV.cells,rowCells,rowCell] at hrc
         | _=>simp [PV.one] at ho
      | succ i=>exact i2 i x (by simpa using hx)
     ·cases h
    ·cases h
   ·cases h
theorem flatten_get {z:Nat}:∀(ls:List (List Value)),(∀l∈ls,l.length=z)→∀(i j:Nat) (l:List Value),ls[i]? =some l→j<z→ls.flatten[i*z+j]? =l[j]?
 | [],_,i,j,l,h,_=>by simp at h
 | a::ls,hz,i,j,l,h,hj=>by
   have ha:=hz a (by simp)
   cases i with
   | zero=>
     simp only [List.getElem?_cons_zero,Option.some.injEq] at h;subst h
     rw [List.flatten_cons,List.getElem?_append_left (by omega)]
     congr 1;omega
   | succ i=>
     rw [List.flatten_cons,List.getElem?_append_right (by rw [ha,Nat.add_mul];omega)]
     rw [←flatten_get ls (fun l hl=>hz l (by simp [hl])) i j l (by simpa using h) hj]
     congr 1
     rw [ha,Nat.add_mul];omega
theorem flatten_len {z:Nat}:∀(ls:List (List Value)),(∀l∈ls,l.length=z)→ls.flatten.length=ls.length*z
 | [],_=>by simp
 | a::ls,hz=>by
   rw [List.flatten_cons,List.length_append,flatten_len ls (fun l hl=>hz l (by simp [hl])),hz a (by simp),List.length_cons,Nat.add_mul];omega
theorem rowCells_nobox:∀(ps qs:List PV) (cs cs0 cs' cs'':List SE),getL st (ps.flatMap PV.top)=some cs0→cs=cs0++cs'→rowCells ps cs=some (qs,cs'')→cs''=cs'∧∀r∈ps.flatMap PV.top,∀e,e.isRow=false→st r≠some e
 | [],qs,cs,cs0,cs',cs'',h0,he,h=>by
   simp only [rowCells,Option.some.injEq,Prod.mk.injEq] at h
   simp only [List.flatMap_nil,getL,Option.some.injEq] at h0
   subst h0
   obtain ⟨rfl,rfl⟩:=h
   exact ⟨by simpa using he,by simp⟩
 | p::ps,qs,cs,cs0,cs',cs'',h0,he,h=>by
   rw [List.flatMap_cons] at h0
   obtain ⟨c1,c2,rfl,hc1,hc2⟩:=getL_append _ _ _ h0
   simp only [rowCells] at h
   split at h
   ·rename_i q cs1 hq
    split at h
    ·rename_i qs' cs2 hqs
     simp only [Option.some.injEq,Prod.mk.injEq] at h
     obtain ⟨rfl,rfl⟩:=h
     have key:cs1=c2++cs'∧∀r∈p.top,∀e,e.isRow=false→st r≠some e:=by
      unfold rowCell at hq
      split at hq
      ·rename_i r o e z n f cs3
       simp only [Option.some.injEq,Prod.mk.injEq] at hq
       obtain ⟨rfl,rfl⟩:=hq
       obtain ⟨e1,he1,rfl⟩:=getL_one hc1
       simp only [List.cons_append,List.nil_append,List.cons.injEq] at he
       obtain ⟨rfl,rfl⟩:=he
       refine ⟨rfl,fun r' hr' l hl0 hl=> ?_⟩
       simp only [PV.top,List.mem_singleton] at hr'
       subst hr'
       rw [he1] at hl;injection hl with hl;subst hl;cases hl0
      ·rename_i hh r lo m o e z n f cs3
       simp only [Option.some.injEq,Prod.mk.injEq] at hq
       obtain ⟨rfl,rfl⟩:=hq
       obtain ⟨e1,he1,rfl⟩:=getL_one hc1
       simp only [List.cons_append,List.nil_append,List.cons.injEq] at he
       obtain ⟨rfl,rfl⟩:=he
       refine ⟨rfl,fun r' hr' l hl0 hl=> ?_⟩
       simp only [PV.top,List.mem_singleton] at hr'
       subst hr'
       rw [he1] at hl;injection hl with hl;subst hl;cases hl0
      all_goals first
       | (simp only [Option.some.injEq,Prod.mk.injEq] at hq
          obtain ⟨rfl,rfl⟩:=hq
          simp only [PV.top,getL,Option.some.injEq] at hc1;subst hc1
          exact ⟨by simpa using he,by simp [PV.top]⟩)
       | cases hq
     obtain ⟨rfl,hk⟩:=key
     obtain ⟨h1,h2⟩:=rowCells_nobox ps qs' _ c2 cs' cs2 hc2 rfl hqs
     refine ⟨h1,fun r hr=> ?_⟩
     rw [List.flatMap_cons] at hr
     rcases List.mem_append.1 hr with hr | hr
     ·exact hk r hr
     ·exact h2 r hr
    ·cases h
   ·cases h
theorem rowsOf_nobox {z:Nat}:∀(vs:List PV) (rows:List (List PV)) (cs:List SE),rowsOf z vs cs=some rows→getL st (vs.flatMap fun p=>p.cells.flatMap PV.top)=some cs→∀r∈vs.flatMap (fun p=>p.cells.flatMap PV.top),∀e,e.isRow=false→st r≠some e
 | [],rows,cs,h,hg,r,hr=>by simp at hr
 | v::vs,rows,cs,h,hg,r,hr=>by
   rw [List.flatMap_cons] at hg hr
   obtain ⟨c1,c2,rfl,hc1,hc2⟩:=getL_append _ _ _ hg
   simp only [rowsOf] at h
   split at h
   ·split at h
    ·rename_i r' cs' hrc
     split at h
     ·rename_i rs hrs
      obtain ⟨rfl,h2⟩:=rowCells_nobox v.cells r' (c1++c2) c1 c2 cs' hc1 rfl hrc
      rcases List.mem_append.1 hr with hr | hr
      ·exact h2 r hr
      ·exact rowsOf_nobox vs rs cs' hrs hc2 r hr
     ·cases h
    ·cases h
   ·cases h
theorem inOrder_get:∀(k:Nat) (ps:List (Nat×Operand)),inOrder k ps=true→∀j x,ps[j]? =some x→x.1=k+j
 | k, [],_,j,x,h=>by simp at h
 | k,(i,o)::ps,h,j,x,hj=>by
   simp only [inOrder,Bool.and_eq_true,beq_iff_eq] at h
   cases j with
   | zero=>simp only [List.getElem?_cons_zero,Option.some.injEq] at hj;subst hj;simpa using h.1
   | succ j=>have:=inOrder_get (k+1) ps h.2 j x (by simpa using hj);omega
theorem bs_sound {t e n:Nat} {ps:Array (Nat×Operand)} {ρ:Operand→Value} {vs:List PV} {rows:List (List PV)} {ids:List Nat} {cs:List SE} {d:Nat} (hst:RepSt X γ w st) (hX:∀b,X.as b∨X.ls b→b<w.heap.size)
  (hlo:∀r ge b τ e z n f,γ r=some ge→st r=some (.row τ e z n f)→ge.blk=some b→X.my b)
  (ht:P.underlying t=some (.slice e)) (ho:inOrder 0 ps.toList=true) (hn:ps.size=n) (hcap:n*P.cellsOf e≤16777216) (hpos:0<P.cellsOf e) (hzf:zeroFits P e=true)
  (hv:RepL X γ w vs (ps.toList.map fun x=>ρ x.2)) (hids:ids=vs.flatMap fun p=>p.cells.flatMap PV.top) (hcs:getL st ids=some cs) (hrows:rowsOf (P.cellsOf e) vs cs=some rows)
  (hfx:tauR rows≤2) (E:Eff) (hEv:E.val= .os d) (hEw:E.wr= []) (hEn:E.nw= [.row (tauR rows) e (P.cellsOf e) rows.length (fun i=>rows.getD i [])]) (hEk:E.kill=ids) (hEr:E.rm=ids)
  (hnew:newSt d E.kill E.rm E.wr E.nw st=some st'):Snd P X γ w st E st' (do pure (.value (←Instr.buildSlice t n (ps.map fun (i,x)=>(i,ρ x))))):=by
 obtain ⟨inf,z,hi,hiz,hzs,his,hib⟩:=zeroFits_get hzf
 rw [hEk,hEr,hEw,hEn] at hnew
 simp only [newSt_eq,wrS,nwS] at hnew
 cases hd:rmS ids (voidS ids st) d with
 | some _=>rw [hd] at hnew;cases hnew
 | none=>
   rw [hd] at hnew;injection hnew with hnew;subst hnew
   let zs:Array Value:=if n*P.cellsOf e=0 then #[] else z.cells
   let cur0:Array Value:=(Array.range (n*P.cellsOf e)).map (zs[· % zs.size]!)
   have hc0:cur0.size=n*P.cellsOf e:=by simp [cur0]
   have hpl:(ps.map fun (i,x)=>(i,ρ x)).toList=ps.toList.map fun x=>(x.1,ρ x.2):=by simp
   have hps:ps.toList.length=n:=by simpa using hn
   obtain ⟨hrl,hsz⟩:=rowsOf_sizes vs _ rows cs hv hrows
   have hvl:rows.length=n:=by rw [hrl,←hv.1];simp [hps]
   obtain ⟨cur,hfill,hcur⟩:=fill_order (z:=P.cellsOf e) (ps.toList.map fun x=>(x.1,ρ x.2)) 0 cur0 (fun j x hj=>by
    rw [List.getElem?_map] at hj
    obtain ⟨y,hy,rfl⟩:=Option.map_eq_some_iff.1 hj
    refine ⟨inOrder_get 0 _ ho j y hy,hsz j (ρ y.2) ?_⟩
    rw [List.getElem?_map,hy];rfl) (by simp [hps,hc0])
   have hcl:cur.toList=((ps.toList.map fun x=>ρ x.2).map fun v=>v.cells.toList).flatten:=by
    rw [hcur]
    simp only [Nat.zero_mul,List.take_zero,List.nil_append,Nat.zero_add,List.length_map,hps,List.map_map]
    rw [List.drop_eq_nil_of_le (by simp [hc0]),List.append_nil]
    congr 1
   have hls:∀l∈(ps.toList.map fun x=>ρ x.2).map (fun v=>v.cells.toList),l.length=P.cellsOf e:=by
    intro l hl
    obtain ⟨v,hv',rfl⟩:=List.mem_map.1 hl
    obtain ⟨k,hk⟩:=List.getElem?_of_mem hv'
    simpa using hsz k v hk
   have hcsz:cur.size=n*P.cellsOf e:=by
    have:=flatten_len _ hls
    rw [←hcl] at this
    simpa [hps] using this
   have hrun:(Instr.buildSlice t n (ps.map fun (i,x)=>(i,ρ x))).run P w= .ok (.slice (some ⟨w.heap.size,0,none⟩) n n) (w.alloc (.cells cur e)):=by
    have hbig:¬16777216<n*P.cellsOf e:=by omega
    have hzv:(zeroValue e).run P w= .ok z w:=by simp [zeroValue,run_typeInfo w hi,hiz]
    have hfin:(match Instr.fill (fun i=>some (i*P.cellsOf e,P.cellsOf e)) cur0 (ps.toList.map fun (x:Nat×Operand)=>(x.1,ρ x.2)) with
      | some cells=>(do pure (Value.slice (some (←newRow e cells)) n n):Sem Value)
      | x=>stuck "buildSlice: a part of the wrong size").run P w= .ok (.slice (some ⟨w.heap.size,0,none⟩) n n) (w.alloc (.cells cur e)):=by
     rw [hfill];rfl
    unfold Instr.buildSlice
    simp only [Sem.run_bind,run_underlying ht,Result.andThen_ok,run_sizeOf w hi,gt_iff_lt,hpl]
    rw [if_neg (by simpa using hbig)]
    by_cases h0:n*P.cellsOf e=0
    ·rw [if_pos h0,Sem.run_bind,Sem.run_pure,Result.andThen_ok]
     have e0:cur0=(Array.range (n*P.cellsOf e)).map ((#[]:Array Value)[· % (#[]:Array Value).size]!):=by simp [cur0,zs,h0]
     rw [e0] at hfin
     exact hfin
    ·rw [if_neg h0,Sem.run_bind,hzv,Result.andThen_ok,Sem.run_bind,Sem.run_pure,Result.andThen_ok]
     have e0:cur0=(Array.range (n*P.cellsOf e)).map (z.cells[· % z.cells.size]!):=by simp [cur0,zs,h0]
     rw [e0] at hfin
     exact hfin
   have hown:OwnsG (w.alloc (.cells cur e)) e (P.cellsOf e) (.slice (some ⟨w.heap.size,0,none⟩) n n) n cur.toList:=by
    refine ⟨by simpa using hcsz, .inr ⟨w.heap.size,n,cur,(0,0),rfl,heap_alloc_new w _, .inl rfl,Nat.le_refl _, ?_,hcsz, ?_⟩⟩
    ·unfold maxLen
     have:n≤n*P.cellsOf e:=Nat.le_mul_of_pos_right n hpos
     omega
    ·rw [←hcsz,←Array.length_toList,List.take_length]
   refine ⟨_,_,_,upd (fun r=>if r∈ids then none else γ r) d ⟨some w.heap.size, .slice (some ⟨w.heap.size,0,none⟩) n n,P.cellsOf e⟩,by simp only [Sem.run_bind,hrun,Result.andThen_ok,Sem.run_pure];rfl, .inl rfl,
    EffOK.swap (ge:=⟨some w.heap.size, .slice (some ⟨w.heap.size,0,none⟩) n n,P.cellsOf e⟩) hst hX hd ?_ ?_ hEk (alloc_keeps w _) ?_ (fun hmono=> ?_) ?_ (fix_low hfx)⟩
   ·intro r hr l hl
    exact rowsOf_nobox vs rows cs hrows (by rw [←hids];exact hcs) r (by rw [←hids];exact hr) _ rfl hl
   ·intro r hr T e0 s0 hl
    exact rowsOf_nobox vs rows cs hrows (by rw [←hids];exact hcs) r (by rw [←hids];exact hr) _ rfl hl
   ·intro b hb
    have hb:=(GE.has_row rfl).1 hb
    injection hb with hb;subst hb;exact ⟨Nat.le_refl _,by simp⟩
   ·have hoff:∀r ge b,r∈ids→γ r=some ge→ge.blk=some b→¬Gh.own (upd (fun r=>if r∈ids then none else γ r) d ⟨some w.heap.size, .slice (some ⟨w.heap.size,0,none⟩) n n,P.cellsOf e⟩) b:=fun r ge b hr hg hb ⟨r',g',hg',hb'⟩=>by
       by_cases hr':r'=d
       ·subst hr';rw [upd_same] at hg';injection hg' with hg';subst hg'
        have hb':=(GE.has_row rfl).1 hb'
        injection hb' with hb'
        have:=hst.lt b ⟨r,ge,hg, .inl hb⟩
        omega
       ·rw [upd_ne _ _ hr'] at hg'
        split at hg'
        ·cases hg'
        ·rename_i hni
         exact hni (by rw [hst.inj r' r g' ge b hg' hg hb' (.inl hb)];exact hr)
    obtain ⟨_,h2⟩:=rowsOf_sound hst hmono (fun r ge τ e' z' n' f' hr hg he=>frozen_sl hst hg he (fun b hb=>hlo r ge b _ _ _ _ _ hg he hb) hmono
     (fun τ a ha=>cellT_of_block (Below.heap_alloc w _ _ ha)) (by simp) (fun b hb=>hoff r ge b hr hg hb))
     (fun h r lo m u τ e' z' n' f' hr hu he=>frozen_vw hst hu he (fun ge b hg hb=>hlo r ge b _ _ _ _ _ hg he hb) hmono
     (fun τ a ha=>cellT_of_block (Below.heap_alloc w _ _ ha)) (by simp) (fun ge b hg hb=>hoff r ge b hr hg hb)) vs _ rows cs hv (by rw [hids];exact fun r hr=>hr) (by rw [←hids];exact hcs) hrows
    have hat:∀i,i<rows.length→∃u,(ps.toList.map fun x=>ρ x.2)[i]? =some u:=fun i hi=>by
     have:i<(ps.toList.map fun x=>ρ x.2).length:=by rw [hv.1,←hrl];exact hi
     exact ⟨_,List.getElem?_eq_getElem this⟩
    have hget:∀i,i<rows.length→rows[i]? =some (rows.getD i []):=fun i hi=>by simp [List.getD,List.getElem?_eq_getElem hi]
    refine RowsRep.repS (vs:=cur.toList) ⟨?_,fun u hu=> ?_,fun i hi=> ?_,fun i hi c hc=> ?_,fun i j c u hi hc hu=> ?_⟩ rfl rfl rfl (by rw [hvl];exact hown)
    ·rw [hvl];simpa using hcsz
    ·rw [hcl] at hu
     obtain ⟨l,hl,hul⟩:=List.mem_flatten.1 hu
     obtain ⟨v,hv',rfl⟩:=List.mem_map.1 hl
     obtain ⟨k,hk⟩:=List.getElem?_of_mem hv'
     have hkl:k<rows.length:=by rw [hrl,←hv.1];exact (List.getElem?_eq_some_iff.1 hk).1
     exact (h2 k _ v (hget k hkl) hk).2.2.2.2 u hul
    ·obtain ⟨u,hu⟩:=hat i hi
     exact (h2 i _ u (hget i hi) hu).1
    ·obtain ⟨u,hu⟩:=hat i hi
     exact (h2 i _ u (hget i hi) hu).2.2.1 c hc
    ·obtain ⟨v,hv'⟩:=hat i hi
     obtain ⟨k1,k2,k3,k4,k5⟩:=h2 i _ v (hget i hi) hv'
     have hj:j<P.cellsOf e:=by rw [←k1];exact (List.getElem?_eq_some_iff.1 hc).1
     rw [hcl,flatten_get _ hls i j v.cells.toList (by rw [List.getElem?_map,hv'];rfl) hj] at hu
     refine (k4.2 j c u hc hu).mark_up _ ?_
     exact Nat.le_trans (tauL_le _ c (List.mem_of_getElem? hc)) (tauR_le rows _ (List.mem_of_getElem? (hget i hi)))
   ·rw [hEv]
    exact .os d ⟨some w.heap.size, .slice (some ⟨w.heap.size,0,none⟩) n n,P.cellsOf e⟩ (upd_same _ _ _) rfl rfl
end
open Go.RowKit
section
variable {P:Program} {X:Cx} {γ γ':Gh} {w w':World} {st st':Nat→Option SE}
theorem cell_plain {b:Nat} {cs:Array Value} {T:TypeId} (hh:w.heap[b]? =some (.cells cs T (0,0))) (o k:Nat):w.cell? ((⟨b,o,none⟩:Addr).add k)=cs[o+k]? :=by
 rw [add_plain];exact cell_of_row w b _ cs T _ hh
theorem ld_box_sound {t:TypeId} {g:Bool} {r i j:Nat} {cells:List PV} {u:Value} {p:PV} (hst:RepSt X γ w st) (hg:isAggO P t=some g) (hu:Rep X γ w (.pt r i j) u) (he:st r=some (.box cells)) (hi:i=0∧mpB cells=false)
  (hp:asV (P.cellsOf t) g ((cells.drop j).take (P.cellsOf t))=some p):∃v,(Instr.loadAt t u).run P w= .ok v w∧Rep X γ w p v:=by
 obtain ⟨hi,hmp⟩:=hi
 subst hi
 obtain ⟨ge,b,hge,hb,rfl⟩:=pt_inv hu
 obtain ⟨b',T,cur,hb',hh,h1,hr⟩:=(hst.at_ r ge _ hge he).plain hmp
 have hbb:b'=b:=by rw [hb'.1] at hb;injection hb
 subst hbb
 have e0:0*ge.z+j=j:=by omega
 rw [e0]
 obtain ⟨hl,hrep⟩:=asV_rep ((hr.drop j).take (P.cellsOf t)) (fun x hx=>h1 x (List.mem_of_mem_drop (List.mem_of_mem_take hx))) hp
 refine ⟨_,run_loadAt_ hg hl (fun h0=>by subst h0;rw [hl];exact (asV_false hp).1) (fun k x hx=> ?_),hrep⟩
 rw [cell_plain hh]
 rw [List.getElem?_take] at hx
 split at hx
 ·rw [List.getElem?_drop] at hx;simpa using hx
 ·cases hx
theorem Rep.rd {c:PV} {u:Value} {τ:Nat} (h:Rep X γ w (c.mark τ) u):Rep X γ w (c.mark (rdT τ)) u:=by
 unfold rdT
 split
 ·exact h
 ·have:=h.mark_two 2 (Nat.le_refl _)
  rwa [mark_mark] at this
theorem ld_row_sound {t:TypeId} {g:Bool} {r i j τ e z m:Nat} {f:Nat→List PV} {u:Value} {p:PV} (hst:RepSt X γ w st) (hg:isAggO P t=some g) (hu:Rep X γ w (.pt r i j) u) (he:st r=some (.row τ e z m f)) (hi:i<m)
  (hp:asV (P.cellsOf t) g ((((f i).drop j).take (P.cellsOf t)).map (PV.mark (rdT τ)))=some p):∃v,(Instr.loadAt t u).run P w= .ok v w∧Rep X γ w p v:=by
 obtain ⟨ge,b,hge,hb,rfl⟩:=pt_inv hu
 obtain ⟨vs,hz,hbl,_,ho,hr⟩:=(hst.at_ r ge _ hge he).rows
 obtain ⟨ad,cap,hv,hnc,_,hor⟩:=own_slice ho
 have hlen:(((f i).drop j).take (P.cellsOf t)).length=P.cellsOf t:=by
  unfold asV at hp;split at hp
  ·rename_i h0;rw [List.length_map] at h0;exact h0
  ·cases hp
 have hjz:j+P.cellsOf t≤z∨P.cellsOf t=0:=by
  rw [List.length_take,List.length_drop,hr.hz i hi] at hlen;omega
 have hR:RepL X γ w ((((f i).drop j).take (P.cellsOf t)).map (PV.mark (rdT τ))) ((vs.drop (i*z+j)).take (P.cellsOf t)):=by
  have hlv:((vs.drop (i*z+j)).take (P.cellsOf t)).length=P.cellsOf t:=by
   rw [List.length_take,List.length_drop,hr.len]
   have:(i+1)*z≤m*z:=Nat.mul_le_mul_right z hi
   rw [Nat.add_mul] at this
   omega
  refine ⟨by rw [hlv,List.length_map,hlen],fun k c x hc hx=> ?_⟩
  rw [List.getElem?_map] at hc
  obtain ⟨c0,h0,rfl⟩:=Option.map_eq_some_iff.1 hc
  rw [List.getElem?_take] at h0 hx
  split at h0
  ·rename_i hk
   rw [if_pos hk] at hx
   rw [List.getElem?_drop] at h0 hx
   exact (hr.rep i (j+k) c0 x hi h0 (by rw [←Nat.add_assoc];exact hx)).rd
  ·cases h0
 obtain ⟨hl,hrep⟩:=asV_rep hR (fun x hx=>hr.one x (List.mem_of_mem_drop (List.mem_of_mem_take hx))) hp
 refine ⟨_,run_loadAt_ hg hl (fun h0=>by subst h0;rw [hl];exact (asV_false hp).1) (fun k x hx=> ?_),hrep⟩
 rw [List.getElem?_take] at hx
 split at hx
 ·rw [List.getElem?_drop] at hx
  rcases hor with h0 | ⟨g',rfl,hlt,hb'⟩
  ·omega
  ·have hbg:b=g':=by rw [hbl,hb'] at hb;injection hb with hb;exact hb.symm
   subst hbg
   have:=own_cells ho hv rfl _ x hx
   rw [add_plain] at this⊢
   rw [hz,←this];congr 2;omega
 ·cases hx
theorem seg_get (l new:List Value) (o k:Nat) (h:o+new.length≤l.length):
  (l.take o++new++l.drop (o+new.length))[k]? =if k<o then l[k]? else if k<o+new.length then new[k - o]? else l[k]? :=by
 have ho:(l.take o).length=o:=by simp;omega
 rw [List.append_assoc]
 by_cases h1:k<o
 ·rw [if_pos h1,List.getElem?_append_left (by omega),List.getElem?_take,if_pos h1]
 ·rw [if_neg h1,List.getElem?_append_right (by omega),ho]
  by_cases h2:k<o+new.length
  ·rw [if_pos h2,List.getElem?_append_left (by omega)]
  ·rw [if_neg h2,List.getElem?_append_right (by omega),List.getElem?_drop]
   congr 1;omega
theorem seg_take (l new:List Value) (o N:Nat) (h:o+new.length≤N) (hN:N≤l.length):
  (l.take o++new++l.drop (o+new.length)).take N=(l.take N).take o++new++(l.take N).drop (o+new.length):=by
 apply List.ext_getElem?
 intro k
 rw [List.getElem?_take,seg_get l new o k (by omega),seg_get (l.take N) new o k (by simp;omega),List.getElem?_take]
 by_cases hk:k<N
 ·simp [hk]
 ·rw [if_neg hk,if_neg (by omega),if_neg (by omega),if_neg hk]
theorem setAt_get (cs:List PV) (o:Nat) (new:List PV) (k:Nat) (h:o+new.length≤cs.length):
  (setAt cs o new)[k]? =if k<o then cs[k]? else if k<o+new.length then new[k - o]? else cs[k]? :=by
 have ho:(cs.take o).length=o:=by simp;omega
 unfold setAt
 by_cases h1:k<o
 ·rw [if_pos h1,List.getElem?_append_left (by omega),List.getElem?_take,if_pos h1]
 ·rw [if_neg h1,List.getElem?_append_right (by omega),ho]
  by_cases h2:k<o+new.length
  ·rw [if_pos h2,List.getElem?_append_left (by omega)]
  ·rw [if_neg h2,List.getElem?_append_right (by omega),List.getElem?_drop]
   congr 1;omega
theorem st_row_sound {t:TypeId} {r i j τ e z m:Nat} {f:Nat→List PV} {p:PV} {u v:Value} (hst:RepSt X γ w st) (hpos:0<P.cellsOf t)
  (hu:Rep X γ w (.pt r i j) u) (hv:Rep X γ w p v) (he:st r=some (.row τ e z m f)) (hi:i<m) (hl:p.cells.length=P.cellsOf t) (hj:j+P.cellsOf t≤z) (hfl:p.cells.all PV.flat=true) (hfx:tauL p.cells≤2)
  (E:Eff) (hEv:E.val= .junk) (hEw:E.wr= [(r, .row (max τ (tauL p.cells)) e z m (fun k=>if k=i then setAt (f i) j p.cells else f k))]) (hEn:E.nw= []) (hEk:E.kill= []) (hEr:E.rm= []) (hn:newSt 0 E.kill E.rm E.wr E.nw st=some st'):
  Snd P X γ w st E st' (do Instr.storeAt t u v;pure .skip):=by
 obtain ⟨ge,b,hge,hb,rfl⟩:=pt_inv hu
 obtain ⟨vs,hz,hbl,h1h,ho,hr⟩:=(hst.at_ r ge _ hge he).rows
 have hok:p.okCell=true:=by
  cases p<;>simp [PV.okCell,PV.cells,PV.flat] at hfl⊢
 obtain ⟨hvr,hv1⟩:=hv.cells_ hok
 have hcl:v.cells.toList.length=P.cellsOf t:=by rw [hvr.1];exact hl
 rcases ho.2 with ⟨hnil,hm0⟩ | ⟨g,cap,cur,fz,hh,hheap,hfz,hnc,hcm,hcs,htake⟩
 ·omega
 ·have hbg:b=g:=by rw [hbl,hh] at hb;simp [Value.ownBlock] at hb;exact hb.symm
  subst hbg
  rw [hz]
  have him:i*z+j+P.cellsOf t≤m*z:=by
   have:(i+1)*z≤m*z:=Nat.mul_le_mul_right z hi
   rw [Nat.add_mul] at this;omega
  have hmc:m*z≤cap*z:=Nat.mul_le_mul_right z hnc
  have hrun:=run_storeAt_ (P:=P) (w:=w) (off:=i*z+j) hpos hheap hfz hcl (by rw [hcs];omega) hv1
  rw [hEk,hEr,hEw,hEn] at hn
  simp only [newSt_eq,voidS_nil,rmS_nil,wrS,nwS,Option.some.injEq] at hn
  subst hn
  refine ⟨.skip,undef,_,γ,by simp only [Sem.run_bind,hrun,Result.andThen_ok,Sem.run_pure];rfl, .inr ⟨rfl,rfl⟩,EffOK.write hst hge hb he hEk (setRow_keeps w b _) (fun hm=> ?_) hEv (fun l hl'=>by cases hl') (hfx:=fix_max hfx)⟩
  have hvl:v.cells.toList.length=P.cellsOf t:=hcl
  have htk:cur.toList.take (m*z)=vs:=htake
  have hcl':m*z≤cur.toList.length:=by simp [hcs];exact hmc
  have hnew:((cur.toList.take (i*z+j)++v.cells.toList++cur.toList.drop (i*z+j+v.cells.toList.length)).toArray).toList.take (m*z)=
    vs.take (i*z+j)++v.cells.toList++vs.drop (i*z+j+v.cells.toList.length):=by
   rw [List.toList_toArray,seg_take _ _ _ _ (by omega) hcl',htk]
  have hvsl:vs.length=m*z:=hr.len
  have hget:∀k,(vs.take (i*z+j)++v.cells.toList++vs.drop (i*z+j+v.cells.toList.length))[k]? =if k<i*z+j then vs[k]? else if k<i*z+j+P.cellsOf t then v.cells.toList[k - (i*z+j)]? else vs[k]? :=fun k=>by
   rw [seg_get _ _ _ _ (by omega),hvl]
  have hown':OwnsG (w.setRow b (cur.toList.take (i*z+j)++v.cells.toList++cur.toList.drop (i*z+j+v.cells.toList.length)).toArray) e z ge.hdr m (vs.take (i*z+j)++v.cells.toList++vs.drop (i*z+j+v.cells.toList.length)):=by
   refine ⟨?_, .inr ⟨b,cap,_,fz,hh,setRow_heap w b _ _ e _ hheap, ?_,hnc,hcm, ?_,hnew⟩⟩
   ·rw [List.length_append,List.length_append,List.length_take,List.length_drop];omega
   ·have hcsz:cur.toList.length=cap*z:=by simpa using hcs
    have e0:(cur.toList.take (i*z+j)++v.cells.toList++cur.toList.drop (i*z+j+v.cells.toList.length)).toArray.size=cur.size:=by
     simp only [List.size_toArray,List.length_append,List.length_take,List.length_drop]
     rw [hcs]
     omega
    rw [e0];exact hfz
   ·have hcsz:cur.toList.length=cap*z:=by simpa using hcs
    simp only [List.size_toArray,List.length_append,List.length_take,List.length_drop]
    omega
  have hfi:(f i).length=z:=hr.hz i hi
  refine RowsRep.repS ⟨hown'.1,fun x hx=> ?_,fun k hk=> ?_,fun k hk c hc=> ?_,fun k l c x hk hc hx=> ?_⟩ hz hbl h1h hown'
  ·simp only [List.mem_append] at hx
   rcases hx with (hx | hx) | hx
   ·exact hr.one x (List.mem_of_mem_take hx)
   ·exact hv1 x hx
   ·exact hr.one x (List.mem_of_mem_drop hx)
  ·by_cases hki:k=i
   ·subst hki;rw [if_pos rfl,setAt_length _ _ _ (by omega)];exact hfi
   ·rw [if_neg hki];exact hr.hz k hk
  ·by_cases hki:k=i
   ·rw [if_pos hki] at hc
    unfold setAt at hc
    rcases List.mem_append.1 hc with hc | hc
    ·exact hr.hf i hi c (List.mem_of_mem_take hc)
    ·rcases List.mem_append.1 hc with hc | hc
     ·exact List.all_eq_true.1 hfl c hc
     ·exact hr.hf i hi c (List.mem_of_mem_drop hc)
   ·rw [if_neg hki] at hc;exact hr.hf k hk c hc
  ·rw [hget] at hx
   by_cases hki:k=i
   ·subst hki
    rw [if_pos rfl,setAt_get _ _ _ _ (by omega)] at hc
    by_cases h1:l<j
    ·rw [if_pos h1] at hc;rw [if_pos (by omega)] at hx
     exact hm _ _ ((hr.rep k l c x hk hc hx).mark_le (Nat.le_max_left _ _))
    ·rw [if_neg h1] at hc;rw [if_neg (by omega)] at hx
     by_cases h2:l<j+p.cells.length
     ·rw [if_pos h2] at hc;rw [if_pos (by omega)] at hx
      have e1:k*z+l - (k*z+j)=l - j:=by omega
      rw [e1] at hx
      exact hm _ _ ((hvr.2 _ c x hc hx).mark_up _ (Nat.le_trans (tauL_le _ c (List.mem_of_getElem? hc)) (Nat.le_max_right _ _)))
     ·rw [if_neg h2] at hc;rw [if_neg (by omega)] at hx
      exact hm _ _ ((hr.rep k l c x hk hc hx).mark_le (Nat.le_max_left _ _))
   ·rw [if_neg hki] at hc
    have hlz:l<z:=by rw [←hr.hz k hk];exact (List.getElem?_eq_some_iff.1 hc).1
    have hx':vs[k*z+l]? =some x:=by
     rcases Nat.lt_or_ge k i with hlt | hge
     ·have:(k+1)*z≤i*z:=Nat.mul_le_mul_right z hlt
      rw [Nat.add_mul] at this
      rw [if_pos (by omega)] at hx;exact hx
     ·have hgt:i+1≤k:=by omega
      have:(i+1)*z≤k*z:=Nat.mul_le_mul_right z hgt
      rw [Nat.add_mul] at this
      rw [if_neg (by omega),if_neg (by omega)] at hx;exact hx
    exact hm _ _ ((hr.rep k l c x hk hc hx').mark_le (Nat.le_max_left _ _))
theorem seg_rows {τ σ σ' z m lo k:Nat} {f g:Nat→List PV} {vs us:List Value} (hr:RowsRep X γ w τ z m f vs) (hu:RowsRep X γ w σ' z k g us) (h1:τ≤σ) (h2:σ'≤σ) (hlk:lo+k≤m) {γ':Gh} {w':World}
  (hm:∀p u,Rep X γ w p u→Rep X γ' w' p u) (f':Nat→List PV) (hf':f'=fun i=>if lo≤i∧i<lo+k then g (i - lo) else f i):
  RowsRep X γ' w' σ z m f' (vs.take (lo*z)++us++vs.drop (lo*z+us.length)):=by
 subst hf'
 have hvl:=hr.len
 have hul:=hu.len
 have hle:lo*z+k*z≤m*z:=by rw [←Nat.add_mul];exact Nat.mul_le_mul_right z hlk
 refine ⟨?_,fun x hx=> ?_,fun i hi=> ?_,fun i hi c hc=> ?_,fun i j c x hi hc hx=> ?_⟩
 ·rw [List.length_append,List.length_append,List.length_take,List.length_drop];omega
 ·simp only [List.mem_append] at hx
  rcases hx with (hx | hx) | hx
  ·exact hr.one x (List.mem_of_mem_take hx)
  ·exact hu.one x hx
  ·exact hr.one x (List.mem_of_mem_drop hx)
 ·split
  ·rename_i h;exact hu.hz _ (by omega)
  ·exact hr.hz i hi
 ·skip
  split at hc
  ·rename_i h;exact hu.hf _ (by omega) c hc
  ·exact hr.hf i hi c hc
 ·rw [seg_get _ _ _ _ (by omega)] at hx
  split at hc
  ·rename_i h
   have hj:j<z:=by rw [←hu.hz (i - lo) (by omega)];exact (List.getElem?_eq_some_iff.1 hc).1
   have e1:lo*z≤i*z:=Nat.mul_le_mul_right z h.1
   have e2:i*z+j<(lo+k)*z:=idx_lt h.2 hj
   rw [Nat.add_mul] at e2
   rw [if_neg (by omega),if_pos (by omega)] at hx
   have e3:i*z+j - lo*z=(i - lo)*z+j:=by rw [Nat.sub_mul];omega
   rw [e3] at hx
   exact hm _ _ ((hu.rep _ j c x (by omega) hc hx).mark_le h2)
  ·rename_i h
   have hj:j<z:=by rw [←hr.hz i hi];exact (List.getElem?_eq_some_iff.1 hc).1
   have hx':vs[i*z+j]? =some x:=by
    rcases Nat.lt_or_ge i lo with hlt | hge
    ·have:i*z+j<lo*z:=idx_lt hlt hj
     rw [if_pos this] at hx;exact hx
    ·have hgt:lo+k≤i:=by omega
     have:(lo+k)*z≤i*z:=Nat.mul_le_mul_right z hgt
     rw [Nat.add_mul] at this
     rw [if_neg (by omega),if_neg (by omega)] at hx;exact hx
   exact hm _ _ ((hr.rep i j c x hi hc hx').mark_le h1)
theorem seg_store {r τ σ σ' e z m lo k:Nat} {f g f':Nat→List PV} {us:List Value} {ge:GE} {b cap:Nat} {v:PV} {rv:Value} (hst:RepSt X γ w st) (hge:γ r=some ge) (he:st r=some (.row τ e z m f)) (hh:ge.hdr= .slice (some ⟨b,0,none⟩) m cap)
  (hu:RowsRep X γ w σ' z k g us) (h1:τ≤σ) (h2:σ'≤σ) (hlk:lo+k≤m) (hf':f'=fun i=>if lo≤i∧i<lo+k then g (i - lo) else f i) (hfx:fixR (.row σ e z m f')=true→fixR (.row τ e z m f)=true)
  (E:Eff) (hv:∀γ' w',Rep X γ' w' v rv) (hEv:E.val=v) (hEw:E.wr= [(r, .row σ e z m f')]) (hEn:E.nw= []) (hEk:E.kill= []) (hEr:E.rm= []) (hn:newSt 0 E.kill E.rm E.wr E.nw st=some st'):
  ∃w',(storeCells ⟨b,lo*z,none⟩ us).run P w= .ok () w'∧EffOK X γ w st E rv w' γ st':=by
 obtain ⟨vs,hz,hbl,h1h,ho,hr⟩:=(hst.at_ r ge _ hge he).rows
 rcases ho.2 with ⟨hnil,hm0⟩ | ⟨g0,cap0,cur,fz,hh0,hheap,hfz,hnc,hcm,hcs,htake⟩
 ·rw [hh] at hnil;cases hnil
 ·have hbg:b=g0:=by rw [hh] at hh0;injection hh0 with a1;injection a1 with a1;injection a1
  subst hbg
  have hul:=hu.len
  have hle:lo*z+k*z≤m*z:=by rw [←Nat.add_mul];exact Nat.mul_le_mul_right z hlk
  have hmc:m*z≤cap0*z:=Nat.mul_le_mul_right z hnc
  have hrun:=run_storeCells_off P b (lo*z) e fz us 0 cur w hheap hfz (by rw [hcs];omega) hu.one
  simp only [Nat.add_zero] at hrun
  rw [hEk,hEr,hEw,hEn] at hn
  simp only [newSt_eq,voidS_nil,rmS_nil,wrS,nwS,Option.some.injEq] at hn
  subst hn
  have hb:ge.blk=some b:=by rw [hbl,hh];rfl
  refine ⟨_,hrun,EffOK.writeR hst hge he hEk ((setRow_keeps w b _).mono (fun i _ hi=>by subst hi;exact .inl hb)) (fun hm=> ?_) (by rw [hEv];exact hv _ _) rfl hfx⟩
  have hcl':m*z≤cur.toList.length:=by simp [hcs];exact hmc
  have hnew:((cur.toList.take (lo*z)++us++cur.toList.drop (lo*z+us.length)).toArray).toList.take (m*z)=vs.take (lo*z)++us++vs.drop (lo*z+us.length):=by
   rw [List.toList_toArray,seg_take _ _ _ _ (by omega) hcl',htake]
  have hrr:=seg_rows hr hu h1 h2 hlk hm f' hf'
  refine hrr.repS hz hbl h1h ⟨hrr.len, .inr ⟨b,cap0,_,fz,hh0,setRow_heap w b _ _ e _ hheap, ?_,hnc,hcm, ?_,hnew⟩⟩
  ·have e0:(cur.toList.take (lo*z)++us++cur.toList.drop (lo*z+us.length)).toArray.size=cur.size:=by
     simp only [List.size_toArray,List.length_append,List.length_take,List.length_drop,Array.length_toList]
     omega
   rw [e0];exact hfz
  ·simp only [List.size_toArray,List.length_append,List.length_take,List.length_drop,Array.length_toList]
   omega
theorem seg_none {r τ σ e z m:Nat} {f f':Nat→List PV} {ge:GE} {v:PV} {rv:Value} (hst:RepSt X γ w st) (hge:γ r=some ge) (he:st r=some (.row τ e z m f)) (h1:τ≤σ) (hf':∀i,i<m→f' i=f i)
  (hfx:fixR (.row σ e z m f')=true→fixR (.row τ e z m f)=true)
  (E:Eff) (hv:∀γ' w',Rep X γ' w' v rv) (hEv:E.val=v) (hEw:E.wr= [(r, .row σ e z m f')]) (hEn:E.nw= []) (hEk:E.kill= []) (hEr:E.rm= []) (hn:newSt 0 E.kill E.rm E.wr E.nw st=some st'):
  EffOK X γ w st E rv w γ st':=by
 obtain ⟨vs,hz,hbl,h1h,ho,hr⟩:=(hst.at_ r ge _ hge he).rows
 rw [hEk,hEr,hEw,hEn] at hn
 simp only [newSt_eq,voidS_nil,rmS_nil,wrS,nwS,Option.some.injEq] at hn
 subst hn
 refine EffOK.writeR hst hge he hEk (Keeps.refl _ w) (fun hm=> ?_) (by rw [hEv];exact hv _ _) rfl hfx
 exact (⟨hr.len,hr.one,fun i hi=>by rw [hf' i hi];exact hr.hz i hi,fun i hi c hc=>hr.hf i hi c (by rw [hf' i hi] at hc;exact hc),fun i j c u hi hc hu=>(hr.rep i j c u hi (by rw [hf' i hi] at hc;exact hc) hu).mark_le h1⟩:RowsRep X γ w σ z m f' vs).repS hz hbl h1h ho
theorem clr_sound {t e:TypeId} {r lo n τ e' z' m:Nat} {b:Bool} {f:Nat→List PV} {u:Value} {zero:List PV} (ty:TypeId) (hst:RepSt X γ w st) (ht:P.underlying t=some (.slice e)) (hpos:0<P.cellsOf e) (hz:zeroOf P e=some zero)
  (hfl:(zero.map PV.unnil).all PV.flat=true) (hl:(zero.map PV.unnil).length=z') (htau:tauL (zero.map PV.unnil)=0) (hu:Rep X γ w (.vw b r lo n) u) (he:st r=some (.row τ e' z' m f)) (hlm:lo+n≤m)
  (E:Eff) (hEv:E.val= .tup []) (hEw:E.wr= [(r, .row τ e' z' m (fun k=>if lo≤k∧k<lo+n then zero.map PV.unnil else f k))]) (hEn:E.nw= []) (hEk:E.kill= []) (hEr:E.rm= []) (hn:newSt 0 E.kill E.rm E.wr E.nw st=some st'):
  Snd P X γ w st E st' (do pure (.value (←Builtin.clear_ #[t] ty #[u]))):=by
 obtain ⟨z,hzv,hzr,hz1,hzs,i,hi,hiz,his,hib⟩:=zeroOf_rep (X:=X) (γ:=γ) (w:=w) hz
 obtain ⟨ge,ad,m0,cap,hge,hh,hle,rfl⟩:=vw_inv hu
 obtain ⟨vs,hgz,hbl,h1h,ho,hr⟩:=(hst.at_ r ge _ hge he).rows
 have hzl:z.cells.toList.length=P.cellsOf e:=by simpa using hzs
 have hcz:P.cellsOf e=z':=by
  rw [←hl,List.length_map]
  have:=hzr.1
  omega
 have hv:∀γ' w',Rep X γ' w' (.tup []) (.tuple #[]):=fun γ' w'=>by
  exact .tup [] [] rfl (fun k c u h=>by simp at h)
 rcases Nat.eq_zero_or_pos n with h0 | h0
 ·subst h0
  refine ⟨_, .tuple #[],w,γ, ?_, .inl rfl,seg_none hst hge he (Nat.le_refl _) (fun i _=>if_neg (by omega)) (fun h=>h) E hv hEv hEw hEn hEk hEr hn⟩
  generalize (if cap=lo then ad else Option.map (fun x=>x.add (lo*ge.z)) ad)=q
  cases q<;>simp [Builtin.clear_,run_underlying ht]
 ·obtain ⟨ad',cap',hv',hnc,hcm,hor⟩:=own_slice ho
  rw [hh] at hv'
  injection hv' with a1 a2 a3
  subst a1;subst a2;subst a3
  rcases hor with hm0 | ⟨g,rfl,hglt,hgb⟩
  ·omega
  ·have hsz:z.cells.size=z':=by rw [hzs];exact hcz
   have hget:∀j u,(Builtin.zeroCells z.cells n).toList[j]? =some u→z.cells.toList[j % z']? =some u:=fun j u hu=>by
    have hj:j<n*z':=by
     have:=(List.getElem?_eq_some_iff.1 hu).1
     rw [Array.length_toList,size_zeroCells,hsz] at this;exact this
    have hm:j % z'<z.cells.size:=by rw [hsz];exact Nat.mod_lt _ (by omega)
    simp only [Builtin.zeroCells,Array.toList_map,Array.toList_range,hsz] at hu
    rw [List.getElem?_map,List.getElem?_range hj] at hu
    simpa [hm] using hu
   have hus:RowsRep X γ w 0 z' n (fun _=>zero.map PV.unnil) (Builtin.zeroCells z.cells n).toList:=by
    refine ⟨by rw [Array.length_toList,size_zeroCells,hsz],fun u hu=> ?_,fun _ _=>hl,fun _ _ c hc=>List.all_eq_true.1 hfl c hc,fun a j c u ha hc hu=> ?_⟩
    ·obtain ⟨j,hj⟩:=List.getElem?_of_mem hu
     exact hz1 u (List.mem_of_getElem? (hget j u hj))
    ·have hj:j<z':=by rw [←hl];exact (List.getElem?_eq_some_iff.1 hc).1
     have hu':=hget _ u hu
     have e1:(a*z'+j) % z'=j:=by rw [Nat.mul_add_mod_self_right];exact Nat.mod_eq_of_lt hj
     rw [e1] at hu'
     rw [List.getElem?_map] at hc
     obtain ⟨c0,hc0,rfl⟩:=Option.map_eq_some_iff.1 hc
     exact (unnil_rep (hzr.2 j c0 u hc0 hu')).mark_up 0 (Nat.le_of_eq (tauL_mem _ htau _ (List.mem_map.2 ⟨c0,List.mem_of_getElem? hc0,rfl⟩)))
   obtain ⟨w',hrun,hok⟩:=seg_store (P:=P) (lo:=lo) hst hge he hh hus (Nat.le_refl _) (Nat.zero_le _) hlm rfl (fun h=>h) E hv hEv (by rw [hEw]) hEn hEk hEr hn
   refine ⟨_, .tuple #[],w',γ, ?_, .inl rfl,hok⟩
   have hcl:cap≠lo:=by omega
   have hzr2:=hzv
   rw [if_neg hcl]
   obtain ⟨n1,rfl⟩:∃n1,n=n1+1:=⟨n - 1,by omega⟩
   simp only [hgz] at*
   simp [Builtin.clear_,run_underlying ht,hzv,Addr.add_lit,hrun]
theorem plain_mark' {c:PV} (h:c.plain=true) (τ:Nat):c.mark τ=c:=by cases c<;>first | rfl | simp [PV.plain] at h
theorem plainL_mem:∀{l:List PV},plainL l=true→∀c∈l,c.plain=true
 | [],_,c,hc=>by simp at hc
 | p::ps,h,c,hc=>by
   unfold plainL at h
   split at h
   ·rename_i hp
    rcases List.mem_cons.1 hc with rfl | hc
    ·exact hp
    ·exact plainL_mem h c hc
   ·cases h
theorem plainR_get {g:Nat→List PV}:∀{k:Nat},plainR g k=true→∀i,i<k→∀c∈g i,c.plain=true
 | 0,_,i,hi=>by omega
 | k+1,h,i,hi=>by
   unfold plainR at h
   split at h
   ·rename_i hk
    by_cases e:i=k
    ·subst e;exact plainL_mem h
    ·exact plainR_get hk i (by omega)
   ·cases h
theorem cpT_rows {τ τ' z k:Nat} {g:Nat→List PV} {us:List Value} (h:RowsRep X γ w τ' z k g us):∃σ',σ'≤cpT τ τ' g k∧RowsRep X γ w σ' z k g us:=by
 unfold cpT
 cases hp:plainR g k with
 | false=>exact ⟨τ',Nat.le_max_right _ _,h⟩
 | true=>exact ⟨0,Nat.zero_le _,h.len,h.one,h.hz,h.hf,fun i j c u hi hc hu=>by
  have:=h.rep i j c u hi hc hu
  have hpl:=plainR_get hp i hi c (List.mem_of_getElem? hc)
  rw [plain_mark' hpl] at this⊢
  exact this⟩
theorem cpT_le (τ τ':Nat) (g:Nat→List PV) (k:Nat):τ≤cpT τ τ' g k:=by
 unfold cpT
 split
 ·exact Nat.le_refl _
 ·exact Nat.le_max_left _ _
theorem cpT_fix {τ τ' e z n e' z' n' k:Nat} {g f f':Nat→List PV} (h:τ'≤2) (hf:fixR (.row (cpT τ τ' g k) e z n f)=true):fixR (.row τ e' z' n' f')=true:=by
 unfold cpT at hf
 split at hf
 ·exact hf
 ·exact fix_max h hf
theorem cpy_sound {t e:TypeId} {r τ e' m:Nat} {f:Nat→List PV} {y:PV} {u v:Value} {cs:List SE} {τ' m':Nat} {g:Nat→List PV} (ty:TypeId) (hst:RepSt X γ w st) (ht:P.underlying t=some (.slice e)) (hpos:0<P.cellsOf e)
  (hv:Rep X γ w (.os r) v) (hy:Rep X γ w y u) (he:st r=some (.row τ e' (P.cellsOf e) m f)) (hcs:getL st y.top=some cs) (hsrc:srcRows y cs=some (τ',P.cellsOf e,m',g)) (hfx:τ'≤2)
  (E:Eff) (hEv:E.val= .int .i64 ((min m' m:Nat):Int)) (hEw:E.wr= [(r, .row (cpT τ τ' g (min m' m)) e' (P.cellsOf e) m (fun k=>if k<min m' m then g k else f k))]) (hEn:E.nw= []) (hEk:E.kill= []) (hEr:E.rm= []) (hn:newSt 0 E.kill E.rm E.wr E.nw st=some st'):
  Snd P X γ w st E st' (do pure (.value (←Builtin.copy_ #[t,t] ty #[v,u]))):=by
 obtain ⟨i,hi',hs⟩:=info_of_size hpos
 obtain ⟨ge,hge,rfl⟩:=os_inv hv
 obtain ⟨vs,hgz,hbl,h1h,ho,hr⟩:=(hst.at_ r ge _ hge he).rows
 obtain ⟨ad,cap,ws,rfl,hmc,hr',hnone,hc⟩:=src_rows hst hy rfl hcs hsrc
 obtain ⟨ad',cap',hh,hnc,hcm,hor⟩:=own_slice ho
 have hrv:∀γ' w',Rep X γ' w' (.int .i64 ((min m' m:Nat):Int)) (.int .i64 ((min m' m:Nat):Int)):=fun γ' w'=> .int _ _
 have hnews:RowsRep X γ w τ' (P.cellsOf e) (min m' m) g (ws.take (min m' m*P.cellsOf e)):=by
  have hle:min m' m*P.cellsOf e≤m'*P.cellsOf e:=Nat.mul_le_mul_right _ (Nat.min_le_left _ _)
  refine ⟨by rw [List.length_take,hr'.len];omega,fun u hu=>hr'.one u (List.mem_of_mem_take hu),fun i hi=>hr'.hz i (by omega),fun i hi=>hr'.hf i (by omega),fun i j c x hi hc hx=> ?_⟩
  rw [List.getElem?_take] at hx
  split at hx
  ·exact hr'.rep i j c x (by omega) hc hx
  ·cases hx
 rw [hh]
 have hfirst:(Builtin.firstCells (P.cellsOf e) (min m' m) (.slice ad m' cap)).run P w= .ok (ws.take (min m' m*P.cellsOf e)).toArray w:=by
  cases ad with
  | none=>
    have hm0:=hnone rfl
    subst hm0
    simp [Builtin.firstCells]
  | some a=>
    refine run_firstCells_some (P:=P) w (P.cellsOf e) _ a m' cap _ hnews.len (fun j x hx=> ?_)
    rw [List.getElem?_take] at hx
    split at hx
    ·exact hc a rfl j x hx
    ·cases hx
 rcases hor with hm0 | ⟨b,rfl,hblt,hbb⟩
 ·subst hm0
  have e0:min m' 0=0:=Nat.min_zero _
  have e1:m'.min 0=0:=Nat.min_zero _
  refine ⟨_, .int .i64 ((min m' 0:Nat):Int),w,γ, ?_, .inl rfl,seg_none hst hge he (cpT_le _ _ _ _) (fun i hi=>by omega) (cpT_fix hfx) E hrv hEv hEw hEn hEk hEr hn⟩
  rw [e0] at hfirst⊢
  simp only [Nat.zero_mul,List.take_zero] at hfirst
  cases ad' with
  | none=>simp [Builtin.copy_,run_underlying ht,run_sizeOf w hi',Builtin.lenOf,e1,hs,hfirst,goInt]
  | some a=>simp [Builtin.copy_,run_underlying ht,run_sizeOf w hi',Builtin.lenOf,e1,hs,hfirst,goInt,storeCells]
 ·obtain ⟨σ',hσ,hnews'⟩:=cpT_rows (τ:=τ) hnews
  obtain ⟨w',hrun,hok⟩:=seg_store (P:=P) (lo:=0) (σ:=cpT τ τ' g (min m' m)) hst hge he hh hnews' (cpT_le _ _ _ _) hσ (by omega) (f':=fun k=>if k<min m' m then g k else f k) (by funext k;simp) (cpT_fix hfx) E hrv hEv (by rw [hEw]) hEn hEk hEr hn
  refine ⟨_,_,w',γ, ?_, .inl rfl,hok⟩
  rw [Nat.zero_mul] at hrun
  have e2:m'.min m=min m' m:=rfl
  simp [Builtin.copy_,run_underlying ht,run_sizeOf w hi',Builtin.lenOf,e2,hs,hfirst,goInt,hrun]
theorem okK_len:∀{ks:List KK} {l:List PC},okK ks l=true→l.length=ks.length
 | [], [],_=>rfl
 | [],_::_,h=>by simp [okK] at h
 | _::_, [],h=>by simp [okK] at h
 | k::ks,c::cs,h=>by
   simp only [okK] at h
   split at h
   ·simp [okK_len h]
   ·cases h
theorem okK_cons {k:KK} {ks:List KK} {c:PC} {cs:List PC} (h:okK (k::ks) (c::cs)=true):okC k c=true∧okK ks cs=true:=by
 simp only [okK] at h
 split at h
 ·rename_i hc;exact ⟨hc,h⟩
 ·cases h
theorem toPV_rep (k:KK) (c:PC):Rep X γ w (toPV k c) (cv k c):=by
 cases k
 ·exact .int _ _
 ·exact .bool _
 ·exact .str _
theorem cv_one (k:KK) (c:PC):(cv k c).oneCell'=true:=by cases k<;>rfl
theorem outC_rep:∀{ks:List KK} {cs:List PC},okK ks cs=true→RepL X γ w (outC ks cs) (cvs ks cs)
 | [], [],_=>RepL.nil_
 | [],_::_,h=>by simp [okK] at h
 | _::_, [],h=>by simp [okK] at h
 | k::ks,c::cs,h=>RepL.cons_ (toPV_rep k c) (outC_rep (okK_cons h).2)
theorem cvs_one:∀{ks:List KK} {cs:List PC},∀u∈cvs ks cs,u.oneCell'=true
 | [],_,u,h=>by simp [cvs] at h
 | _::_, [],u,h=>by simp [cvs] at h
 | k::ks,c::cs,u,hu=>by
   rcases List.mem_cons.1 hu with rfl | hu
   ·exact cv_one _ _
   ·exact cvs_one u hu
theorem mk_inj {a b:List UInt8}:(⟨a.toArray⟩:ByteArray)=⟨b.toArray⟩↔a=b:=by
 constructor
 ·intro h
  have:=congrArg (fun x=>x.data.toList) h
  simpa using this
 ·intro h;rw [h]
theorem cv_eq {k:KK} {a b:PC} (ha:okC k a=true) (hb:okC k b=true):(eqC a b=true↔a=b)∧(cv k a=cv k b↔a=b):=by
 cases k<;>cases a<;>simp only [okC] at ha<;>first | (cases ha;done) | skip
 ·cases b<;>simp only [okC] at hb<;>first | (cases hb;done) | simp [eqC,cv,intP]
 ·cases b<;>simp only [okC] at hb<;>first | (cases hb;done) | simp [eqC,cv,boolP]
 ·cases b<;>simp only [okC] at hb<;>first | (cases hb;done) | simp [eqC,cv,strP,mk_inj]
theorem cvs_eq:∀{ks:List KK} {a b:List PC},okK ks a=true→okK ks b=true→(eqK a b=true↔a=b)∧(cvs ks a=cvs ks b↔a=b)
 | [], [], [],_,_=>by simp [eqK]
 | [],_::_,_,h,_=>by simp [okK] at h
 | [], [],_::_,_,h=>by simp [okK] at h
 | _::_, [],_,h,_=>by simp [okK] at h
 | _::_,_::_, [],_,h=>by simp [okK] at h
 | k::ks,a::as,b::bs,ha,hb=>by
   obtain ⟨a1,a2⟩:=okK_cons ha
   obtain ⟨b1,b2⟩:=okK_cons hb
   obtain ⟨c1,c2⟩:=cv_eq a1 b1
   obtain ⟨d1,d2⟩:=cvs_eq a2 b2
   simp only [eqK,cvs,Bool.and_eq_true,c1,d1,List.cons.injEq,c2,d2,and_self]
theorem kv_eq {ks:List KK} {ka:Bool} {a b:List PC} (h1:ka=false→ks.length=1) (ha:okK ks a=true) (hb:okK ks b=true):kv ks ka a=kv ks ka b↔a=b:=by
 refine ⟨fun h=> ?_,fun h=>by rw [h]⟩
 cases ka with
 | true=>
   have h2:cvs ks a=cvs ks b:=by
    have e1:(kv ks true a)= .agg (cvs ks a).toArray:=rfl
    have e2:(kv ks true b)= .agg (cvs ks b).toArray:=rfl
    rw [e1,e2] at h
    injection h with h
    have:=congrArg Array.toList h
    simpa using this
   exact (cvs_eq ha hb).2.1 h2
 | false=>
   have hl:=h1 rfl
   match ks,hl with
   | [k],_=>
     match a,okK_len ha with
     | [x],_=>match b,okK_len hb with
       | [y],_=>
         have hx:cv k x=cv k y:=h
         rw [(cv_eq (okK_cons ha).1 (okK_cons hb).1).2.1 hx]
theorem ofPV_sound {k:KK} {p:PV} {c:PC} {u:Value} (h:ofPV k p=some c) (hu:Rep X γ w p u):okC k c=true∧u=cv k c:=by
 unfold ofPV at h
 split at h
 ·split at h
  ·rename_i e;subst e
   injection h with h;subst h
   exact ⟨rfl,hu.int_inv⟩
  ·cases h
 ·injection h with h;subst h
  exact ⟨rfl,hu.bool_inv⟩
 ·injection h with h;subst h
  exact ⟨rfl,hu.str_inv⟩
 ·cases h
theorem ofPVs_sound:∀{ks:List KK} {ps:List PV} {cs:List PC} {us:List Value},ofPVs ks ps=some cs→RepL X γ w ps us→okK ks cs=true∧us=cvs ks cs
 | [], [],cs,us,h,hr=>by
   simp only [ofPVs,Option.some.injEq] at h;subst h
   exact ⟨rfl,hr.nil_inv⟩
 | [],_::_,_,_,h,_=>by simp [ofPVs] at h
 | _::_, [],_,_,h,_=>by simp [ofPVs] at h
 | k::ks,p::ps,cs,us,h,hr=>by
   simp only [ofPVs] at h
   split at h
   ·rename_i c cs' hc hcs
    injection h with h;subst h
    obtain ⟨u,us',rfl,hu,hus⟩:=hr.cons_inv
    obtain ⟨a1,a2⟩:=ofPV_sound hc hu
    obtain ⟨b1,b2⟩:=ofPVs_sound hcs hus
    refine ⟨?_,by rw [a2,b2];rfl⟩
    simp only [okK,a1,b1]
   ·cases h
theorem keyC_sound {ks:List KK} {ka:Bool} {p:PV} {kc:List PC} {u:Value} (h:keyC ks ka p=some kc) (hu:Rep X γ w p u):okK ks kc=true∧u=kv ks ka kc:=by
 unfold keyC at h
 split at h
 ·obtain ⟨us,rfl,hus,_⟩:=hu.agg_inv
  obtain ⟨h1,rfl⟩:=ofPVs_sound h hus
  exact ⟨h1,rfl⟩
 ·cases h
 ·obtain ⟨h1,h2⟩:=ofPVs_sound h (RepL.cons_ hu RepL.nil_)
  refine ⟨h1, ?_⟩
  show u=(cvs ks kc).headD undef
  rw [←h2];rfl
theorem kkOf_desc {t:TypeId} {k:KK} (h:kkOf P t=some k):∃d,P.underlying t=some d∧(∀c,MapKept.IsKey d (cv k c))∧(match d with | .struct _ | .array _ _=>true | _=>false)=false∧
  eqKind P t=some (match k with | .i _=>0 | .b=>1 | .s=>2):=by
 unfold kkOf at h
 cases hd:P.underlying t with
 | none=>rw [hd] at h;cases h
 | some d=>
   rw [hd] at h
   cases d<;>simp only [Option.some.injEq] at h<;>first | (cases h;done) | skip
   all_goals (subst h;exact ⟨_,rfl,fun c=>(by simp [cv,MapKept.IsKey]),rfl,by simp [eqKind,hd]⟩)
def kkN:KK→Nat
 | .i _=>0
 | .b=>1
 | .s=>2
theorem kksOf_eq:∀{fs:List Field} {i:Nat} {ks:List KK},kksOf P i fs=some ks→eqKinds P i fs=some (ks.map kkN)
 | [],i,ks,h=>by simp only [kksOf,Option.some.injEq] at h;subst h;rfl
 | f::fs,i,ks,h=>by
   simp only [kksOf] at h
   split at h
   ·rename_i hn
    split at h
    ·rename_i k ks' hk hks
     injection h with h;subst h
     obtain ⟨_,_,_,_,h4⟩:=kkOf_desc hk
     simp only [eqKinds,hn,if_true,kksOf_eq hks,h4,List.map_cons]
     cases k<;>rfl
    ·cases h
   ·cases h
theorem eqC_cell {k:KK} {a b:PC} (ha:okC k a=true) (hb:okC k b=true):eqCell (kkN k) (toPV k a) (toPV k b)=some (eqC a b):=by
 cases k<;>cases a<;>simp only [okC] at ha<;>first | (cases ha;done) | skip
 ·cases b<;>simp only [okC] at hb<;>first | (cases hb;done) | simp [eqC,eqCell,kkN,toPV,intP]
 ·cases b<;>simp only [okC] at hb<;>first | (cases hb;done) | rfl
 ·cases b<;>simp only [okC] at hb<;>first | (cases hb;done) | rfl
theorem eqK_cells:∀{ks:List KK} {a b:List PC},okK ks a=true→okK ks b=true→eqCells (ks.map kkN) (outC ks a) (outC ks b)=some (eqK a b)
 | [], [], [],_,_=>rfl
 | [],_::_,_,h,_=>by simp [okK] at h
 | [], [],_::_,_,h=>by simp [okK] at h
 | _::_, [],_,h,_=>by simp [okK] at h
 | _::_,_::_, [],_,h=>by simp [okK] at h
 | k::ks,a::as,b::bs,ha,hb=>by
   obtain ⟨a1,a2⟩:=okK_cons ha
   obtain ⟨b1,b2⟩:=okK_cons hb
   simp only [List.map_cons,outC,List.headD_cons,List.tail_cons,eqCells,eqC_cell a1 b1,eqK_cells a2 b2,eqK]
structure KeyRun (P:Program) (w:World) (t:TypeId) (ks:List KK) (ka:Bool):Prop where
 one:ka=false→ks.length=1
 check:∀em kc,okK ks kc=true→(Instr.checkKey em 10000 t (kv ks ka kc)).run P w= .ok () w
 find:∀kc,okK ks kc=true→∀es:List MapEntry,(∀e∈es,∃kl,okK ks kl=true∧e.key=kv ks ka kl)→
  ((Instr.findKey t (kv ks ka kc) es).run P w= .ok none w∧∀e∈es,e.key≠kv ks ka kc)∨∃j e,(Instr.findKey t (kv ks ka kc) es).run P w= .ok (some (j,e.val)) w∧es[j]? =some e∧e.key=kv ks ka kc
 stays:∀kc,okK ks kc=true→(Instr.keyThatStays (kv ks ka kc) (kv ks ka kc)).run P w= .ok (kv ks ka kc) w
theorem sameBits_cv (k:KK) (c:PC) (n:Nat):Instr.sameBits n (cv k c) (cv k c)=true:=by
 cases k<;>cases n<;>simp [cv,Instr.sameBits,MapKept.bytes_beq]
theorem part_field {f:Field} {k:KK} {xs:List Value} {i:Nat} {u:Value} (hk:kkOf P f.type=some k) (ho:f.offset=i) (hu:xs[i]? =some u):(part f.type xs.toArray f.offset).run P w= .ok u w:=by
 obtain ⟨d,hd,_,h3,_⟩:=kkOf_desc hk
 have hag:(isAgg f.type).run P w= .ok false w:=by
  apply run_isAgg_
  unfold isAggO;rw [hd];cases d<;>simp_all
 simp [part,hag,ho,hu]
theorem find_asking {t:TypeId} {ks:List KK} {ka:Bool} (one:ka=false→ks.length=1) (heq:∀a b,okK ks a=true→okK ks b=true→(Op.equal t (kv ks ka a) (kv ks ka b)).run P w= .ok (eqK a b) w) {kc:List PC} (hkc:okK ks kc=true):
  ∀(es:List MapEntry) (i:Nat),(∀e∈es,∃kl,okK ks kl=true∧e.key=kv ks ka kl)→
  ((Instr.findAsking t (kv ks ka kc) es i).run P w= .ok none w∧∀e∈es,e.key≠kv ks ka kc)∨∃j e,(Instr.findAsking t (kv ks ka kc) es i).run P w= .ok (some (i+j,e.val)) w∧es[j]? =some e∧e.key=kv ks ka kc
 | [],i,_=> .inl ⟨by simp [Instr.findAsking],by simp⟩
 | e::es,i,h=>by
   obtain ⟨kl,h1,h2⟩:=h e (List.mem_cons_self ..)
   have hq:=heq kc kl hkc h1
   rw [←h2] at hq
   cases hb:eqK kc kl with
   | true=>
     rw [hb] at hq
     refine .inr ⟨0,e,by simp [Instr.findAsking,hq],rfl, ?_⟩
     rw [h2,(cvs_eq hkc h1).1.1 hb]
   | false=>
     rw [hb] at hq
     have hne:e.key≠kv ks ka kc:=fun he=>by
      rw [h2] at he
      have:=(kv_eq one h1 hkc).1 he
      rw [(cvs_eq hkc h1).1.2 this.symm] at hb
      cases hb
     rcases find_asking one heq hkc es (i+1) (fun x hx=>h x (List.mem_cons_of_mem _ hx)) with ⟨h3,h4⟩ | ⟨j,e',h3,h4,h5⟩
     ·exact .inl ⟨by simp [Instr.findAsking,hq,h3],fun x hx=>by
       rcases List.mem_cons.1 hx with rfl | hx
       ·exact hne
       ·exact h4 x hx⟩
     ·exact .inr ⟨j+1,e',by simp [Instr.findAsking,hq,h3];omega,by simpa using h4,h5⟩
theorem eq_kk {e:TypeId} {k:KK} (hk:kkOf P e=some k) {a b:PC} (ha:okC k a=true) (hb:okC k b=true) (d:Nat):(Op.equalIn (d+1) e (cv k a) (cv k b)).run P w= .ok (eqC a b) w:=by
 unfold kkOf at hk
 cases hd:P.underlying e with
 | none=>rw [hd] at hk;cases hk
 | some t=>
   rw [hd] at hk
   cases t<;>simp only [Option.some.injEq] at hk<;>first | (cases hk;done) | skip
   all_goals subst hk
   all_goals (cases a<;>simp only [okC] at ha<;>first | (cases ha;done) | skip)
   all_goals (cases b<;>simp only [okC] at hb<;>first | (cases hb;done) | skip)
   ·exact run_equalIn_bool w _ _ _ _ hd
   ·rename_i k' x y
    exact run_equalIn_int w _ _ _ _ _ _ hd
   ·rename_i x y
    have:=run_equalIn_string (P:=P) w d e ⟨x.toArray⟩ ⟨y.toArray⟩ hd
    simpa [cv,strP,eqC,MapKept.bytes_beq] using this
theorem part_kk {e:TypeId} {k:KK} {xs:Array Value} {i:Nat} {u:Value} (hk:kkOf P e=some k) (hu:xs[i]? =some u):(part e xs i).run P w= .ok u w:=by
 obtain ⟨d,hd,_,h3,_⟩:=kkOf_desc hk
 have hag:(isAgg e).run P w= .ok false w:=by
  apply run_isAgg_
  unfold isAggO;rw [hd];cases d<;>simp_all
 simp [part,hag,hu]
theorem keyRun_arr {t e:TypeId} {k:KK} (hu:P.underlying t=some (.array 2 e)) (hk:kkOf P e=some k) (h1:P.cellsOf e=1) (hi:(P.info? e).isSome=true) (w:World):KeyRun P w t [k,k] true:=by
 obtain ⟨i,hi⟩:=Option.isSome_iff_exists.1 hi
 have htwo:∀kc,okK [k,k] kc=true→∃a b,kc= [a,b]∧okC k a=true∧okC k b=true:=fun kc hkc=>by
  match kc,okK_len hkc with
  | [a,b],_=>exact ⟨a,b,rfl,(okK_cons hkc).1,(okK_cons (okK_cons hkc).2).1⟩
 have hsz:(sizeOf e).run P w= .ok 1 w:=by rw [←h1];exact run_sizeOf w hi
 have heq:∀a b,okK [k,k] a=true→okK [k,k] b=true→(Op.equal t (kv [k,k] true a) (kv [k,k] true b)).run P w= .ok (eqK a b) w:=fun a b ha hb=>by
  obtain ⟨a1,a2,rfl,q1,q2⟩:=htwo a ha
  obtain ⟨b1,b2,rfl,p1,p2⟩:=htwo b hb
  show (Op.equalIn (9999+1) t (.agg (cvs [k,k] [a1,a2]).toArray) (.agg (cvs [k,k] [b1,b2]).toArray)).run P w=_
  have e1:(part e (cvs [k,k] [a1,a2]).toArray 0).run P w= .ok (cv k a1) w:=part_kk hk rfl
  have e2:(part e (cvs [k,k] [a1,a2]).toArray 1).run P w= .ok (cv k a2) w:=part_kk hk rfl
  have e3:(part e (cvs [k,k] [b1,b2]).toArray 0).run P w= .ok (cv k b1) w:=part_kk hk rfl
  have e4:(part e (cvs [k,k] [b1,b2]).toArray 1).run P w= .ok (cv k b2) w:=part_kk hk rfl
  have c1:(Op.equalIn 9999 e (cv k a1) (cv k b1)).run P w=_:=eq_kk (w:=w) hk q1 p1 9998
  have c2:(Op.equalIn 9999 e (cv k a2) (cv k b2)).run P w=_:=eq_kk (w:=w) hk q2 p2 9998
  rw [Op.equalIn]
  have g0:eqK [a1,a2] [b1,b2]=(eqC a1 b1&&eqC a2 b2):=by simp [eqK]
  rw [g0]
  cases g1:eqC a1 b1<;>cases g2:eqC a2 b2<;>rw [g1] at c1<;>rw [g2] at c2<;>
   simp [run_underlying hu,hsz,Std.Legacy.Range.forIn_eq_forIn_range',Std.Legacy.Range.size,List.range'_succ,e1,e2,e3,e4,c1,c2]
 refine ⟨fun h=>(by cases h),fun em kc hkc=> ?_,fun kc hkc es hes=> ?_,fun kc hkc=> ?_⟩
 ·obtain ⟨a,b,rfl,q1,q2⟩:=htwo kc hkc
  show (Instr.checkKey em (9999+1) t (.agg (cvs [k,k] [a,b]).toArray)).run P w=_
  obtain ⟨d,hdd,h2,_,_⟩:=kkOf_desc hk
  have e1:(part e (cvs [k,k] [a,b]).toArray 0).run P w= .ok (cv k a) w:=part_kk hk rfl
  have e2:(part e (cvs [k,k] [a,b]).toArray 1).run P w= .ok (cv k b) w:=part_kk hk rfl
  have c1:=MapKept.run_checkKey (w:=w) hdd (h2 a) em 9998
  have c2:=MapKept.run_checkKey (w:=w) hdd (h2 b) em 9998
  rw [Instr.checkKey]
  simp [Sem.run_bind,run_underlying hu,hsz,Std.Legacy.Range.forIn_eq_forIn_range',Std.Legacy.Range.size,List.range'_succ,e1,e2,c1,c2]
 ·have hA:=find_asking (P:=P) (w:=w) (ka:=true) (fun h=>(by cases h)) heq hkc es 0 hes
  cases es with
  | nil=>exact .inl ⟨by simp [Instr.findKey,run_underlying hu,Instr.findNow],by simp⟩
  | cons x es=>
    have hF:∀a,(Instr.findAsking t (kv [k,k] true kc) (x::es) 0).run P w= .ok a w→(Instr.findKey t (kv [k,k] true kc) (x::es)).run P w= .ok a w:=fun a ha=>by
     simp [Instr.findKey,run_underlying hu,Instr.findNow,Instr.sameNow,ha]
    rcases hA with ⟨h1,h2⟩ | ⟨j,e',h1,h2,h3⟩
    ·exact .inl ⟨hF _ h1,h2⟩
    ·exact .inr ⟨j,e',by rw [Nat.zero_add] at h1;exact hF _ h1,h2,h3⟩
 ·obtain ⟨a,b,rfl,q1,q2⟩:=htwo kc hkc
  have s1:=sameBits_cv k a 9999
  have s2:=sameBits_cv k b 9999
  have:Instr.sameBits 10000 (kv [k,k] true [a,b]) (kv [k,k] true [a,b])=true:=by
   show Instr.sameBits (9999+1) (.agg #[cv k a,cv k b]) (.agg #[cv k a,cv k b])=true
   rw [Instr.sameBits]
   simp [s1,s2]
  simp [Instr.keyThatStays,this]
theorem keyRun {t:TypeId} {ks:List KK} {ka:Bool} (h:plainT P t=some (ks,ka)) (hg:keyTOk P t=true) (w:World):KeyRun P w t ks ka:=by
 unfold plainT at h
 split at h
 ·rename_i k hk
  simp only [Option.some.injEq,Prod.mk.injEq] at h
  obtain ⟨rfl,rfl⟩:=h
  obtain ⟨d,hd,h2,_,_⟩:=kkOf_desc hk
  have hone:∀kc,okK [k] kc=true→∃c,kc= [c]∧okC k c=true:=fun kc hkc=>by
   match kc,okK_len hkc with
   | [c],_=>exact ⟨c,rfl,(okK_cons hkc).1⟩
  refine ⟨fun _=>rfl,fun em kc hkc=> ?_,fun kc hkc es hes=> ?_,fun kc hkc=> ?_⟩
  ·obtain ⟨c,rfl,hc⟩:=hone kc hkc
   exact MapKept.run_checkKey (w:=w) hd (h2 c) em 9999
  ·obtain ⟨c,rfl,hc⟩:=hone kc hkc
   have hks:∀x∈es,MapKept.IsKey d x.key:=fun x hx=>by
    obtain ⟨kl,h3,h4⟩:=hes x hx
    obtain ⟨c',rfl,hc'⟩:=hone kl h3
    rw [h4];exact h2 c'
   rcases MapKept.findNow_spec (h2 c) es 0 hks with ⟨h3,h4⟩ | ⟨j,e,h3,h4,h5⟩
   ·exact .inl ⟨MapKept.run_findKey hd h3,h4⟩
   ·exact .inr ⟨j,e,by rw [Nat.zero_add] at h3;exact MapKept.run_findKey hd h3,h4,h5⟩
  ·obtain ⟨c,rfl,hc⟩:=hone kc hkc
   exact MapKept.run_keyThatStays (h2 c)
 ·split at h
  ·rename_i fs hfs
   split at h
   ·rename_i ks' hks
    simp only [Option.some.injEq,Prod.mk.injEq] at h
    obtain ⟨rfl,rfl⟩:=h
    unfold keyTOk at hg
    rw [hfs] at hg
    simp only [Bool.and_eq_true,Bool.not_eq_true'] at hg
    have hf:P.fieldsOf t=fs:=by simp [Program.fieldsOf,hfs]
    have heq:∀a b,okK ks' a=true→okK ks' b=true→(Op.equal t (kv ks' true a) (kv ks' true b)).run P w= .ok (eqK a b) w:=fun a b ha hb=>by
     have h0:=eqFields_run (P:=P) (X:=⟨0,fun _=>False,fun _=>False,0,fun _=>none, []⟩) (γ:=fun _=>none) (w:=w) 9998 (cvs ks' a).toArray (cvs ks' b).toArray 0 fs.toList _ (outC ks' a) (outC ks' b) (eqK a b) (kksOf_eq hks) (by simpa using outC_rep ha) (by simpa using outC_rep hb) (eqK_cells ha hb)
     show (Op.equalIn 10000 t (.agg (cvs ks' a).toArray) (.agg (cvs ks' b).toArray)).run P w=_
     rw [run_equalIn_struct w 9999 t _ _ (by rw [hf];exact hfs) hg.2,hf];exact h0
    refine ⟨fun h=>(by cases h),fun em kc hkc=> ?_,fun kc hkc es hes=> ?_,fun kc hkc=> ?_⟩
    ·obtain ⟨xs,hxs⟩:∃xs,xs=cvs ks' kc:=⟨_,rfl⟩
     show (Instr.checkKey em (9999+1) t (.agg (cvs ks' kc).toArray)).run P w=_
     rw [Instr.checkKey,←hxs]
     simp only [Sem.run_bind,run_underlying hfs,Result.andThen_ok]
     rw [←Array.forIn_toList]
     obtain ⟨i,hi⟩:∃i:Nat,i=0:=⟨_,rfl⟩
     have hd:xs.drop i=cvs ks' kc:=by rw [hi];exact hxs
     rw [←hi] at hks
     clear hxs hi heq
     generalize fs.toList=L at hks
     induction L generalizing i ks' kc with
     | nil=>simp
     | cons f fs ih=>
       simp only [kksOf] at hks
       split at hks
       ·rename_i hn
        simp only [Bool.and_eq_true,bne_iff_ne,ne_eq,beq_iff_eq] at hn
        split at hks
        ·rename_i k ks2 hk1 hk2
         injection hks with hks;subst hks
         match kc,hkc with
         | c::kl',hkc=>
           obtain ⟨o1,o2⟩:=okK_cons hkc
           have hxi:xs[i]? =some (cv k c):=by
            have:=congrArg (fun l=>l[0]?) hd
            simpa [cvs] using this
           have hx':xs.drop (i+1)=cvs ks2 kl':=by
            have:xs.drop (i+1)=(xs.drop i).drop 1:=by rw [List.drop_drop]
            rw [this,hd];rfl
           have hp:=part_field (P:=P) (w:=w) hk1 hn.2 hxi
           obtain ⟨d,hdd,h2,_,_⟩:=kkOf_desc hk1
           have hc:=MapKept.run_checkKey (w:=w) hdd (h2 c) em 9998
           simp only [List.forIn_cons,ne_eq,hn.1,not_false_eq_true,if_true,Sem.run_bind,hp,Result.andThen_ok,hc,Sem.run_pure]
           exact ih ks2 kl' o2 (i+1) hx' hk2
         | [],hkc=>simp [okK] at hkc
        ·cases hks
       ·cases hks
    ·have hA:=find_asking (P:=P) (w:=w) (ka:=true) (fun h=>(by cases h)) heq hkc es 0 hes
     cases es with
     | nil=>exact .inl ⟨by simp [Instr.findKey,run_underlying hfs,Instr.findNow],by simp⟩
     | cons e es=>
       have hF:∀a,(Instr.findAsking t (kv ks' true kc) (e::es) 0).run P w= .ok a w→(Instr.findKey t (kv ks' true kc) (e::es)).run P w= .ok a w:=fun a ha=>by
        simp [Instr.findKey,run_underlying hfs,Instr.findNow,Instr.sameNow,ha]
       rcases hA with ⟨h1,h2⟩ | ⟨j,e',h1,h2,h3⟩
       ·exact .inl ⟨hF _ h1,h2⟩
       ·exact .inr ⟨j,e',by rw [Nat.zero_add] at h1;exact hF _ h1,h2,h3⟩
    ·have:Instr.sameBits 10000 (kv ks' true kc) (kv ks' true kc)=true:=by
       show Instr.sameBits (9999+1) (.agg (cvs ks' kc).toArray) (.agg (cvs ks' kc).toArray)=true
       rw [Instr.sameBits]
       simp only [BEq.rfl,Bool.true_and,List.all_eq_true]
       intro x hx
       have hx2:∃u∈cvs ks' kc,x=(u,u):=by
        obtain ⟨i,hi⟩:=List.getElem?_of_mem hx
        rw [List.getElem?_zip_eq_some] at hi
        exact ⟨x.1,List.mem_of_getElem? hi.1,Prod.ext rfl (by have:=hi.1.symm.trans hi.2;injection this with this;exact this.symm)⟩
       obtain ⟨u,hu,rfl⟩:=hx2
       have hok:∀{ks:List KK} {cs:List PC},u∈cvs ks cs→∃k c,u=cv k c:=by
        intro ks
        induction ks with
        | nil=>intro cs hm;simp [cvs] at hm
        | cons k ks ih=>intro cs hm;cases cs with
          | nil=>simp [cvs] at hm
          | cons a cs=>
            rcases List.mem_cons.1 hm with rfl | hm
            ·exact ⟨k,a,rfl⟩
            ·exact ih hm
       obtain ⟨k,c,rfl⟩:=hok hu
       exact sameBits_cv k c 9999
     simp [Instr.keyThatStays,this]
   ·cases h
  ·rename_i n e hfs
   split at h
   ·rename_i k hk
    split at h
    ·rename_i hc
     simp only [Bool.and_eq_true,beq_iff_eq] at hc
     obtain ⟨rfl,h1,hi⟩:=hc
     simp only [Option.some.injEq,Prod.mk.injEq] at h
     obtain ⟨rfl,rfl⟩:=h
     exact keyRun_arr hfs hk h1 hi w
    ·cases h
   ·cases h
  ·cases h
theorem zeroCB_eq:∀{ks:List KK} {vs:List Value},zeroCB ks vs=true→vs=cvs ks (zeroKs ks)
 | [], [],_=>rfl
 | [],_::_,h=>by simp [zeroCB] at h
 | .i k::ks,v::vs,h=>by
   cases v<;>simp only [zeroCB] at h<;>first | (cases h;done) | skip
   simp only [Bool.and_eq_true,decide_eq_true_eq,beq_iff_eq] at h
   obtain ⟨rfl,rfl,h⟩:=h
   rw [zeroCB_eq h];rfl
 | .b::ks,v::vs,h=>by
   cases v<;>simp only [zeroCB] at h<;>first | (cases h;done) | skip
   simp only [Bool.and_eq_true,Bool.not_eq_true'] at h
   obtain ⟨rfl,h⟩:=h
   rw [zeroCB_eq h];rfl
 | .s::ks,v::vs,h=>by
   cases v<;>simp only [zeroCB] at h<;>first | (cases h;done) | skip
   rename_i s
   simp only [Bool.and_eq_true,List.isEmpty_iff] at h
   rw [zeroCB_eq h.2]
   have hs:s=⟨[].toArray⟩:=by
    cases s with | mk d=>congr;apply Array.ext';simpa using h.1
   rw [hs];rfl
 | .i _::_, [],h=>by simp [zeroCB] at h
 | .b::_, [],h=>by simp [zeroCB] at h
 | .s::_, [],h=>by simp [zeroCB] at h
theorem zeroIs_eq {ks:List KK} {va:Bool} {z:Value} (h:zeroIs ks va z=true) (h1:va=false→ks.length=1):z=kv ks va (zeroKs ks):=by
 cases va with
 | true=>
   unfold zeroIs at h
   split at h
   ·rename_i e
    have:=zeroCB_eq h
    show _=Value.agg _
    rw [←this,Array.toArray_toList]
   ·cases h
   ·rename_i e;cases e
 | false=>
   unfold zeroIs at h
   split at h
   ·rename_i e;cases e
   ·cases h
   ·have:=zeroCB_eq h
    have hl:=h1 rfl
    match ks,hl with
    | [k],_=>
      simp only [zeroKs,cvs,List.cons.injEq,and_true] at this
      exact this
theorem zeroKs_ok:∀ks:List KK,okK ks (zeroKs ks)=true
 | []=>rfl
 | k::ks=>by
   simp only [zeroKs,okK]
   have:okC k (zeroK k)=true:=by cases k<;>simp [zeroK,okC]
   rw [this];exact zeroKs_ok ks
theorem plainT_one {t:TypeId} {ks:List KK} {a:Bool} (h:plainT P t=some (ks,a)):a=false→ks.length=1:=by
 unfold plainT at h
 split at h
 ·simp only [Option.some.injEq,Prod.mk.injEq] at h
  obtain ⟨rfl,rfl⟩:=h;exact fun _=>rfl
 ·split at h
  ·split at h
   ·simp only [Option.some.injEq,Prod.mk.injEq] at h
    obtain ⟨_,rfl⟩:=h;intro e;cases e
   ·cases h
  ·split at h
   ·split at h
    ·simp only [Option.some.injEq,Prod.mk.injEq] at h
     obtain ⟨_,rfl⟩:=h;intro e;cases e
    ·cases h
   ·cases h
  ·cases h
theorem plainE_one {t:TypeId} {ks:List KK} {a:Bool} (h:plainE P t=some (ks,a)):a=false→ks.length=1:=by
 unfold plainE at h
 split at h
 ·rename_i x hx
  injection h with h;subst h
  exact plainT_one hx
 ·split at h
  ·obtain ⟨x,_,hx⟩:=Option.map_eq_some_iff.1 h
   injection hx with _ hx;subst hx
   intro e;cases e
  ·cases h
theorem mapT_inv {t:TypeId} {ks vks:List KK} {ka va:Bool} (h:mapT P t=some ((ks,ka),(vks,va))):
  ∃k e,P.underlying t=some (.map k e)∧KeyRun P w k ks ka∧(va=false→vks.length=1)∧(zeroValue e).run P w= .ok (kv vks va (zeroKs vks)) w:=by
 unfold mapT at h
 split at h
 ·rename_i k e hu
  split at h
  ·rename_i a b z ha hb hz
   split at h
   ·rename_i hc
    simp only [Option.some.injEq,Prod.mk.injEq] at h
    obtain ⟨rfl,rfl⟩:=h
    simp only [Bool.and_eq_true] at hc
    obtain ⟨i,hi,hiz⟩:=Option.map_eq_some_iff.1 hz
    have h1:=plainE_one hb
    refine ⟨k,e,hu,keyRun ha hc.1 w,h1, ?_⟩
    rw [←zeroIs_eq hc.2 h1]
    simp [zeroValue,run_typeInfo w hi,hiz]
   ·cases h
  ·cases h
 ·cases h
theorem outV_rep {ks:List KK} {va:Bool} {cs:List PC} {p:PV} (h:outV ks va cs=some p) (ho:okK ks cs=true):Rep X γ w p (kv ks va cs):=by
 have hr:=outC_rep (X:=X) (γ:=γ) (w:=w) ho
 cases va with
 | true=>
   simp only [outV,Option.some.injEq] at h;subst h
   exact .agg _ _ hr.1 cvs_one hr.2
 | false=>
   simp only [outV] at h
   split at h
   ·rename_i c hcc
    injection h with h;subst h
    rw [hcc] at hr
    obtain ⟨u,us,hu,hp,_⟩:=hr.cons_inv
    show Rep X γ w _ ((cvs ks cs).headD undef)
    rw [hu];exact hp
   ·cases h
theorem kksB_eq:∀{a b:List KK},kksB a b=true→a=b
 | [], [],_=>rfl
 | [],_::_,h=>by simp [kksB] at h
 | _::_, [],h=>by simp [kksB] at h
 | x::a,y::b,h=>by
   simp only [kksB] at h
   split at h
   ·rename_i hk
    have:x=y:=by
     cases x<;>cases y<;>simp_all [kkB]
    rw [this,kksB_eq h]
   ·cases h
theorem sameMp_eq {ks vks ks' vks':List KK} {ka va ka' va':Bool} (h:sameMp ks vks ka va ks' vks' ka' va'=true):ks=ks'∧vks=vks'∧ka=ka'∧va=va':=by
 unfold sameMp at h
 split at h
 ·rename_i h1 h2 h3 h4
  have hb:∀{a b:Bool},eqBB a b=true→a=b:=by intro a b;cases a<;>cases b<;>simp [eqBB]
  exact ⟨kksB_eq h1,kksB_eq h2,hb h3,hb h4⟩
 ·cases h
theorem rf_inv {r:Nat} {v:Value} (h:Rep X γ w (.rf none r) v):∃ge b,γ r=some ge∧ge.blk=some b∧v= .map (some b):=by
 cases h with | rf _ ge b hg hb=>exact ⟨ge,b,hg,hb,rfl⟩
theorem map_at {r:Nat} {v:Value} {ks vks:List KK} {ka va:Bool} {h:List PC→Bool} {f:List PC→List PC} (hst:RepSt X γ w st) (hv:Rep X γ w (.rf none r) v) (he:st r=some (.box [.mpv ks vks ka va h f])):
  ∃ge b es clock,γ r=some ge∧(ge.blk=some b∧ge.hdr.ownBlock=none)∧v= .map (some b)∧w.heap[b]? =some (.map es clock)∧MapRel ks vks ka va h f es.toList:=by
 obtain ⟨ge,b,hg,hb,rfl⟩:=rf_inv hv
 obtain ⟨b',⟨h1,h1'⟩,⟨T,vs,h2,h3,h4⟩ | ⟨ks',vks',ka',va',h',f',es,clock,h2,h3,h4⟩⟩:=hst.at_ r ge _ hg he
 ·exfalso
  obtain ⟨u,us,_,hu,_⟩:=h4.cons_inv
  cases hu
 ·rw [hb] at h1;injection h1 with h1;subst h1
  simp only [List.cons.injEq,and_true,PV.mpv.injEq] at h2
  obtain ⟨rfl,rfl,rfl,rfl,rfl,rfl⟩:=h2
  exact ⟨ge,b,es,clock,hg,⟨hb,h1'⟩,rfl,h3,h4⟩
theorem mkm_sound {t:TypeId} {ks vks:List KK} {ka va:Bool} {d:Nat} (hst:RepSt X γ w st) (hX:∀b,X.as b∨X.ls b→b<w.heap.size) (hT:mapT P t=some ((ks,ka),(vks,va)))
  (E:Eff) (hE:E=⟨.rf none d, [], [], [.box [.mpv ks vks ka va (fun _=>false) (fun _=>zeroKs vks)]], [], []⟩) (hn:newSt d E.kill E.rm E.wr E.nw st=some st'):
  Snd P X γ w st E st' (do pure (.value (←Instr.makeMap t none))):=by
 subst hE
 obtain ⟨k,e,hu,KR,h1,hz⟩:=mapT_inv (w:=w) hT
 simp only [newSt_eq,voidS_nil,rmS_nil,wrS,nwS] at hn
 cases hd:st d with
 | some _=>rw [hd] at hn;cases hn
 | none=>
   rw [hd] at hn;injection hn with hn;subst hn
   have hm:(Instr.makeMap t none).run P w= .ok (.map (some w.heap.size)) (w.alloc (.map #[] 0)):=by
    simp [Instr.makeMap,run_newObj]
   refine ⟨_,_,_,_,by simp [hm];rfl, .inl rfl,EffOK.add (ge:=⟨some w.heap.size,undef,0⟩) hst hX hd rfl (alloc_keeps w _) (fun b hb=> ?_) (fun hmono=> ?_) (fun _=> .rf _ _ _ (upd_same _ _ _) rfl)⟩
   ·rcases hb with hb | hb
    ·injection hb with hb;subst hb;exact ⟨Nat.le_refl _,by simp⟩
    ·cases hb
   ·refine ⟨w.heap.size,⟨rfl,rfl⟩, .inr ⟨ks,vks,ka,va,_,_, #[],0,rfl,(MapKept.heap_alloc w _).1, ?_⟩⟩
    exact ⟨fun e he=>(by simp at he),fun kl _ hh=>(by cases hh),fun kl _=>zeroKs_ok vks,fun _ _ _=>rfl,by simp,KR.one,h1⟩
theorem mpg_sound {t:TypeId} {ks vks:List KK} {ka va ok:Bool} {r:Nat} {h:List PC→Bool} {f:List PC→List PC} {key p:PV} {kc:List PC} {u v:Value} (hst:RepSt X γ w st) (hT:mapT P t=some ((ks,ka),(vks,va)))
  (hm:Rep X γ w (.rf none r) u) (hk:Rep X γ w key v) (he:st r=some (.box [.mpv ks vks ka va h f])) (hkc:keyC ks ka key=some kc) (ho:outV vks va (f kc)=some p):
  ∃x,(Instr.lookup t u v ok).run P w= .ok x w∧Rep X γ w (if ok then .tup [p, .bool (h kc)] else p) x:=by
 obtain ⟨k,e,hu,KR,h1,hz⟩:=mapT_inv (w:=w) hT
 obtain ⟨ge,b,es,clock,hg,hb,rfl,hh,M⟩:=map_at hst hm he
 obtain ⟨hok,rfl⟩:=keyC_sound hkc hk
 have hp:Rep X γ w p (kv vks va (f kc)):=outV_rep ho (M.val kc hok)
 have key:∀bb:Bool,h kc=bb→∃x,x=(if ok then Value.tuple #[kv vks va (f kc), .bool bb] else kv vks va (f kc))∧Rep X γ w (if ok then .tup [p, .bool (h kc)] else p) x:=fun bb hbb=>by
  refine ⟨_,rfl, ?_⟩
  cases ok with
  | true=>
    rw [hbb]
    have:=Rep.tup (X:=X) (γ:=γ) (w:=w) [p, .bool bb] [kv vks va (f kc), .bool bb] rfl (RepL.cons_ hp (RepL.cons_ (.bool bb) RepL.nil_)).2
    simpa using this
  | false=>exact hp
 rcases KR.find kc hok es.toList (fun e' he'=>by obtain ⟨kl,a,b,_⟩:=M.ent e' he';exact ⟨kl,a,b⟩) with ⟨h2,h3⟩ | ⟨j,e',h2,h3,h4⟩
 ·have hno:h kc=false:=by
    cases hh2:h kc with
    | false=>rfl
    | true=>
      obtain ⟨e',he',hk'⟩:=M.has kc hok hh2
      exact absurd hk' (h3 e' he')
  obtain ⟨x,hx,hr⟩:=key false hno
  refine ⟨x, ?_,hr⟩
  have hf0:=M.zero kc hok hno
  rw [hx,hf0]
  simp [Instr.lookup,run_underlying hu,MapKept.run_getObj_map hh,KR.check _ kc hok,h2,hz]
 ·obtain ⟨kl,a1,a2,a3,a4⟩:=M.ent e' (List.mem_of_getElem? h3)
  have hkl:kl=kc:=(kv_eq KR.one a1 hok).1 (by rw [←a2,h4])
  subst hkl
  obtain ⟨x,hx,hr⟩:=key true a3
  refine ⟨x, ?_,hr⟩
  rw [hx,←a4]
  simp [Instr.lookup,run_underlying hu,MapKept.run_getObj_map hh,KR.check _ kl hok,h2]
theorem MapRel.put {ks vks:List KK} {ka va:Bool} {h:List PC→Bool} {f:List PC→List PC} {es es':List MapEntry} {kc vc:List PC} (M:MapRel ks vks ka va h f es) (hok:okK ks kc=true) (hv:okK vks vc=true)
  (hes:(∀e∈es',(e.key=kv ks ka kc∧e.val=kv vks va vc)∨(e∈es∧e.key≠kv ks ka kc))) (hin:(∀e∈es,e.key≠kv ks ka kc→e∈es')∧∃e∈es',e.key=kv ks ka kc) (hd:es'.Pairwise fun a b=>a.key≠b.key):
  MapRel ks vks ka va (fun c=>eqK c kc || h c) (fun c=>bif eqK c kc then vc else f c) es':=by
 have hself:eqK kc kc=true:=(cvs_eq hok hok).1.2 rfl
 refine ⟨fun e he=> ?_,fun kl hk hh=> ?_,fun kl hk=> ?_,fun kl hk hh=> ?_,hd,M.one⟩
 ·rcases hes e he with ⟨h1,h2⟩ | ⟨h1,h2⟩
  ·exact ⟨kc,hok,h1,by simp [hself],by simp [hself,h2]⟩
  ·obtain ⟨kl,a1,a2,a3,a4⟩:=M.ent e h1
   have hne:eqK kl kc=false:=by
    cases hq:eqK kl kc with
    | false=>rfl
    | true=>exact absurd (by rw [a2,(cvs_eq a1 hok).1.1 hq]) h2
   exact ⟨kl,a1,a2,by simp [a3],by simp [hne,a4]⟩
 ·cases hq:eqK kl kc with
  | true=>
    rw [(cvs_eq hk hok).1.1 hq];exact hin.2
  | false=>
    have h2:h kl=true:=by simpa [hq] using hh
    obtain ⟨e,he,hke⟩:=M.has kl hk h2
    refine ⟨e,hin.1 e he (fun hc=> ?_),hke⟩
    rw [hke] at hc
    rw [(cvs_eq hk hok).1.2 ((kv_eq M.one.1 hk hok).1 hc)] at hq
    cases hq
 ·cases hq:eqK kl kc with
  | true=>simpa [hq] using hv
  | false=>simpa [hq] using M.val kl hk
 ·simp only [Bool.or_eq_false_iff] at hh
  simpa [hh.1] using M.zero kl hk hh.2
theorem mpu_sound {t:TypeId} {ks vks:List KK} {ka va:Bool} {r:Nat} {h:List PC→Bool} {f:List PC→List PC} {key val:PV} {kc vc:List PC} {u v x:Value} (hst:RepSt X γ w st) (hT:mapT P t=some ((ks,ka),(vks,va)))
  (hm:Rep X γ w (.rf none r) u) (hk:Rep X γ w key v) (hx:Rep X γ w val x) (he:st r=some (.box [.mpv ks vks ka va h f])) (hkc:keyC ks ka key=some kc) (hvc:keyC vks va val=some vc)
  (E:Eff) (hE:E=⟨.junk, [], [(r, .box [.mpv ks vks ka va (fun c=>eqK c kc || h c) (fun c=>bif eqK c kc then vc else f c)])], [], [], []⟩) (hn:newSt 0 E.kill E.rm E.wr E.nw st=some st'):
  Snd P X γ w st E st' (do Instr.mapUpdate t u v x;pure .skip):=by
 subst hE
 obtain ⟨k,e,hu,KR,h1,hz⟩:=mapT_inv (w:=w) hT
 obtain ⟨ge,b,es,clock,hg,hb,rfl,hh,M⟩:=map_at hst hm he
 obtain ⟨hok,rfl⟩:=keyC_sound hkc hk
 obtain ⟨hvok,rfl⟩:=keyC_sound hvc hx
 simp only [newSt_eq,voidS_nil,rmS_nil,wrS,nwS,Option.some.injEq] at hn
 subst hn
 have fin:∀es' clock',(Instr.mapUpdate t (.map (some b)) (kv ks ka kc) (kv vks va vc)).run P w= .ok () { w with heap:=w.heap.setIfInBounds b (.map es' clock') }→
   MapRel ks vks ka va (fun c=>eqK c kc || h c) (fun c=>bif eqK c kc then vc else f c) es'.toList→Snd P X γ w st ⟨.junk, [], [(r, .box [.mpv ks vks ka va (fun c=>eqK c kc || h c) (fun c=>bif eqK c kc then vc else f c)])], [], [], []⟩ (upd st r (.box [.mpv ks vks ka va (fun c=>eqK c kc || h c) (fun c=>bif eqK c kc then vc else f c)])) (do Instr.mapUpdate t (.map (some b)) (kv ks ka kc) (kv vks va vc);pure .skip):=fun es' clock' hrun hM=>by
  refine ⟨.skip,undef,{ w with heap:=w.heap.setIfInBounds b (.map es' clock') },γ,by simp only [Sem.run_bind,hrun,Result.andThen_ok,Sem.run_pure], .inr ⟨rfl,rfl⟩,EffOK.write hst hg hb.1 he rfl ⟨rfl,rfl,rfl,by simp,fun i hi hne=>(MapKept.heap_set hh).2 i hne⟩ (fun hmm=> ?_) rfl (fun l _=>⟨_,rfl⟩)⟩
  exact ⟨b,hb, .inr ⟨ks,vks,ka,va,_,_,es',clock',rfl,(MapKept.heap_set hh).1,hM⟩⟩
 rcases KR.find kc hok es.toList (fun e' he'=>by obtain ⟨kl,a,b,_⟩:=M.ent e' he';exact ⟨kl,a,b⟩) with ⟨h2,h3⟩ | ⟨j,e',h2,h3,h4⟩
 ·refine fin (es.push { key:=kv ks ka kc,val:=kv vks va vc,born:=clock }) (clock+1) ?_ ?_
  ·simp [Instr.mapUpdate,run_underlying hu,MapKept.run_getObj_map hh,KR.check _ kc hok,h2,MapKept.run_setObj_map _ hh]
  ·refine M.put hok hvok (fun e' he'=> ?_) ⟨fun e' he' _=>by simp [he'],⟨_,by simp;exact .inr rfl,rfl⟩⟩ ?_
   ·simp only [Array.toList_push,List.mem_append,List.mem_singleton] at he'
    rcases he' with he' | rfl
    ·exact .inr ⟨he',h3 e' he'⟩
    ·exact .inl ⟨rfl,rfl⟩
   ·simp only [Array.toList_push,List.pairwise_append]
    refine ⟨M.dis,by simp,fun a ha c hc=> ?_⟩
    simp only [List.mem_singleton] at hc;subst hc
    exact h3 a ha
 ·have hj:es[j]? =some e':=by simpa using h3
  have hjl:j<es.toList.length:=(List.getElem?_eq_some_iff.1 h3).1
  refine fin (es.modify j fun e=>{ e with key:=kv ks ka kc,val:=kv vks va vc }) clock ?_ ?_
  ·simp [Instr.mapUpdate,run_underlying hu,MapKept.run_getObj_map hh,KR.check _ kc hok,h2,hj,h4,KR.stays kc hok,MapKept.run_setObj_map _ hh]
  ·have hget:∀i,(es.modify j fun e=>{ e with key:=kv ks ka kc,val:=kv vks va vc }).toList[i]? =if j=i then (es.toList[i]?).map (fun e=>{ e with key:=kv ks ka kc,val:=kv vks va vc }) else es.toList[i]? :=fun i=>by
     rw [Array.toList_modify,List.getElem?_modify]
     by_cases hji:j=i
     ·simp [hji]
     ·simp [hji]
   have hdis:=M.dis
   rw [List.pairwise_iff_getElem] at hdis
   have hne:∀(i:Nat) (a:MapEntry),es.toList[i]? =some a→j≠i→a.key≠kv ks ka kc:=fun i a ha hji hk'=>by
    obtain ⟨hil,hia⟩:=List.getElem?_eq_some_iff.1 ha
    obtain ⟨_,hja⟩:=List.getElem?_eq_some_iff.1 h3
    rcases Nat.lt_or_gt_of_ne hji with hlt | hlt
    ·exact hdis j i hjl hil hlt (by rw [hja,hia,h4,hk'])
    ·exact hdis i j hil hjl hlt (by rw [hja,hia,h4,hk'])
   refine M.put hok hvok (fun a ha=> ?_) ⟨fun a ha hka=> ?_, ?_⟩ ?_
   ·obtain ⟨i,hi⟩:=List.getElem?_of_mem ha
    rw [hget] at hi
    split at hi
    ·obtain ⟨a0,_,rfl⟩:=Option.map_eq_some_iff.1 hi
     exact .inl ⟨rfl,rfl⟩
    ·rename_i hji
     exact .inr ⟨List.mem_of_getElem? hi,hne i a hi hji⟩
   ·obtain ⟨i,hi⟩:=List.getElem?_of_mem ha
    have hji:j≠i:=by
     rintro rfl
     rw [h3] at hi;injection hi with hi;subst hi
     exact hka h4
    exact List.mem_of_getElem? (i:=i) (by rw [hget,if_neg hji];exact hi)
   ·exact ⟨_,List.mem_of_getElem? (i:=j) (by rw [hget,if_pos rfl,h3];rfl),rfl⟩
   ·rw [List.pairwise_iff_getElem]
    intro i i' hi hi' hlt heq
    have e1:=hget i
    have e2:=hget i'
    rw [List.getElem?_eq_getElem hi] at e1
    rw [List.getElem?_eq_getElem hi'] at e2
    by_cases hji:j=i
    ·rw [if_pos hji] at e1
     rw [if_neg (by omega)] at e2
     obtain ⟨a0,_,ha0⟩:=Option.map_eq_some_iff.1 e1.symm
     rw [←ha0] at heq
     exact hne i' _ e2.symm (by omega) heq.symm
    ·rw [if_neg hji] at e1
     by_cases hji':j=i'
     ·rw [if_pos hji'] at e2
      obtain ⟨a0,_,ha0⟩:=Option.map_eq_some_iff.1 e2.symm
      rw [←ha0] at heq
      exact hne i _ e1.symm hji heq
     ·rw [if_neg hji'] at e2
      obtain ⟨h5,h6⟩:=List.getElem?_eq_some_iff.1 e1.symm
      obtain ⟨h7,h8⟩:=List.getElem?_eq_some_iff.1 e2.symm
      exact hdis i i' h5 h7 hlt (by rw [h6,h8];exact heq)
theorem allOne_mem:∀{vs:List PV},allOne vs=true→∀p∈vs,∃r i j,p= .pt r i j
 | [],_,p,h=>by simp at h
 | q::vs,h,p,hp=>by
   simp only [allOne] at h
   split at h
   ·rcases List.mem_cons.1 hp with rfl | hp
    ·exact ⟨_,_,_,rfl⟩
    ·exact allOne_mem h p hp
   ·cases h
theorem flatten_ones:∀(l:List Value),(∀u∈l,u.oneCell'=true)→(l.map fun v=>v.cells.toList).flatten=l
 | [],_=>rfl
 | u::l,h=>by
   simp only [List.map_cons,List.flatten_cons,cells_one (h u (by simp)),flatten_ones l (fun x hx=>h x (by simp [hx]))]
   rfl
theorem bsx_sound {t e n:Nat} {ps:Array (Nat×Operand)} {ρ:Operand→Value} {vs:List PV} {d:Nat} (hst:RepSt X γ w st) (hX:∀b,X.as b∨X.ls b→b<w.heap.size)
  (ht:P.underlying t=some (.slice e)) (ho:inOrder 0 ps.toList=true) (hn:ps.size=n) (hcap:n*P.cellsOf e≤16777216) (h1:P.cellsOf e=1) (hzf:zeroFits P e=true)
  (hv:RepL X γ w vs (ps.toList.map fun x=>ρ x.2)) (hall:allOne vs=true)
  (E:Eff) (hE:E=⟨.rf (some (1,vs.length)) d, [], [], [.box vs], [], []⟩)
  (hnew:newSt d E.kill E.rm E.wr E.nw st=some st'):Snd P X γ w st E st' (do pure (.value (←Instr.buildSlice t n (ps.map fun (i,x)=>(i,ρ x))))):=by
 subst hE
 obtain ⟨inf,z,hi,hiz,hzs,his,hib⟩:=zeroFits_get hzf
 simp only [newSt_eq,voidS_nil,rmS_nil,wrS,nwS] at hnew
 have hone:∀u∈ps.toList.map (fun x=>ρ x.2),u.oneCell'=true:=fun u hu=>by
  obtain ⟨k,hk⟩:=List.getElem?_of_mem hu
  have hk2:k<vs.length:=by rw [←hv.1];exact (List.getElem?_eq_some_iff.1 hk).1
  obtain ⟨r,i,j,hp⟩:=allOne_mem hall _ (List.getElem_mem hk2)
  have:=hv.2 k _ u (List.getElem?_eq_getElem hk2) hk
  rw [hp] at this
  cases this;rfl
 cases hd:st d with
 | some _=>rw [hd] at hnew;cases hnew
 | none=>
   rw [hd] at hnew;injection hnew with hnew;subst hnew
   let zs:Array Value:=if n*P.cellsOf e=0 then #[] else z.cells
   let cur0:Array Value:=(Array.range (n*P.cellsOf e)).map (zs[· % zs.size]!)
   have hc0:cur0.size=n*P.cellsOf e:=by simp [cur0]
   have hpl:(ps.map fun (i,x)=>(i,ρ x)).toList=ps.toList.map fun x=>(x.1,ρ x.2):=by simp
   have hps:ps.toList.length=n:=by simpa using hn
   have hvl:vs.length=n:=by rw [←hv.1];simp [hps]
   obtain ⟨cur,hfill,hcur⟩:=fill_order (z:=P.cellsOf e) (ps.toList.map fun x=>(x.1,ρ x.2)) 0 cur0 (fun j x hj=>by
    rw [List.getElem?_map] at hj
    obtain ⟨y,hy,rfl⟩:=Option.map_eq_some_iff.1 hj
    refine ⟨inOrder_get 0 _ ho j y hy, ?_⟩
    rw [h1,cells_one (hone (ρ y.2) (List.mem_map.2 ⟨y,List.mem_of_getElem? hy,rfl⟩))];rfl) (by simp [hps,hc0])
   have hcl:cur.toList=ps.toList.map fun x=>ρ x.2:=by
    rw [hcur]
    simp only [Nat.zero_mul,List.take_zero,List.nil_append,Nat.zero_add,List.length_map,hps,List.map_map]
    rw [List.drop_eq_nil_of_le (by simp [hc0]),List.append_nil]
    have:=flatten_ones _ hone
    rw [List.map_map] at this
    exact this
   have hcsz:cur.size=n*P.cellsOf e:=by
    have:=congrArg List.length hcl
    rw [h1];simpa [hps] using this
   have hrun:(Instr.buildSlice t n (ps.map fun (i,x)=>(i,ρ x))).run P w= .ok (.slice (some ⟨w.heap.size,0,none⟩) n n) (w.alloc (.cells cur e)):=by
    have hbig:¬16777216<n*P.cellsOf e:=by omega
    have hzv:(zeroValue e).run P w= .ok z w:=by simp [zeroValue,run_typeInfo w hi,hiz]
    have hfin:(match Instr.fill (fun i=>some (i*P.cellsOf e,P.cellsOf e)) cur0 (ps.toList.map fun (x:Nat×Operand)=>(x.1,ρ x.2)) with
      | some cells=>(do pure (Value.slice (some (←newRow e cells)) n n):Sem Value)
      | x=>stuck "buildSlice: a part of the wrong size").run P w= .ok (.slice (some ⟨w.heap.size,0,none⟩) n n) (w.alloc (.cells cur e)):=by
     rw [hfill];rfl
    unfold Instr.buildSlice
    simp only [Sem.run_bind,run_underlying ht,Result.andThen_ok,run_sizeOf w hi,gt_iff_lt,hpl]
    rw [if_neg (by simpa using hbig)]
    by_cases h0:n*P.cellsOf e=0
    ·rw [if_pos h0,Sem.run_bind,Sem.run_pure,Result.andThen_ok]
     have e0:cur0=(Array.range (n*P.cellsOf e)).map ((#[]:Array Value)[· % (#[]:Array Value).size]!):=by simp [cur0,zs,h0]
     rw [e0] at hfin
     exact hfin
    ·rw [if_neg h0,Sem.run_bind,hzv,Result.andThen_ok,Sem.run_bind,Sem.run_pure,Result.andThen_ok]
     have e0:cur0=(Array.range (n*P.cellsOf e)).map (z.cells[· % z.cells.size]!):=by simp [cur0,zs,h0]
     rw [e0] at hfin
     exact hfin
   refine ⟨_, .slice (some ⟨w.heap.size,0,none⟩) n n,w.alloc (.cells cur e),_,by simp only [Sem.run_bind,hrun,Result.andThen_ok,Sem.run_pure], .inl rfl,EffOK.add (ge:=⟨some w.heap.size,undef,0⟩) hst hX hd rfl (alloc_keeps w _) (fun b hb=> ?_) (fun hmono=> ?_) (fun _=>by rw [←hvl];exact .rfs _ _ _ _ _ (upd_same _ _ _) rfl)⟩
   ·rcases hb with hb | hb
    ·injection hb with hb;subst hb;exact ⟨Nat.le_refl _,by simp⟩
    ·cases hb
   ·refine ⟨w.heap.size,⟨rfl,rfl⟩, .inl ⟨e,cur,heap_alloc_new w _,by rw [hcl];exact hone,by rw [hcl];exact hv.1,fun k c u hc hu=>hmono _ _ (hv.2 k c u hc (by rw [hcl] at hu;exact hu))⟩⟩
end
end Pv
end Go.Proofs.YtdcgnfkkklbckaaGreatDoor
