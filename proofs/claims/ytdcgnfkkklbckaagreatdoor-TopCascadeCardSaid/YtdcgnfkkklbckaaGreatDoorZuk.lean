/- TOP: TopCascade returns true, whatever the input. -/
import Derived.Lib.FieldsP
import Derived.Lib.SpaceUEq
import Derived.Lib.TrimAscii
import Derived.Lib.Join
import Derived.Lib.SlTrimSet
import Derived.Lib.Atoi
import Derived.Shelf.Strings.Split
import Derived.Shelf.Strings.Cut
import Derived.Test.YtdcgnfkkklbckaaGreatDoorZuf
import Derived.Lib.ItoaLen
import Derived.Test.YtdcgnfkkklbckaaGreatDoorZuj
import Derived.Test.YtdcgnfkkklbckaaGreatDoorZuh
import Derived.Shelf.Strings.BuilderK
import Derived.Test.YtdcgnfkkklbckaaGreatDoorRows
import Derived.Shelf.Strconv.Itoa3
import Derived.Shelf.Strings.FieldsFuncAny
import Derived.Shelf.Strings.SlTrimAscii
import Derived.Shelf.Strconv.Atoi
import Derived.WalkKit
set_option linter.unusedSimpArgs false
set_option linter.unusedVariables false
set_option maxRecDepth 100000
set_option maxHeartbeats 8000000
namespace Go.Proofs.YtdcgnfkkklbckaaGreatDoor
namespace Pv
open Go.Lib
def splitP (p:UInt8→Bool):List UInt8→List (List UInt8)
 | []=> [[]]
 | x::xs=>if p x=true then []::splitP p xs else match splitP p xs with
   | []=> [[x]]
   | h::t=>(x::h)::t
def wordsB (p:UInt8→Bool) (l:List UInt8):List (List UInt8):=(splitP p l).filter fun x=> !x.isEmpty
def isBl (b:UInt8):Bool:=b==32 || b==10
theorem isBl_iff (b:UInt8):isBl b=true↔b=32∨b=10:=by simp [isBl]
theorem isBl_not {b:UInt8} (h:¬(b=32∨b=10)):isBl b=false:=by
 cases hb:isBl b with
 | false=>rfl
 | true=>exact absurd ((isBl_iff b).1 hb) h
theorem splitP_sep (p:UInt8→Bool):∀(u:List UInt8) (c:UInt8) (t:List UInt8),(∀x∈u,p x=false)→p c=true→splitP p (u++c::t)=u::splitP p t
 | [],c,t,_,hc=>by simp [splitP,hc]
 | x::u,c,t,hu,hc=>by
   have ih:=splitP_sep p u c t (fun y hy=>hu y (List.mem_cons_of_mem _ hy)) hc
   have hx:=hu x (List.mem_cons_self ..)
   simp [splitP,hx,ih]
theorem splitP_none (p:UInt8→Bool):∀(u:List UInt8),(∀x∈u,p x=false)→splitP p u= [u]
 | [],_=>rfl
 | x::u,hu=>by
   have ih:=splitP_none p u fun y hy=>hu y (List.mem_cons_of_mem _ hy)
   have hx:=hu x (List.mem_cons_self ..)
   simp [splitP,hx,ih]
theorem words_sep {p:UInt8→Bool} {u:List UInt8} {c:UInt8} {t:List UInt8} (hu:∀x∈u,p x=false) (h0:u≠ []) (hc:p c=true):wordsB p (u++c::t)=u::wordsB p t:=by
 unfold wordsB
 rw [splitP_sep p u c t hu hc,List.filter_cons_of_pos (by simp [h0])]
theorem words_blank {p:UInt8→Bool} {c:UInt8} {t:List UInt8} (hc:p c=true):wordsB p (c::t)=wordsB p t:=by
 unfold wordsB
 rw [show c::t= []++c::t from rfl,splitP_sep p [] c t (by simp) hc,List.filter_cons_of_neg (by simp)]
theorem words_none {p:UInt8→Bool} {u:List UInt8} (hu:∀x∈u,p x=false) (h0:u≠ []):wordsB p u= [u]:=by
 unfold wordsB
 rw [splitP_none p u hu,List.filter_cons_of_pos (by simp [h0]),List.filter_nil]
theorem words_nil (p:UInt8→Bool):wordsB p []= []:=rfl
theorem blank_rune (l:List UInt8) (hne:l≠ []) (h:(decodeL l).1=32∨(decodeL l).1=10):(decodeL l).2=1∧(l.getD 0 0=32∨l.getD 0 0=10):=by
 rw [decodeL_N] at h⊢
 have h0:=UInt8.toNat_lt (l.getD 0 0)
 have key:∀n b0 b1 b2 b3:Nat,((decodeN n b0 b1 b2 b3).1=32→(decodeN n b0 b1 b2 b3).2=1∧b0=32)∧((decodeN n b0 b1 b2 b3).1=10→(decodeN n b0 b1 b2 b3).2=1∧b0=10):=by
  intro n b0 b1 b2 b3
  unfold decodeN
  repeat' split
  all_goals (refine ⟨fun h=> ?_,fun h=> ?_⟩<;>dsimp only at h⊢<;>omega)
 rcases h with h | h
 ·obtain ⟨k1,k2⟩:=(key _ _ _ _ _).1 h
  exact ⟨k1, .inl (UInt8.toNat_inj.1 k2)⟩
 ·obtain ⟨k1,k2⟩:=(key _ _ _ _ _).2 h
  exact ⟨k1, .inr (UInt8.toNat_inj.1 k2)⟩
theorem other_rune (l:List UInt8) (hne:l≠ []) (h:¬((decodeL l).1=32∨(decodeL l).1=10)):1≤(decodeL l).2∧(decodeL l).2≤l.length∧∀j,j<(decodeL l).2→¬(l.getD j 0=32∨l.getD j 0=10):=by
 have hl:0<l.length:=List.length_pos_iff.2 hne
 have hc:=decodeN_conts l.length (l.getD 0 0).toNat (l.getD 1 0).toNat (l.getD 2 0).toNat (l.getD 3 0).toNat
 have ha:(l.getD 0 0=32∨l.getD 0 0=10)→((decodeL l).1=32∨(decodeL l).1=10):=fun e=>by
  rw [decodeL_N]
  rcases e with e | e
  ·rw [e,show (32:UInt8).toNat=32 from rfl]
   exact .inl (by unfold decodeN;rfl)
  ·rw [e,show (10:UInt8).toNat=10 from rfl]
   exact .inr (by unfold decodeN;rfl)
 rw [←decodeL_N] at hc
 obtain ⟨c2,c3,c4,c5⟩:=hc
 have hw:=decodeL_width l
 refine ⟨hw,by omega,fun j hj e=> ?_⟩
 have hlow:∀b:UInt8,(b=32∨b=10)→b.toNat≤32:=fun b hb=>by
  rcases hb with rfl | rfl<;>decide
 have hle:=hlow _ e
 match j,hj,e,hle with
 | 0,_,e,_=>exact h (ha e)
 | 1,hj,e,hle=>have:=(c2 (by omega)).1;omega
 | 2,hj,e,hle=>have:=(c3 (by omega)).1;omega
 | 3,hj,e,hle=>have:=(c4 (by omega)).1;omega
 | j+4,hj,_,_=>omega
def pcs (l:List UInt8) (acc:List (Nat×Nat)):List (List UInt8):=acc.map fun x=>(l.take x.2).drop x.1
theorem spans_words (l:List UInt8):∀(f pos:Nat) (st:Option Nat) (acc:List (Nat×Nat)),pos≤l.length→l.length≤f+pos→(∀a,st=some a→a<pos∧∀j,a≤j→j<pos→¬(l.getD j 0=32∨l.getD j 0=10))→
  pcs l (closeSpans ⟨l.toArray⟩ (spansFromP (fun r=>decide ((r:Int)=32∨(r:Int)=10)) ⟨l.toArray⟩ f pos st acc))=pcs l acc++wordsB isBl (l.drop (st.getD pos)):=by
 intro f
 have hsz:(⟨l.toArray⟩:ByteArray).size=l.length:=rfl
 have hfin:∀(st:Option Nat) (acc:List (Nat×Nat)),(∀a,st=some a→a<l.length∧∀j,a≤j→j<l.length→¬(l.getD j 0=32∨l.getD j 0=10))→pcs l (closeSpans ⟨l.toArray⟩ (acc,st))=pcs l acc++wordsB isBl (l.drop (st.getD l.length)):=by
  intro st acc hst
  cases st with
  | none=>simp [closeSpans,words_nil]
  | some a=>
    obtain ⟨h1,h2⟩:=hst a rfl
    have hne:l.drop a≠ []:=by
     intro h0
     have:=congrArg List.length h0
     rw [List.length_drop] at this
     simp at this;omega
    have hno:∀x∈l.drop a,isBl x=false:=fun x hx=>by
     obtain ⟨k,hk⟩:=List.getElem?_of_mem hx
     rw [List.getElem?_drop] at hk
     have hlt:=(List.getElem?_eq_some_iff.1 hk).1
     have:=h2 (a+k) (by omega) hlt
     simp only [List.getD,hk,Option.getD_some] at this
     exact isBl_not this
    simp only [Option.getD_some]
    rw [words_none hno hne]
    simp [closeSpans,pcs,hsz]
 induction f with
 | zero=>
   intro pos st acc hp hf hst
   have:pos=l.length:=by omega
   subst this
   exact hfin st acc hst
 | succ f ih=>
   intro pos st acc hp hf hst
   by_cases hlt:pos<l.length
   ·have hd:=decodeL_drop ⟨l.toArray⟩ pos
    have hdt:(⟨l.toArray⟩:ByteArray).data.toList=l:=rfl
    rw [hdt] at hd
    have hne:l.drop pos≠ []:=by
     intro h0
     have:=congrArg List.length h0
     rw [List.length_drop] at this
     simp at this;omega
    unfold spansFromP
    rw [hsz,if_pos hlt,←hd]
    have hcons:l.drop pos=l.getD pos 0::l.drop (pos+1):=by
     rw [List.drop_eq_getElem_cons hlt];simp [List.getD,hlt]
    by_cases hr:(decodeL (l.drop pos)).1=32∨(decodeL (l.drop pos)).1=10
    ·obtain ⟨hk,hb⟩:=blank_rune _ hne hr
     have hb':l.getD pos 0=32∨l.getD pos 0=10:=by rw [getD_dropU] at hb;simpa using hb
     have hbl:isBl (l.getD pos 0)=true:=(isBl_iff _).2 hb'
     rw [if_pos (decide_eq_true (by omega)),hk]
     cases st with
     | none=>
       show pcs l (closeSpans _ (spansFromP _ _ f (pos+1) none acc))=_
       rw [ih (pos+1) none acc hlt (by omega) (fun a h=>by cases h)]
       simp only [Option.getD_none]
       rw [hcons,words_blank hbl]
     | some a=>
       obtain ⟨h1,h2⟩:=hst a rfl
       show pcs l (closeSpans _ (spansFromP _ _ f (pos+1) none (acc++ [(a,pos)])))=_
       rw [ih (pos+1) none _ hlt (by omega) (fun a h=>by cases h)]
       simp only [Option.getD_none,Option.getD_some]
       have hsplit:l.drop a=(l.take pos).drop a++l.getD pos 0::l.drop (pos+1):=by
        rw [←hcons]
        have e:l=l.take pos++l.drop pos:=(List.take_append_drop pos l).symm
        have:l.drop a=(l.take pos++l.drop pos).drop a:=by rw [←e]
        rw [this,List.drop_append_of_le_length (by rw [List.length_take];omega)]
       have hno:∀x∈(l.take pos).drop a,isBl x=false:=fun x hx=>by
        obtain ⟨k,hk⟩:=List.getElem?_of_mem hx
        rw [List.getElem?_drop,List.getElem?_take] at hk
        split at hk
        ·have:=h2 (a+k) (by omega) (by omega)
         simp only [List.getD,hk,Option.getD_some] at this
         exact isBl_not this
        ·cases hk
       have hne2:(l.take pos).drop a≠ []:=by
        intro h0
        have:=congrArg List.length h0
        rw [List.length_drop,List.length_take] at this
        simp at this;omega
       rw [hsplit,words_sep hno hne2 hbl]
       simp [pcs]
    ·obtain ⟨k1,k2,k3⟩:=other_rune _ hne hr
     rw [List.length_drop] at k2
     have k3':∀j,pos≤j→j<pos+(decodeL (l.drop pos)).2→¬(l.getD j 0=32∨l.getD j 0=10):=fun j h1 h2=>by
      have:=k3 (j - pos) (by omega)
      rw [getD_dropU,show pos+(j - pos)=j by omega] at this
      exact this
     rw [if_neg (fun hd=>hr (by have:=of_decide_eq_true hd;omega))]
     cases st with
     | none=>
       show pcs l (closeSpans _ (spansFromP _ _ f (pos+(decodeL (l.drop pos)).2) (some pos) acc))=_
       rw [ih _ (some pos) acc (by omega) (by omega) (fun a h=>by injection h with h;subst h;exact ⟨by omega,k3'⟩)]
       rfl
     | some a=>
       obtain ⟨h1,h2⟩:=hst a rfl
       show pcs l (closeSpans _ (spansFromP _ _ f (pos+(decodeL (l.drop pos)).2) (some a) acc))=_
       rw [ih _ (some a) acc (by omega) (by omega) (fun a' h=>by
        injection h with h;subst h
        refine ⟨by omega,fun j g1 g2=> ?_⟩
        by_cases e:j<pos
        ·exact h2 j g1 e
        ·exact k3' j (by omega) g2)]
       rfl
   ·have:pos=l.length:=by omega
    subst this
    rw [spansFromP_end _ _ _ _ _ _ (by rw [hsz];omega)]
    exact hfin st acc hst
theorem fields_words (s:List UInt8):(goFieldsP (fun r=>decide ((r:Int)=32∨(r:Int)=10)) ⟨s.toArray⟩).map (fun x=>x.data.toList)=wordsB isBl s:=by
 have h:=spans_words s s.length 0 none [] (Nat.zero_le _) (Nat.le_refl _) (fun a h=>by cases h)
 simp only [Option.getD_none,List.drop_zero] at h
 have e:pcs s []++wordsB isBl s=wordsB isBl s:=rfl
 rw [e] at h
 rw [←h]
 unfold goFieldsP spansOfP pcs
 rw [List.map_map]
 refine List.map_congr_left fun x _=> ?_
 show ((⟨s.toArray⟩:ByteArray).extract x.1 x.2).data.toList=_
 simp [List.extract,List.drop_take]
theorem splitP_ne (p:UInt8→Bool) (l:List UInt8):splitP p l≠ []:=by
 cases l with
 | nil=>simp [splitP]
 | cons x xs=>
   unfold splitP
   split
   ·simp
   ·split<;>simp
theorem splitP_mem (p:UInt8→Bool):∀(l:List UInt8) (x:List UInt8),x∈splitP p l→∀b∈x,p b=false
 | [],x,h,b,hb=>by
   simp [splitP] at h;subst h;simp at hb
 | y::ys,x,h,b,hb=>by
   have ih:=splitP_mem p ys
   unfold splitP at h
   cases hy:p y with
   | true=>
     rw [hy,if_pos rfl] at h
     rcases List.mem_cons.1 h with rfl | h
     ·simp at hb
     ·exact ih x h b hb
   | false=>
     rw [hy,if_neg (by simp)] at h
     cases hs:splitP p ys with
     | nil=>exact absurd hs (splitP_ne p ys)
     | cons z t=>
       rw [hs] at h ih
       dsimp only at h
       rcases List.mem_cons.1 h with rfl | h
       ·rcases List.mem_cons.1 hb with rfl | hb
        ·exact hy
        ·exact ih z (by simp) b hb
       ·exact ih x (by simp [h]) b hb
def WordOK (p:UInt8→Bool) (x:List UInt8):Prop:=x≠ []∧∀b∈x,p b=false
theorem words_ok (p:UInt8→Bool) (l:List UInt8):∀x∈wordsB p l,WordOK p x:=fun x hx=>by
 unfold wordsB at hx
 obtain ⟨h1,h2⟩:=List.mem_filter.1 hx
 exact ⟨by rintro rfl;simp at h2,splitP_mem p l x h1⟩
def digs:Int→List UInt8→Option Int
 | a, []=>some a
 | a,c::cs=>if c.toNat<48∨57<c.toNat then none else digs (10*a+((c.toNat:Int) - 48)) cs
def numF (s:List UInt8):Option Int:=if s.length<1∨10<s.length then none else digs 0 s
def digT:List UInt8:= [48,49,50,51,52,53,54,55,56,57]
theorem digT_iff (b:UInt8):digT.contains b=true↔48≤b.toNat∧b.toNat≤57:=by
 constructor
 ·intro h
  have h2:b∈digT:=by simpa using h
  unfold digT at h2
  simp only [List.mem_cons,List.not_mem_nil,or_false] at h2
  rcases h2 with rfl | rfl | rfl | rfl | rfl | rfl | rfl | rfl | rfl | rfl<;>decide
 ·intro ⟨h1,h2⟩
  have e:b=UInt8.ofNat b.toNat:=by simp
  rw [e]
  generalize b.toNat=n at h1 h2
  have:n=48∨n=49∨n=50∨n=51∨n=52∨n=53∨n=54∨n=55∨n=56∨n=57:=by omega
  rcases this with rfl | rfl | rfl | rfl | rfl | rfl | rfl | rfl | rfl | rfl<;>decide
theorem dropWhile_nil {α:Type} (p:α→Bool):∀l:List α,l.dropWhile p= []↔∀x∈l,p x=true
 | []=>by simp
 | x::l=>by
   have ih:=dropWhile_nil p l
   cases h:p x with
   | true=>rw [List.dropWhile_cons_of_pos h,ih];simp [h]
   | false=>rw [List.dropWhile_cons_of_neg (by simp [h])];simp [h]
theorem dropWhile_head {α:Type} (p:α→Bool):∀(l:List α) (y:α) (r:List α),l.dropWhile p=y::r→p y=false
 | [],y,r,h=>by simp at h
 | x::l,y,r,h=>by
   cases hp:p x with
   | true=>rw [List.dropWhile_cons_of_pos hp] at h;exact dropWhile_head p l y r h
   | false=>rw [List.dropWhile_cons_of_neg (by simp [hp])] at h;injection h with h1 _;rw [←h1];exact hp
theorem trim_nil (s:List UInt8):Lib.trimS s digT= []↔∀b∈s,48≤b.toNat∧b.toNat≤57:=by
 have key:Lib.trimS s digT= []↔∀b∈s,digT.contains b=true:=by
  unfold Lib.trimS Lib.trimLeftS Lib.trimRightS
  rw [dropWhile_nil]
  cases hd:s.reverse.dropWhile (digT.contains ·) with
  | nil=>
    have:=(dropWhile_nil _ _).1 hd
    simp only [List.mem_reverse] at this
    simp only [List.reverse_nil,List.not_mem_nil,false_implies,implies_true,true_iff]
    exact this
  | cons y r=>
    have hy:=dropWhile_head _ _ _ _ hd
    constructor
    ·intro h
     have:=h y (by simp)
     rw [hy] at this;cases this
    ·intro h
     have hm:y∈s.reverse.dropWhile (digT.contains ·):=by rw [hd];simp
     have:=h y (by
      have:=(List.dropWhile_sublist _).subset hm
      simpa using this)
     rw [hy] at this;cases this
 rw [key]
 exact ⟨fun h b hb=>(digT_iff b).1 (h b hb),fun h b hb=>(digT_iff b).2 (h b hb)⟩
theorem digs_none:∀(s:List UInt8) (a:Int),digs a s=none↔¬∀b∈s,48≤b.toNat∧b.toNat≤57
 | [],a=>by simp [digs]
 | c::cs,a=>by
   have ih:=digs_none cs
   unfold digs
   split
   ·rename_i h
    simp only [List.mem_cons,forall_eq_or_imp,true_iff]
    intro hh;omega
   ·rename_i h
    rw [ih]
    simp only [List.mem_cons,forall_eq_or_imp]
    constructor
    ·intro h1 h2;exact h1 h2.2
    ·intro h1 h2;exact h1 ⟨by omega,h2⟩
theorem digs_dec:∀(s:List UInt8) (a:Nat) (n:Int),digs a s=some n→∃m:Nat,n=m∧Lib.decFrom a s=some m∧m<(a+1)*10 ^ s.length
 | [],a,n,h=>by
   simp only [digs,Option.some.injEq] at h
   exact ⟨a,h.symm,rfl,by simp⟩
 | c::cs,a,n,h=>by
   unfold digs at h
   split at h
   ·cases h
   ·rename_i hc
    have e:10*(a:Int)+((c.toNat:Int) - 48)=((a*10+(c.toNat - 48):Nat):Int):=by omega
    rw [e] at h
    obtain ⟨m,h1,h2,h3⟩:=digs_dec cs _ n h
    refine ⟨m,h1, ?_, ?_⟩
    ·unfold Lib.decFrom Lib.digitVal
     rw [if_pos (by omega)]
     exact h2
    ·rw [List.length_cons,Nat.pow_succ]
     have h4:a*10+(c.toNat - 48)+1≤(a+1)*10:=by omega
     have h5:=Nat.mul_le_mul_right (10 ^ cs.length) h4
     have h6:(a+1)*10*10 ^ cs.length=(a+1)*(10 ^ cs.length*10):=by rw [Nat.mul_assoc,Nat.mul_comm 10]
     omega
theorem num_atoi {s:List UInt8} {n:Int} (h:numF s=some n):Lib.atoi s=some n∧0≤n∧n<10000000000:=by
 unfold numF at h
 split at h
 ·cases h
 rename_i hl
 obtain ⟨m,h1,h2,h3⟩:=digs_dec s 0 n h
 have hall:∀b∈s,48≤b.toNat∧b.toNat≤57:=Classical.byContradiction fun hc=>by
  rw [(digs_none s 0).2 hc] at h;cases h
 cases s with
 | nil=>simp at hl
 | cons b r=>
   have hb:=hall b (by simp)
   have hp:10 ^ (b::r).length≤10 ^ 10:=Nat.pow_le_pow_right (by decide) (by omega)
   refine ⟨?_,by omega, ?_⟩
   ·show (if b==45 then (Lib.decNat r).map (fun (m:Nat)=> -(m:Int)) else if b==43 then (Lib.decNat r).map (fun (m:Nat)=>(m:Int)) else (Lib.decNat (b::r)).map fun (m:Nat)=>(m:Int))=some n
    rw [if_neg (by intro e;have:=eq_of_beq e;subst this;revert hb;decide),if_neg (by intro e;have:=eq_of_beq e;subst this;revert hb;decide)]
    unfold Lib.decNat
    rw [show (b::r).isEmpty=false from rfl,if_neg (by decide)]
    have h2':Lib.decFrom 0 (b::r)=some m:=h2
    rw [h2',h1];rfl
   ·have e10:(10:Nat) ^ 10=10000000000:=by decide
    omega
theorem num_none (s:List UInt8):numF s=none↔s.length=0∨10<s.length∨Lib.trimS s digT≠ []:=by
 unfold numF
 by_cases h:s.length<1∨10<s.length
 ·rw [if_pos h]
  simp only [true_iff]
  rcases h with h | h
  ·exact .inl (by omega)
  ·exact .inr (.inl h)
 ·rw [if_neg h,digs_none]
  rw [ne_eq,trim_nil]
  constructor
  ·exact fun h2=> .inr (.inr h2)
  ·rintro (h2 | h2 | h2)
   ·omega
   ·omega
   ·exact h2
def splitC (c:UInt8):List UInt8→List (List UInt8)
 | []=> [[]]
 | x::xs=>if x=c then []::splitC c xs else match splitC c xs with
   | []=> [[x]]
   | h::t=>(x::h)::t
theorem splitC_len (c:UInt8):∀s:List UInt8,(splitC c s).length≤s.length+1∧∀x∈splitC c s,x.length≤s.length
 | []=>by simp [splitC]
 | x::xs=>by
   have ih:=splitC_len c xs
   unfold splitC
   split
   ·refine ⟨by simp;omega,fun y hy=> ?_⟩
    rcases List.mem_cons.1 hy with rfl | hy
    ·simp
    ·have:=ih.2 y hy;simp;omega
   ·split
    ·simp
    ·rename_i h t e
     rw [e] at ih
     refine ⟨by simp at ih⊢;omega,fun y hy=> ?_⟩
     rcases List.mem_cons.1 hy with rfl | hy
     ·have:=ih.2 h (by simp);simp;omega
     ·have:=ih.2 y (by simp [hy]);simp;omega
theorem index_cons_eq (c:UInt8) (l:List UInt8):Lib.index (c::l) [c]=0:=by rw [Lib.index];simp [List.isPrefixOf]
theorem index_cons_ne (b c:UInt8) (l:List UInt8) (h:b≠c):Lib.index (b::l) [c]=if Lib.index l [c]== -1 then -1 else Lib.index l [c]+1:=by
 have hp:([c]:List UInt8).isPrefixOf (b::l)=false:=by simp [List.isPrefixOf,Ne.symm h]
 rw [Lib.index,hp];simp
theorem splitK_C (c:UInt8):∀s:List UInt8,Lib.splitK [c] 0 (Lib.count s [c]) s=splitC c s
 | []=>by rw [Lib.count_one];rfl
 | b::l=>by
   have ih:=splitK_C c l
   have hge:=Lib.index_ge l [c]
   by_cases h:b=c
   ·subst h
    rw [Lib.count_cons_eq,Nat.add_comm,Lib.splitK,index_cons_eq]
    simp only [splitC,if_pos]
    have e:((0:Int)== -1)=false:=by decide
    rw [e]
    simpa using ih
   ·rw [Lib.count_cons_ne b c l h]
    unfold splitC
    rw [if_neg h,←ih]
    by_cases hm:Lib.index l [c]= -1
    ·rw [Lib.count_miss hm]
     rfl
    ·obtain ⟨j,hj⟩:∃j:Nat,Lib.index l [c]=j:=⟨(Lib.index l [c]).toNat,by omega⟩
     rw [Lib.count_hit (by simp) hj,Nat.add_comm,Lib.splitK,Lib.splitK,index_cons_ne b c l h,hj]
     have e1:((j:Int)== -1)=false:=beq_eq_false_iff_ne.2 (by omega)
     have e2:(((j:Int)+1)== -1)=false:=beq_eq_false_iff_ne.2 (by omega)
     have e3:((j:Int)+1).toNat=j+1:=by omega
     have e4:(j:Int).toNat=j:=by omega
     rw [e1]
     simp only [Bool.false_eq_true,if_false]
     rw [e2]
     simp only [Bool.false_eq_true,if_false,e3,e4,Nat.add_zero]
     simp [Nat.add_assoc,Nat.add_comm 1 1]
def wRank:List UInt8:= [114,97,110,107]
def wLeast:List UInt8:= [108,101,97,115,116]
def wMost:List UInt8:= [109,111,115,116]
def wUp:List UInt8:= [117,112]
def wDown:List UInt8:= [100,111,119,110]
def wDays:List UInt8:= [100,97,121,115]
def wAbove:List UInt8:= [97,98,111,118,101]
def wBelow:List UInt8:= [98,101,108,111,119]
def kindOf (w:List UInt8):Int:=if w=wLeast then 1 else if w=wMost then 2 else if w=wUp then 3 else if w=wDown then 4 else 0
def badC (c:Cd):Prop:=¬(0≤c.v∧c.v≤1073741824)∨¬((0≤c.f∧c.f≤364)∧0≤c.u∧c.u≤364)∨¬(0≤c.a∧c.a≤16777216)∨¬(0≤c.b∧c.b≤16777216)∨c.b<c.a
instance (c:Cd):Decidable (badC c):=by unfold badC;infer_instance
def oneC (c:Cd):Int:=if c.r<1∨9<c.r then 1 else if c.k<1∨4<c.k then 5 else if badC c then 1 else 0
theorem oneC_ok {c:Cd} (h:oneC c=0):(1≤c.r∧c.r≤9)∧(1≤c.k∧c.k≤4)∧¬badC c:=by
 unfold oneC at h
 split at h
 ·cases h
 split at h
 ·cases h
 split at h
 ·cases h
 ·exact ⟨by omega,by omega,by assumption⟩
def c56:C:=(sr [kk 4 (.mv cf)] (sr [km 5 0,kb 6 .geq 5 (cn 0),km 7 6,kg 8 7 true (.mv 0),kg 9 7 true (.mv 1),kg 10 7 true (.bi false .leq 8 9),kk 11 (.pick 7 10 cf),km 4 11] .ret))
theorem fits56:fits Tryz.prog false Tryz.f56 2 12 [(4,none)]=some c56.er:=by kernel_rfl
def c139:C:=(sr [kk 2 (.mv cf)] (sr [km 3 0,kc 4 56 [3,(cn 364)],km 2 4] .ret))
theorem fits139:fits Tryz.prog false Tryz.f139 1 5 [(2,none)]=some c139.er:=by kernel_rfl
def c137:C:=(sr [kk 1 (.bx 2 0),kk 2 (.mv cf)] (sr [kf 3 0 1,kl 4 3,kc 5 139 [4],km 6 5,kg 7 6 true (.fa 1 1),kg 8 6 true (.ld 1 false 7),kg 9 6 true (cl 139 [8]),kk 10 (.pick 6 9 cf),km 2 10] .ret))
theorem fits137:fits Tryz.prog false Tryz.f137 1 11 [(2,none)]=some c137.er:=by kernel_rfl
def c136:C:=(sr [kk 2 (.mv cf)] (sr [km 3 0,kc 4 56 [3,(cn 16777216)],km 2 4] .ret))
theorem fits136:fits Tryz.prog false Tryz.f136 1 5 [(2,none)]=some c136.er:=by kernel_rfl
def c70:C:=(sr [kk 1 (.bx 7 0),kk 2 (.mv (cn 0))] (sr [kk 3 (.mv (.c (.fn (.func 136) [] [])))] (.seq (.block 0 (sr [kf 5 0 1,kl 6 5,kb 7 .lss 6 (cn 1),km 8 7,kg 9 8 false (.fa 0 1),kg 10 8 false (.ld 1 false 9),kg 11 8 false (.bi false .gtr 10 (cn 9)),kk 12 (.pick 8 ct 11),km 4 12] (.cond 4 (sr [kk 2 (.mv (cn 1))] .ret) (sr [kf 14 1 1,kl 15 14,kb 16 .lss 15 (cn 1),km 17 16,kg 18 17 false (.fa 1 1),kg 19 17 false (.ld 1 false 18),kg 20 17 false (.bi false .gtr 19 (cn 4)),kk 21 (.pick 17 ct 20),km 13 21] (.cond 13 (sr [kk 2 (.mv (cn 5))] .ret) (sr [kf 23 2 1,kl 24 23,kc 25 56 [24,(cn 1073741824)],kk 26 (.un false .not 25),km 27 26,kg 28 27 false (.fa 3 1),kg 29 27 false (.ld 2 true 28),kg 30 27 false (cl 137 [29]),kg 31 27 false (.un false .not 30),kk 32 (.pick 27 ct 31),km 33 32,kg 34 33 false (.mv 3),kg 35 33 false (.fa 5 1),kg 36 33 false (.ld 1 false 35),kg 37 33 false (.call 34 [36]),kg 38 33 false (.un false .not 37),kk 39 (.pick 33 ct 38),km 40 39,kg 41 40 false (.mv 3),kg 42 40 false (.fa 6 1),kg 43 40 false (.ld 1 false 42),kg 44 40 false (.call 41 [43]),kg 45 40 false (.un false .not 44),kk 46 (.pick 40 ct 45),km 47 46,kg 48 47 false (.fa 5 1),kg 49 47 false (.ld 1 false 48),kg 50 47 false (.fa 6 1),kg 51 47 false (.ld 1 false 50),kg 52 47 false (.bi false .gtr 49 51),kk 53 (.pick 47 ct 52),km 22 53] (.cond 22 (sr [kk 2 (.mv (cn 1))] .ret) .skip))))))) (sr [kk 2 (.mv (cn 0))] .ret))))
theorem fits70:fits Tryz.prog false Tryz.f70 1 54 [(2,none)]=some c70.er:=by kernel_rfl
def c62L1:C:=(sr [kb 12 .lss 11 10] (.seq (.cond 12 .skip (.exit 0)) (.seq (.block 1 (sr [ki 13 7 9 11,kt 14 7 13,kk 4 (.al [z0,z0,z0,z0,z0,z0,z0]),kx 7 4 14] (sr [kt 15 7 4,kc 16 70 [15],km 5 16] (sr [km 17 5,kb 18 .neq 17 (cn 0)] (.cond 18 (sr [km 19 5,km 2 19] .ret) .skip))))) (.reg [kb 20 .add 11 (cn 1),km 11 20]))))
def c62:C:=(sr [kk 2 (.mv (cn 0))] (.seq (sr [km 6 0,kk 7 (.len 6),kb 8 .gtr 7 (cn 200)] (.cond 8 (sr [kk 2 (.mv (cn 10))] .ret) .skip)) (.seq (sr [km 9 0,kk 10 (.len 9),kk 11 (.mv (cn 0))] (.block 0 (.loop c62L1))) (sr [kk 2 (.mv (cn 0))] .ret))))
theorem fits62:fits Tryz.prog false Tryz.f62 1 21 [(2,none)]=some c62.er:=by kernel_rfl
def wi (n m:Int):Bool:=decide (0≤n)&&decide (n≤m)
theorem call56 (n m:Int):PureCall Tryz.prog 56 [.int .i64 n, .int .i64 m] [] ⟨.bool (wi n m), [], []⟩:=by
 refine pure_call mix Tryz.func56 fits56 rfl ?_
 conv=>whnf
 refine ⟨?_, [], ?_⟩
 ·exact g0
 conv=>whnf
 refine ⟨rfl, ?_,trivial,trivial⟩
 show PLe _ _ _ _
 conv=>whnf
 unfold wi
 cases decide (0≤n)<;>rfl
theorem call139 (n:Int):PureCall Tryz.prog 139 [.int .i64 n] [] ⟨.bool (wi n 364), [], []⟩:=by
 refine pure_call mix Tryz.func139 fits139 rfl ?_
 conv=>whnf
 refine ⟨_,fun _=>call56 n 364, ?_⟩
 conv=>whnf
 exact ret
theorem call137 (f u:Int):PureCall Tryz.prog 137 [.agg [.int .i64 f, .int .i64 u]] [] ⟨.bool (wi f 364&&wi u 364), [], []⟩:=by
 refine pure_call mix Tryz.func137 fits137 rfl ?_
 conv=>whnf
 refine ⟨_,fun _=>call139 f, ?_⟩
 conv=>whnf
 refine ⟨_,fun _=>call139 u, ?_⟩
 conv=>whnf
 refine ⟨?_, [], ?_⟩
 ·exact g0
 conv=>whnf
 refine ⟨rfl, ?_,trivial,trivial⟩
 show PLe _ _ _ _
 conv=>whnf
 cases wi f 364<;>rfl
theorem call136 (n:Int):PureCall Tryz.prog 136 [.int .i64 n] [] ⟨.bool (wi n 16777216), [], []⟩:=by
 refine pure_call mix Tryz.func136 fits136 rfl ?_
 conv=>whnf
 refine ⟨_,fun _=>call56 n 16777216, ?_⟩
 conv=>whnf
 exact ret
theorem wi_iff (n m:Int):wi n m=true↔0≤n∧n≤m:=by simp [wi]
theorem bad_test (c:Cd):(bif bif bif bif !wi c.v 1073741824 then true else !(wi c.f 364&&wi c.u 364) then true else !wi c.a 16777216 then true else !wi c.b 16777216 then true else decide (c.b<c.a))=decide (badC c):=by
 have h1:=wi_iff c.v 1073741824
 have h2:=wi_iff c.f 364
 have h3:=wi_iff c.u 364
 have h4:=wi_iff c.a 16777216
 have h5:=wi_iff c.b 16777216
 rw [Bool.eq_iff_iff,decide_eq_true_iff]
 unfold badC
 rw [←h1,←h2,←h3,←h4,←h5]
 cases wi c.v 1073741824<;>cases wi c.f 364<;>cases wi c.u 364<;>cases wi c.a 16777216<;>cases wi c.b 16777216<;>simp
theorem call70 (c:Cd):PureCall Tryz.prog 70 [.agg (eCd c)] [] ⟨.int .i64 (oneC c), [], []⟩:=by
 refine pure_call mix Tryz.func70 fits70 rfl ?_
 unfold oneC
 conv=>whnf
 refine ⟨?_,fun hc=> ?_,fun hc=> ?_⟩
 ·exact g0
 ·simp only [bp] at hc
  rw [if_pos (by omega)]
  conv=>whnf
  exact ret
 simp only [bp] at hc
 rw [if_neg (by omega)]
 conv=>whnf
 refine ⟨?_,fun hc=> ?_,fun hc=> ?_⟩
 ·exact g0
 ·simp only [bp] at hc
  rw [if_pos (by omega)]
  conv=>whnf
  exact ret
 simp only [bp] at hc
 rw [if_neg (by omega)]
 conv=>whnf
 refine ⟨_,fun _=>call56 c.v 1073741824, ?_⟩
 conv=>whnf
 refine ⟨_,fun _=>call137 c.f c.u, ?_⟩
 conv=>whnf
 refine ⟨_,fun _=>call136 c.a, ?_⟩
 conv=>whnf
 refine ⟨_,fun _=>call136 c.b, ?_⟩
 conv=>whnf
 refine ⟨?_,fun hc=> ?_,fun hc=> ?_⟩
 ·exact g0
 ·have hb:badC c:=of_decide_eq_true ((bad_test c).symm.trans hc)
  rw [if_pos hb]
  conv=>whnf
  exact ret
 ·have hb:¬badC c:=of_decide_eq_false ((bad_test c).symm.trans hc)
  rw [if_neg hb]
  conv=>whnf
  exact ret
def allC:List Cd→Int
 | []=>0
 | c::l=>if oneC c≠0 then oneC c else allC l
def limC (l:List Cd):Int:=if 200<l.length then 10 else allC l
theorem allC_drop {l:List Cd} {i:Nat} (h:i<l.length):allC (l.drop i)=if oneC (l.getD i default)≠0 then oneC (l.getD i default) else allC (l.drop (i+1)):=by
 rw [List.drop_eq_getElem_cons h]
 have:l.getD i default=l[i]:=by simp [List.getD,h]
 rw [this];rfl
theorem call62 (τ:Nat) (l:List Cd):PureCall Tryz.prog 62 [.sl τ 7 l.length (fl eCd l)] [] ⟨.int .i64 (limC l), [], []⟩:=by
 refine pure_call mix Tryz.func62 fits62 rfl ?_
 unfold limC
 conv=>whnf
 refine ⟨?_,fun hc=> ?_,fun hc=> ?_⟩
 ·exact g0
 ·simp only [bp] at hc
  rw [if_pos (by omega)]
  conv=>whnf
  exact ret
 simp only [bp] at hc
 rw [if_neg (by omega)]
 conv=>whnf
 refine ⟨trivial, ?_⟩
 refine LSem.loop (n:=21) mix (α:=Nat) (fun i=>i≤l.length∧allC (l.drop i)=allC l)
  (fun i=> [(9, .sl τ 7 l.length (fl eCd l)),(10, .int .i64 l.length),(11, .int .i64 i)])
  (fun i=> []) (fun i=>l.length - i) 0 ?_ ?_ ?_
 ·exact ⟨Nat.zero_le _,rfl⟩
 ·refine ⟨rfl,rfl, ?_, ?_⟩<;>exact ent
 ·rintro i ⟨hi,hp⟩
  have hj:((i:Int)).toNat=i:=by omega
  conv=>whnf
  refine ⟨trivial,fun hc=> ?_,fun hc=> ?_⟩
  ·replace hc:=of_decide_eq_true hc
   have hlt:i<l.length:=by
    have h:(i:Int)<l.length:=hc
    omega
   rw [allC_drop hlt] at hp
   conv=>whnf
   rw [hj]
   refine ⟨_,fun _=>call70 (l.getD i default), ?_⟩
   generalize oneC (l.getD i default)=e at hp⊢
   conv=>whnf
   refine ⟨?_,fun h=> ?_,fun h=> ?_⟩
   ·exact g0
   ·simp only [bp] at h
    rw [if_pos h] at hp
    rw [←hp]
    conv=>whnf
    exact ret
   ·simp only [bp] at h
    rw [if_neg (by omega)] at hp
    conv=>whnf
    refine ⟨?_,i+1,⟨hlt,hp⟩,by omega,rfl,rfl, ?_, ?_⟩
    ·exact g0
    ·exact ent
    ·exact ent
  ·replace hc:=of_decide_eq_false hc
   have hk:i=l.length:=by
    have h:¬(i:Int)<l.length:=hc
    omega
   subst hk
   rw [List.drop_length] at hp
   rw [←show (0:Int)=allC l from hp]
   conv=>whnf
   exact ret
def c197:C:=(sr [kk 2 (.bx 2 0),kk 4 (.mv cf)] (.seq (sr [kt 5 2 2,kc 6 137 [5],kk 7 (.un false .not 6),km 8 7,kg 9 8 false (.mv 1),kg 10 8 false (cl 139 [9]),kg 11 8 false (.un false .not 10),kk 12 (.pick 8 ct 11)] (.cond 12 (sr [kk 4 (.mv cf)] .ret) .skip)) (.seq (sr [kf 13 0 2,kl 14 13,kf 15 1 2,kl 16 15,kb 17 .leq 14 16] (.cond 17 (sr [kf 18 0 2,kl 19 18,km 20 1,kb 21 .leq 19 20,km 22 21,kg 23 22 true (.mv 1),kg 24 22 true (.fa 1 2),kg 25 22 true (.ld 1 false 24),kg 26 22 true (.bi false .leq 23 25),kk 27 (.pick 22 26 cf),km 4 27] .ret) .skip)) (sr [km 28 1,kf 29 0 2,kl 30 29,kb 31 .geq 28 30,km 32 31,kg 33 32 false (.mv 1),kg 34 32 false (.fa 1 2),kg 35 32 false (.ld 1 false 34),kg 36 32 false (.bi false .leq 33 35),kk 37 (.pick 32 ct 36),km 4 37] .ret))))
theorem fits197:fits Tryz.prog false Tryz.f197 2 38 [(4,none)]=some c197.er:=by kernel_rfl
def c144:C:=(sr [kk 3 (.bx 7 0),kk 6 (.mv cf)] (sr [kt 7 7 3,kc 8 70 [7],kb 9 .eql 8 (cn 0),km 10 9,kg 11 10 true (.fa 3 3),kg 12 10 true (.ld 2 true 11),kg 13 10 true (.mv 1),kg 14 10 true (cl 197 [12,13]),kk 15 (.pick 10 14 cf),km 16 15,kg 17 16 true (.mv 2),kg 18 16 true (.fa 5 3),kg 19 16 true (.ld 1 false 18),kg 20 16 true (.bi false .geq 17 19),kk 21 (.pick 16 20 cf),km 22 21,kg 23 22 true (.mv 2),kg 24 22 true (.fa 6 3),kg 25 22 true (.ld 1 false 24),kg 26 22 true (.bi false .leq 23 25),kk 27 (.pick 22 26 cf),km 6 27] .ret))
theorem fits144:fits Tryz.prog false Tryz.f144 3 28 [(6,none)]=some c144.er:=by kernel_rfl
def c143:C:=(sr [kk 5 (.mv cf)] (.seq (.drw [kl 6 1,km 7 0,ki 8 7 6 7,kt 9 7 8,kl 10 2,kl 11 3,kc 12 144 [9,10,11],kk 13 (.un false .not 12),km 5 13] (pl [(0,[1,4,5],6),(1,[4,5],7),(2,[4,5],8),(3,[4,5],9),(4,[5],10)])) .ret))
theorem fits143:fits Tryz.prog false Tryz.f143 4 14 [(5,none)]=some c143.er:=by kernel_rfl
def c142L1:C:=(sr [kb 8 .lss 7 6] (.seq (.cond 8 .skip (.exit 0)) (.seq (.block 1 (sr [km 9 7,km 4 9] (.reg [km 10 3,km 11 4,kk 12 (.bs 3 1 [11]),kk 13 (.app 3 1 8 10 12),km 3 13]))) (.reg [kb 14 .add 7 (cn 1),km 7 14]))))
def c142:C:=(sr [kk 1 (.bx 1 0),kk 2 (.mv (.c (.nil 1)))] (sr [kk 3 (.mv (.c (.nil 1)))] (.seq (sr [kl 5 1,kk 6 (.len 5),kk 7 (.mv (cn 0))] (.block 0 (.loop c142L1))) (sr [km 15 3,kk 16 (.mf (.func 196) [] [1]),kc 17 195 [15,16]] (sr [km 18 3,km 2 18] .ret)))))
theorem fits142:fits Tryz.prog false Tryz.f142 1 19 [(2,none)]=some c142.er:=by kernel_rfl
def c122L1:C:=(sr [kb 9 .lss 8 7] (.seq (.cond 9 .skip (.exit 0)) (.seq (.block 1 (sr [km 10 8,km 5 10] (sr [km 11 1,km 12 0,km 13 5,ki 14 1 12 13,kl 15 14,kk 16 (.call 11 [15])] (.cond 16 (sr [km 17 5,km 4 17] .ret) .skip)))) (.reg [kb 18 .add 8 (cn 1),km 8 18]))))
def c122:C:=(sr [kk 4 (.mv (cn 0))] (.seq (sr [km 6 0,kk 7 (.len 6),kk 8 (.mv (cn 0))] (.block 0 (.loop c122L1))) (sr [kk 4 (.mv (cn (-1)))] .ret)))
theorem fits122:fits Tryz.prog false Tryz.f122 2 19 [(4,none)]=some c122.er:=by kernel_rfl
def inSp (f u d:Int):Bool:=(wi f 364&&wi u 364)&&wi d 364&&(if f≤u then decide (f≤d)&&decide (d≤u) else decide (f≤d) || decide (d≤u))
theorem call197 (f u d:Int):PureCall Tryz.prog 197 [.agg [.int .i64 f, .int .i64 u], .int .i64 d] [] ⟨.bool (inSp f u d), [], []⟩:=by
 refine pure_call mix Tryz.func197 fits197 rfl ?_
 conv=>whnf
 refine ⟨_,fun _=>call137 f u, ?_⟩
 conv=>whnf
 refine ⟨_,fun _=>call139 d, ?_⟩
 conv=>whnf
 refine ⟨?_,fun hc=> ?_,fun hc=> ?_⟩
 ·exact g0
 ·have h:inSp f u d=false:=by
    unfold inSp
    revert hc
    cases wi f 364<;>cases wi u 364<;>cases wi d 364<;>simp
  rw [h]
  conv=>whnf
  refine ⟨?_, [], ?_⟩
  ·exact g0
  conv=>whnf
  refine ⟨rfl, ?_,trivial,trivial⟩
  all_goals exact ent
 have hv:((wi f 364&&wi u 364)&&wi d 364)=true:=by
  revert hc
  cases wi f 364<;>cases wi u 364<;>cases wi d 364<;>simp
 conv=>whnf
 refine ⟨?_,fun hc=> ?_,fun hc=> ?_⟩
 ·exact g0
 ·have h:inSp f u d=(bif decide (f≤d) then decide (d≤u) else false):=by
    unfold inSp
    rw [hv,if_pos (of_decide_eq_true hc)]
    cases decide (f≤d)<;>rfl
  rw [h]
  conv=>whnf
  refine ⟨?_, [], ?_⟩
  ·exact g0
  conv=>whnf
  refine ⟨rfl, ?_,trivial,trivial⟩
  all_goals exact ent
 ·have h:inSp f u d=(bif decide (f≤d) then true else decide (d≤u)):=by
    unfold inSp
    rw [hv,if_neg (of_decide_eq_false hc)]
    cases decide (f≤d)<;>rfl
  rw [h]
  conv=>whnf
  refine ⟨?_, [], ?_⟩
  ·exact g0
  conv=>whnf
  refine ⟨rfl, ?_,trivial,trivial⟩
  all_goals exact ent
def applB (c:Cd) (day level:Int):Bool:=bif bif bif decide (oneC c=0) then inSp c.f c.u day else false then decide (c.a≤level) else false then decide (level≤c.b) else false
theorem call144 (c:Cd) (day level:Int):PureCall Tryz.prog 144 [.agg (eCd c), .int .i64 day, .int .i64 level] [] ⟨.bool (applB c day level), [], []⟩:=by
 refine pure_call mix Tryz.func144 fits144 rfl ?_
 conv=>whnf
 refine ⟨_,fun _=>call70 c, ?_⟩
 conv=>whnf
 refine ⟨_,fun _=>call197 c.f c.u day, ?_⟩
 conv=>whnf
 refine ⟨?_, [], ?_⟩
 ·exact g0
 conv=>whnf
 refine ⟨rfl, ?_,trivial,trivial⟩
 all_goals exact ent
def goneB (l:List Cd) (day level i:Int):Bool:= !applB (l.getD i.toNat default) day level
theorem call143 (σ σ' τ:Nat) (l:List Cd) (hl:l.length≤4611686018427387904) (day level i:Int) (hi:0≤i∧i<l.length):
  PureCall Tryz.prog 143 [.int .i64 i, .rp σ [.sl τ 7 l.length (fl eCd l)], .rp σ' [.int .i64 day], .rp σ' [.int .i64 level]] [] ⟨.bool (goneB l day level i), [], []⟩:=by
 unfold goneB
 refine pure_call mix Tryz.func143 fits143 rfl ?_
 conv=>whnf
 refine ⟨_,fun _=>call144 (l.getD i.toNat default) day level, ?_⟩
 conv=>whnf
 refine ⟨rfl, ?_⟩
 conv=>whnf
 refine ⟨?_, [], ?_⟩
 ·exact g0
 conv=>whnf
 refine ⟨rfl, ?_,trivial,trivial⟩
 all_goals exact ent
def ordF (l:List Cd):Nat→Int:=insN (rkC l) (fun k=>(k:Int)) l.length
theorem call142 (l:List Cd) (hl:l.length<20):PureCall Tryz.prog 142 [.sl 2 7 l.length (fl eCd l)] [] ⟨.os 1000000000, [], [.row 0 3 1 l.length (eR (ordF l))]⟩:=by
 refine pure_call mix Tryz.func142 fits142 rfl ?_
 conv=>whnf
 refine ⟨trivial, ?_⟩
 refine LSem.adopt 3 1000000 3 1 1 rfl rfl ?_
 refine LSem.loop (n:=19) mix (α:=Nat) (fun i=>i≤l.length)
  (fun i=> [(1, .pt 16 0 0),(3, .os 1000000),(6, .int .i64 l.length),(7, .int .i64 i)])
  (fun i=> [(16, .box [.sl 2 7 l.length (fl eCd l)]),(1000000, .row 0 3 1 i (eR (fun k=>(k:Int))))]) (fun i=>l.length - i) 0 ?_ ?_ ?_
 ·exact Nat.zero_le _
 ·refine ⟨rfl,rfl, ?_, ?_⟩
  all_goals exact ent
 ·intro i hi
  conv=>whnf
  refine ⟨trivial,fun hc=> ?_,fun hc=> ?_⟩
  ·replace hc:=of_decide_eq_true hc
   conv=>whnf
   refine ⟨?_,i+1,by omega,by omega,rfl,rfl, ?_, ?_⟩
   ·exact g0
   all_goals repeat' (first | exact True.intro | refine leF_cons rfl ?_ ?_ | refine leS_cons rfl ?_ ?_ | (show PLe _ _ _ _;conv=>whnf) | (show SLe _ _ _ _;conv=>whnf) | (show PLeL _ _ _ _;conv=>whnf) | apply And.intro | rfl | exact Nat.le_refl _ | exact fun _ _=>rfl | exact rowEq0 _ _)
   all_goals
    intro k hk
    unfold appF
    by_cases hki:k<i
    ·rw [if_pos hki]
    ·rw [if_neg hki]
     have:k=i:=by simp at hk;omega
     subst this
     simp [eR]
  ·replace hc:=of_decide_eq_false hc
   have:i=l.length:=by omega
   subst this
   conv=>whnf
   refine ⟨_,fun _=>call195 _ _ l (by omega) l.length hl (fun k=>(k:Int)) (fun k hk=>by omega), ?_⟩
   conv=>whnf
   refine ⟨?_, [1000000], ?_⟩
   ·exact g0
   conv=>whnf
   refine ⟨rfl, ?_,trivial, ?_⟩
   all_goals exact ent
def ixF (p:Int→Bool) (g:Nat→Int):Nat→Nat→Int
 | _,0=> -1
 | i,n+1=>if p (g i)=true then i else ixF p g (i+1) n
theorem ixF_neg {p:Int→Bool} {g:Nat→Int}:∀{n i:Nat},ixF p g i n<0→∀j,i≤j→j<i+n→p (g j)=false
 | 0,i,_,j,h1,h2=>by omega
 | n+1,i,h,j,h3,h4=>by
   unfold ixF at h
   by_cases hp:p (g i)=true
   ·rw [if_pos hp] at h;omega
   ·rw [if_neg hp] at h
    by_cases e:j=i
    ·rw [e];simpa using hp
    ·exact ixF_neg h j (by omega) (by omega)
theorem ixF_pos {p:Int→Bool} {g:Nat→Int}:∀{n i:Nat},0≤ixF p g i n→∃k:Nat,ixF p g i n=k∧i≤k∧k<i+n∧p (g k)=true∧∀j,i≤j→j<k→p (g j)=false
 | 0,i,h=>by simp [ixF] at h
 | n+1,i,h=>by
   unfold ixF at h⊢
   by_cases hp:p (g i)=true
   ·rw [if_pos hp];exact ⟨i,rfl,by omega,by omega,hp,fun j h1 h2=>by omega⟩
   ·rw [if_neg hp] at h⊢
    obtain ⟨k,h1,h2,h3,h4,h5⟩:=ixF_pos h
    refine ⟨k,h1,by omega,by omega,h4,fun j h6 h7=> ?_⟩
    by_cases e:j=i
    ·rw [e];simpa using hp
    ·exact h5 j (by omega) h7
theorem call122 (ρ σ τ:Nat) (l:List Cd) (hl:l.length≤4611686018427387904) (day level:Int) (n:Nat) (hn:n≤4611686018427387904) (g:Nat→Int) (hg:∀k,k<n→0≤g k∧g k<l.length):
  PureCall Tryz.prog 122 [.sl ρ 1 n (eR g), .fn (.func 143) [] [.rp σ [.sl τ 7 l.length (fl eCd l)], .rp σ [.int .i64 day], .rp σ [.int .i64 level]]] [] ⟨.int .i64 (ixF (goneB l day level) g 0 n), [], []⟩:=by
 refine pure_call mix Tryz.func122 fits122 rfl ?_
 conv=>whnf
 refine ⟨trivial, ?_⟩
 refine LSem.loop (n:=19) mix (α:=Nat) (fun i=>i≤n∧ixF (goneB l day level) g i (n - i)=ixF (goneB l day level) g 0 n)
  (fun i=> [(0, .sl ρ 1 n (eR g)),(1, .fn (.func 143) [] [.rp σ [.sl τ 7 l.length (fl eCd l)], .rp σ [.int .i64 day], .rp σ [.int .i64 level]]),(7, .int .i64 n),(8, .int .i64 i)])
  (fun i=> []) (fun i=>n - i) 0 ?_ ?_ ?_
 ·exact ⟨Nat.zero_le _,rfl⟩
 ·refine ⟨rfl,rfl, ?_, ?_⟩
  all_goals exact ent
 ·intro i hi
  obtain ⟨hi,hs⟩:=hi
  have hj:((i:Int)).toNat=i:=by omega
  conv=>whnf
  refine ⟨trivial,fun hc=> ?_,fun hc=> ?_⟩
  ·replace hc:=of_decide_eq_true hc
   have hlt:i<n:=by omega
   have hst:ixF (goneB l day level) g i (n - i)=if goneB l day level (g i)=true then (i:Int) else ixF (goneB l day level) g (i+1) (n - (i+1)):=by
    rw [show n - i=(n - (i+1))+1 by omega];rfl
   rw [hst] at hs
   conv=>whnf
   refine ⟨_,fun _=>call143 _ _ τ l hl day level (g ((i:Int)).toNat) (by rw [hj];exact hg i hlt), ?_⟩
   rw [hj]
   conv=>whnf
   refine ⟨?_,fun hc2=> ?_,fun hc2=> ?_⟩
   ·exact g0
   ·rw [if_pos hc2] at hs
    rw [←hs]
    conv=>whnf
    refine ⟨?_, [], ?_⟩
    ·exact g0
    conv=>whnf
    refine ⟨rfl, ?_,trivial,trivial⟩
    all_goals exact ent
   ·rw [if_neg (by rw [hc2];decide)] at hs
    conv=>whnf
    refine ⟨?_,i+1,⟨by omega,hs⟩, ?_,rfl,rfl, ?_, ?_⟩
    ·exact g0
    ·omega
    all_goals exact ent
  ·replace hc:=of_decide_eq_false hc
   rw [show n - i=0 by omega] at hs
   rw [←hs]
   conv=>whnf
   refine ⟨?_, [], ?_⟩
   ·exact g0
   conv=>whnf
   refine ⟨rfl, ?_,trivial,trivial⟩
   all_goals exact ent
def c141L1:C:=(.seq (sr [km 16 6,km 17 0,kk 18 (.len 17),kb 19 .lss 16 18] (.cond 19 .skip (.exit 0))) (.seq (.block 1 (sr [km 22 0,km 23 6,ki 24 1 22 23,kl 25 24,km 7 25] (sr [km 26 1,km 27 7,kk 28 (.call 26 [27]),kk 29 (.un false .not 28)] (.cond 29 (sr [km 30 0,km 31 5,km 32 7,ki 33 1 30 31,kx 1 33 32] (.reg [km 34 5,kb 35 .add 34 (cn 1),km 5 35])) .skip)))) (.reg [km 20 6,kb 21 .add 20 (cn 1),km 6 21])))
def c141:C:=(sr [kk 4 (.mv (.c (.nil 1)))] (sr [km 8 0,km 9 1,kc 10 122 [8,9],km 5 10] (.seq (sr [km 11 5,kb 12 .eql 11 (cn (-1))] (.cond 12 (sr [km 13 0,km 4 13] .ret) .skip)) (.seq (sr [km 14 5,kb 15 .add 14 (cn 1),km 6 15] (.block 0 (.loop c141L1))) (sr [km 36 0,km 37 5,kk 38 (.slc 1 36 (some 37) none),kz (.clr [z0] 38)] (sr [km 39 0,km 40 5,kk 41 (.slc 1 39 none (some 40)),km 4 41] .ret))))))
theorem fits141:fits Tryz.prog false Tryz.f141 2 42 [(4,none)]=some c141.er:=by kernel_rfl
def c74:C:=(sr [kk 3 (.bx 1 0),kk 4 (.bx 1 1),kk 5 (.bx 1 2),kk 6 (.mv (.c (.nil 1))),kk 7 (.mv (cn 0))] (.seq (sr [kl 9 3,kl 10 4,kl 11 5,kc 12 73 [9,10,11,(.c (.nil 1))],km 8 12] (sr [km 13 8,kb 14 .neq 13 (cn 0)] (.cond 14 (sr [km 15 8,kk 6 (.mv (.c (.nil 1))),km 7 15] .ret) .skip))) (sr [kl 16 3,kc 17 142 [16],kk 18 (.mf (.func 143) [] [3,4,5]),kc 19 141 [17,18],km 6 19,kk 7 (.mv (cn 0))] .ret)))
theorem fits74:fits Tryz.prog false Tryz.f74 3 20 [(6,none),(7,none)]=some c74.er:=by kernel_rfl
def keepN (p:Int→Bool) (g:Nat→Int):Nat→List Int
 | 0=> []
 | n+1=>if p (g n)=true then keepN p g n else keepN p g n++ [g n]
theorem keepN_len {p:Int→Bool} {g:Nat→Int}:∀n,(keepN p g n).length≤n
 | 0=>Nat.le_refl _
 | n+1=>by
   have:=keepN_len (p:=p) (g:=g) n
   unfold keepN
   split
   ·omega
   ·simp;omega
theorem keepN_all {p:Int→Bool} {g:Nat→Int}:∀n,(∀k,k<n→p (g k)=false)→keepN p g n=(List.range n).map g
 | 0,_=>rfl
 | n+1,h=>by
   unfold keepN
   rw [if_neg (by rw [h n (by omega)];decide),keepN_all n (fun k hk=>h k (by omega)),List.range_succ,List.map_append]
   rfl
theorem keepN_mem {p:Int→Bool} {g:Nat→Int}:∀n x,x∈keepN p g n→∃k,k<n∧x=g k∧p x=false
 | 0,x,h=>by simp [keepN] at h
 | n+1,x,h=>by
   unfold keepN at h
   split at h
   ·obtain ⟨k,h1,h2⟩:=keepN_mem n x h
    exact ⟨k,by omega,h2⟩
   ·rename_i hp
    rcases List.mem_append.1 h with h | h
    ·obtain ⟨k,h1,h2⟩:=keepN_mem n x h
     exact ⟨k,by omega,h2⟩
    ·simp at h
     exact ⟨n,by omega,h,by rw [h];simpa using hp⟩
def delF (K:List Int) (g:Nat→Int):Nat→Int:=fun k=>if k<K.length then K.getD k default else g k
theorem call141 (σ τ:Nat) (l:List Cd) (hl:l.length≤4611686018427387904) (day level:Int) (n:Nat) (hn:n≤4611686018427387904) (g:Nat→Int) (hg:∀k,k<n→0≤g k∧g k<l.length):
  PureCall Tryz.prog 141 [.os 0, .fn (.func 143) [] [.rp σ [.sl τ 7 l.length (fl eCd l)], .rp σ [.int .i64 day], .rp σ [.int .i64 level]]] [.row 1 3 1 n (eR g)]
   ⟨.os 1000000000, [], [.row 1 3 1 (keepN (goneB l day level) g n).length (fl eInt (keepN (goneB l day level) g n))]⟩:=by
 refine pure_call mix Tryz.func141 fits141 rfl ?_
 conv=>whnf
 refine ⟨_,fun _=>call122 _ _ τ l hl day level n hn g hg, ?_⟩
 conv=>whnf
 refine ⟨?_,fun hc=> ?_,fun hc=> ?_⟩
 ·exact g0
 ·replace hc:=of_decide_eq_true hc
  have hall:=ixF_neg (p:=goneB l day level) (g:=g) (n:=n) (i:=0) (by omega)
  rw [keepN_all n (fun k hk=>hall k (by omega) (by omega))]
  conv=>whnf
  refine ⟨?_, [0], ?_⟩
  ·exact g0
  conv=>whnf
  refine ⟨rfl, ?_,trivial, ?_⟩
  all_goals repeat' (first | exact True.intro | refine leF_cons rfl ?_ ?_ | refine leS_cons rfl ?_ ?_ | (show PLe _ _ _ _;conv=>whnf) | (show SLe _ _ _ _;conv=>whnf) | (show PLeL _ _ _ _;conv=>whnf) | apply And.intro | rfl | exact Nat.le_refl _ | exact fun _ _=>rfl | exact rowEq0 _ _)
  all_goals first | (simp;done) | skip
  all_goals
   intro k hk
   show [PV.int .i64 (g k)]=eInt (((List.range n).map g).getD k default)
   rw [List.getD_eq_getElem?_getD,List.getElem?_map,List.getElem?_range hk]
   rfl
 ·replace hc:=of_decide_eq_false hc
  obtain ⟨i0,hi0,_,hlt0,hp0,hall⟩:=ixF_pos (p:=goneB l day level) (g:=g) (n:=n) (i:=0) (by
   rcases Int.lt_or_le (ixF (goneB l day level) g 0 n) 0 with h | h
   ·exfalso
    have:∀(n i:Nat), -1≤ixF (goneB l day level) g i n:=fun n=>by
     induction n with
     | zero=>intro i;exact Int.le_refl _
     | succ n ih=>intro i;unfold ixF;split
                  ·omega
                  ·exact ih _
    have:=this n 0
    omega
   ·exact h)
  rw [hi0]
  conv=>whnf
  refine ⟨?_, ?_⟩
  ·exact g0
  have hk0:keepN (goneB l day level) g (i0+1)=(List.range i0).map g:=by
   unfold keepN
   rw [if_pos hp0,keepN_all i0 (fun k hk=>hall k (by omega) hk)]
  refine LSem.loop (n:=42) mix (α:=Nat) (fun i=>i≤n)
   (fun i=> [(0, .os 0),(1, .fn (.func 143) [] [.rp σ [.sl τ 7 l.length (fl eCd l)], .rp σ [.int .i64 day], .rp σ [.int .i64 level]]),(5, .int .i64 (keepN (goneB l day level) g i).length),(6, .int .i64 i)])
   (fun i=> [(0, .row 1 3 1 n (eR (delF (keepN (goneB l day level) g i) g)))]) (fun i=>n - i) (i0+1) ?_ ?_ ?_
  ·show i0+1≤n;omega
  ·refine ⟨rfl,rfl, ?_, ?_⟩
   all_goals repeat' (first | exact True.intro | refine leF_cons rfl ?_ ?_ | refine leS_cons rfl ?_ ?_ | (show PLe _ _ _ _;conv=>whnf) | (show SLe _ _ _ _;conv=>whnf) | (show PLeL _ _ _ _;conv=>whnf) | apply And.intro | rfl | exact Nat.le_refl _ | exact fun _ _=>rfl | exact rowEq0 _ _)
   all_goals first | (rw [hk0];simp;done) | skip
   all_goals
    intro k hk
    rw [hk0]
    unfold delF eR
    dsimp only
    by_cases h:k<((List.range i0).map g).length
    ·rw [if_pos h,List.getD_eq_getElem?_getD,List.getElem?_map,List.getElem?_range (by simpa using h)]
     rfl
    ·rw [if_neg h]
  ·intro i hi
   have hj:((i:Int)).toNat=i:=by omega
   have hkl:=keepN_len (p:=goneB l day level) (g:=g) i
   have hd:delF (keepN (goneB l day level) g i) g i=g i:=if_neg (by omega)
   conv=>whnf
   refine ⟨trivial,fun hc=> ?_,fun hc=> ?_⟩
   ·replace hc:=of_decide_eq_true hc
    have hlt:i<n:=by omega
    conv=>whnf
    refine ⟨_,fun _=>call143 _ _ τ l hl day level (delF (keepN (goneB l day level) g i) g ((i:Int)).toNat) (by rw [hj,hd];exact hg i hlt), ?_⟩
    rw [hj,hd]
    conv=>whnf
    refine ⟨?_,fun hc2=> ?_,fun hc2=> ?_⟩
    ·exact g0
    ·have hk1:keepN (goneB l day level) g (i+1)=keepN (goneB l day level) g i++ [g i]:=by
       rw [keepN,if_neg (by intro h;rw [h] at hc2;cases hc2)]
     conv=>whnf
     refine ⟨?_,i+1,hlt, ?_,rfl,rfl, ?_, ?_⟩
     ·exact g0
     ·omega
     all_goals repeat' (first | exact True.intro | refine leF_cons rfl ?_ ?_ | refine leS_cons rfl ?_ ?_ | (show PLe _ _ _ _;conv=>whnf) | (show SLe _ _ _ _;conv=>whnf) | (show PLeL _ _ _ _;conv=>whnf) | apply And.intro | rfl | exact Nat.le_refl _ | exact fun _ _=>rfl | exact rowEq0 _ _)
     all_goals first | (rw [hk1];simp;done) | skip
     all_goals
      intro k hk
      rw [hk1]
      have e3:((keepN (goneB l day level) g i).length:Int).toNat=(keepN (goneB l day level) g i).length:=by omega
      dsimp only
      rw [e3]
      unfold delF eR
      dsimp only
      rw [List.length_append]
      simp only [List.length_cons,List.length_nil]
      by_cases h1:k=(keepN (goneB l day level) g i).length
      ·subst h1
       simp [setAt,PV.cells]
      ·rw [if_neg h1]
       by_cases h2:k<(keepN (goneB l day level) g i).length
       ·rw [if_pos h2,if_pos (by omega),List.getD_eq_getElem?_getD,List.getD_eq_getElem?_getD,List.getElem?_append_left h2]
       ·rw [if_neg h2,if_neg (by omega)]
    ·have hk1:keepN (goneB l day level) g (i+1)=keepN (goneB l day level) g i:=by
       rw [keepN,if_pos (by cases hq:goneB l day level (g i) with | true=>rfl | false=>rw [hq] at hc2;cases hc2)]
     conv=>whnf
     refine ⟨?_,i+1,hlt, ?_,rfl,rfl, ?_, ?_⟩
     ·exact g0
     ·omega
     all_goals repeat' (first | exact True.intro | refine leF_cons rfl ?_ ?_ | refine leS_cons rfl ?_ ?_ | (show PLe _ _ _ _;conv=>whnf) | (show SLe _ _ _ _;conv=>whnf) | (show PLeL _ _ _ _;conv=>whnf) | apply And.intro | rfl | exact Nat.le_refl _ | exact fun _ _=>rfl | exact rowEq0 _ _)
     all_goals first | (rw [hk1];done) | skip
     all_goals (rw [hk1];exact fun _ _=>rfl)
   ·replace hc:=of_decide_eq_false hc
    have:i=n:=by
     have:¬i<n:=by omega
     omega
    subst this
    conv=>whnf
    refine ⟨?_, [0], ?_⟩
    ·exact g0
    conv=>whnf
    refine ⟨rfl, ?_,trivial, ?_⟩
    all_goals repeat' (first | exact True.intro | refine leF_cons rfl ?_ ?_ | refine leS_cons rfl ?_ ?_ | (show PLe _ _ _ _;conv=>whnf) | (show SLe _ _ _ _;conv=>whnf) | (show PLeL _ _ _ _;conv=>whnf) | apply And.intro | rfl | exact Nat.le_refl _ | exact fun _ _=>rfl | exact rowEq0 _ _)
    all_goals
     intro k hk
     have e3:((keepN (goneB l day level) g i).length:Int).toNat=(keepN (goneB l day level) g i).length:=by omega
     rw [e3] at hk
     dsimp only
     rw [e3,if_neg (by omega)]
     unfold eR delF fl eInt
     rw [if_pos hk]
def actF (l:List Cd) (day level:Int):List Int:=keepN (goneB l day level) (ordF l) l.length
theorem ordF_in (l:List Cd):∀k,k<l.length→0≤ordF l k∧ordF l k<l.length:=
 insN_in (p:=fun x=>0≤x∧x<l.length) _ (fun k hk=>by omega) l.length (Nat.le_refl _)
def c140:C:=(sr [kk 2 (.mv cf)] (sr [km 3 0,kc 4 56 [3,(cn 1073741824)],kk 5 (.un false .not 4),km 2 5] .ret))
theorem fits140:fits Tryz.prog false Tryz.f140 1 6 [(2,none)]=some c140.er:=by kernel_rfl
def c54:C:=(sr [kk 4 (.mv cf)] (sr [km 5 0,km 6 1,kc 7 122 [5,6],kb 8 .geq 7 (cn 0),km 4 8] .ret))
theorem fits54:fits Tryz.prog false Tryz.f54 2 9 [(4,none)]=some c54.er:=by kernel_rfl
def c73:C:=(sr [kk 8 (.mv (cn 0))] (.seq (sr [km 10 0,kc 11 62 [10],km 9 11] (sr [km 12 9,kb 13 .neq 12 (cn 0)] (.cond 13 (sr [km 14 9,km 8 14] .ret) .skip))) (.seq (sr [km 15 1,kc 16 139 [15],kk 17 (.un false .not 16),km 18 17,kg 19 18 false (.mv 2),kg 20 18 false (cl 56 [19,(cn 16777216)]),kg 21 18 false (.un false .not 20),kk 22 (.pick 18 ct 21),km 23 22,kg 24 23 false (.mv 3),kg 25 23 false (cl 54 [24,(.c (.fn (.func 140) [] []))]),kk 26 (.pick 23 ct 25)] (.cond 26 (sr [kk 8 (.mv (cn 1))] .ret) .skip)) (sr [kk 8 (.mv (cn 0))] .ret))))
theorem fits73:fits Tryz.prog false Tryz.f73 4 27 [(8,none)]=some c73.er:=by kernel_rfl
def c138:C:=(sr [kk 3 (.bx 2 1),kk 4 (.mv (cn 0))] (sr [km 5 0,kf 6 1 3,kl 7 6,kk 8 (.mn [5,7]),kf 9 0 3,kl 10 9,kk 11 (.mx [8,10]),km 4 11] .ret))
theorem fits138:fits Tryz.prog false Tryz.f138 2 12 [(4,none)]=some c138.er:=by kernel_rfl
def c145:C:=(sr [kk 2 (.bx 7 0),kk 4 (.al [z0,z0])] (sr [kk 7 (.bd [z0,z0] [(1,1,(cn 1073741824))]),kk 5 (.al [z0,z0]),kx 2 5 7] (sr [kf 8 1 2,kl 9 8,kk 10 (.iaa 5 2 (.c (.rp 1 [(.bool false),(.bool false),(.bool true),(.bool false),(.bool false),(.bool false),(.bool false),(.bool true),(.bool true),(.bool true)])) 9),kt 11 2 10,kk 6 (.al [(.bool false),(.bool false)]),kx 2 6 11] (.seq (.block 0 (sr [kf 16 0 6,kl 17 16,km 18 17,kg 19 18 true (.fa 1 6),kg 20 18 true (.ld 1 false 19),kk 21 (.pick 18 20 cf),km 15 21] (.cond 15 (.reg [km 22 1,kf 23 2 2,kl 24 23,kb 25 .sub 22 24,kk 26 (.mx [25,(cn 0)]),kf 27 0 5,kx 1 27 26]) (sr [kf 29 1 6,kl 30 29,km 28 30] (.cond 28 (.reg [km 31 1,kf 32 2 2,kl 33 32,kb 34 .add 31 33,kk 35 (.mn [34,(cn 1073741824)]),kf 36 1 5,kx 1 36 35]) (sr [kf 38 0 6,kl 39 38,km 37 39] (.cond 37 (.reg [kf 40 2 2,kl 41 40,kf 42 0 5,kx 1 42 41]) (.reg [kf 12 2 2,kl 13 12,kf 14 1 5,kx 1 14 13])))))))) (sr [kt 43 2 5,kx 2 4 43] .ret)))))
theorem fits145:fits Tryz.prog false Tryz.f145 2 44 [(4,some (2,true))]=some c145.er:=by kernel_rfl
def c79:C:=(sr [kk 2 (.bx 7 0),kk 4 (.al [z0,z0]),kk 5 (.mv cf)] (.seq (sr [kt 6 7 2,kc 7 70 [6],kb 8 .neq 7 (cn 0),km 9 8,kg 10 9 false (.mv 1),kg 11 9 false (cl 56 [10,(cn 1073741824)]),kg 12 9 false (.un false .not 11),kk 13 (.pick 9 ct 12)] (.cond 13 (sr [kk 14 (.bd [z0,z0] []),kx 2 4 14,kk 5 (.mv cf)] .ret) .skip)) (sr [kt 15 7 2,km 16 1,kc 17 145 [15,16],kx 2 4 17,kk 5 (.mv ct)] .ret)))
theorem fits79:fits Tryz.prog false Tryz.f79 2 18 [(4,some (2,true)),(5,none)]=some c79.er:=by kernel_rfl
def c71:C:=(sr [kk 10 (.bx 2 4),kk 12 (.mv (cn 0))] (.seq (sr [km 14 0,km 15 1,km 16 2,km 17 3,km 18 5,kf 19 0 10,kl 20 19,kf 21 1 10,kl 22 21,kk 23 (.bs 3 1 [17,18,20,22]),kc 24 73 [14,15,16,23],km 13 24] (sr [km 25 13,kb 26 .neq 25 (cn 0)] (.cond 26 (sr [km 27 13,km 12 27] .ret) .skip))) (.seq (sr [kf 28 0 10,kl 29 28,kf 30 1 10,kl 31 30,kb 32 .gtr 29 31] (.cond 32 (sr [kk 12 (.mv (cn 3))] .ret) .skip)) (sr [kk 12 (.mv (cn 0))] .ret))))
theorem fits71:fits Tryz.prog false Tryz.f71 6 33 [(12,none)]=some c71.er:=by kernel_rfl
theorem call140 (n:Int):PureCall Tryz.prog 140 [.int .i64 n] [] ⟨.bool (!wi n 1073741824), [], []⟩:=by
 refine pure_call mix Tryz.func140 fits140 rfl ?_
 conv=>whnf
 refine ⟨_,fun _=>call56 n 1073741824, ?_⟩
 conv=>whnf
 refine ⟨?_, [], ?_⟩
 ·exact g0
 conv=>whnf
 refine ⟨rfl, ?_,trivial,trivial⟩
 all_goals exact ent
theorem call122f (ρ:Nat) (l:List Int) (hn:l.length≤4611686018427387904) (hg:∀x∈l,wi x 1073741824=true):
  PureCall Tryz.prog 122 [.sl ρ 1 l.length (fl eInt l), .fn (.func 140) [] []] [] ⟨.int .i64 (-1), [], []⟩:=by
 refine pure_call mix Tryz.func122 fits122 rfl ?_
 conv=>whnf
 refine ⟨trivial, ?_⟩
 refine LSem.loop (n:=19) mix (α:=Nat) (fun i=>i≤l.length)
  (fun i=> [(0, .sl ρ 1 l.length (fl eInt l)),(1, .fn (.func 140) [] []),(7, .int .i64 l.length),(8, .int .i64 i)])
  (fun i=> []) (fun i=>l.length - i) 0 ?_ ?_ ?_
 ·exact Nat.zero_le _
 ·refine ⟨rfl,rfl, ?_, ?_⟩
  all_goals exact ent
 ·intro i hi
  have hj:((i:Int)).toNat=i:=by omega
  conv=>whnf
  refine ⟨trivial,fun hc=> ?_,fun hc=> ?_⟩
  ·replace hc:=of_decide_eq_true hc
   have hlt:i<l.length:=by omega
   have hm:l.getD i default∈l:=by
    rw [List.getD_eq_getElem?_getD,List.getElem?_eq_getElem hlt];exact List.getElem_mem hlt
   conv=>whnf
   refine ⟨_,fun _=>call140 (l.getD ((i:Int)).toNat default), ?_⟩
   rw [hj,hg _ hm]
   conv=>whnf
   refine ⟨?_,fun hc2=>(by cases hc2),fun hc2=> ?_⟩
   ·exact g0
   conv=>whnf
   refine ⟨?_,i+1,hlt, ?_,rfl,rfl, ?_, ?_⟩
   ·exact g0
   ·omega
   all_goals exact ent
  ·replace hc:=of_decide_eq_false hc
   conv=>whnf
   refine ⟨?_, [], ?_⟩
   ·exact g0
   conv=>whnf
   refine ⟨rfl, ?_,trivial,trivial⟩
   all_goals exact ent
theorem call54f (ρ:Nat) (l:List Int) (hn:l.length≤4611686018427387904) (hg:∀x∈l,wi x 1073741824=true):
  PureCall Tryz.prog 54 [.sl ρ 1 l.length (fl eInt l), .fn (.func 140) [] []] [] ⟨.bool false, [], []⟩:=by
 refine pure_call mix Tryz.func54 fits54 rfl ?_
 conv=>whnf
 refine ⟨_,fun _=>call122f _ l hn hg, ?_⟩
 conv=>whnf
 refine ⟨?_, [], ?_⟩
 ·exact g0
 conv=>whnf
 refine ⟨rfl, ?_,trivial,trivial⟩
 all_goals exact ent
theorem call73 (τ ρ:Nat) (l:List Cd) (day level:Int) (fs:List Int) (hn:fs.length≤4611686018427387904) (hl:limC l=0) (hd:wi day 364=true) (hv:wi level 16777216=true) (hg:∀x∈fs,wi x 1073741824=true):
  PureCall Tryz.prog 73 [.sl τ 7 l.length (fl eCd l), .int .i64 day, .int .i64 level, .sl ρ 1 fs.length (fl eInt fs)] [] ⟨.int .i64 0, [], []⟩:=by
 refine pure_call mix Tryz.func73 fits73 rfl ?_
 conv=>whnf
 refine ⟨_,fun _=>call62 _ l, ?_⟩
 conv=>whnf
 rw [hl]
 refine ⟨?_,fun hc=>(by cases hc),fun _=> ?_⟩
 ·exact g0
 conv=>whnf
 refine ⟨_,fun _=>call139 day, ?_⟩
 conv=>whnf
 refine ⟨_,fun _=>call56 level 16777216, ?_⟩
 conv=>whnf
 refine ⟨_,fun _=>call54f _ fs hn hg, ?_⟩
 conv=>whnf
 rw [hd,hv]
 refine ⟨?_,fun hc=>(by cases hc),fun _=> ?_⟩
 ·exact g0
 conv=>whnf
 refine ⟨?_, [], ?_⟩
 ·exact g0
 conv=>whnf
 refine ⟨rfl, ?_,trivial,trivial⟩
 all_goals exact ent
theorem call73n (τ:Nat) (l:List Cd) (day level:Int) (hl:limC l=0) (hd:wi day 364=true) (hv:wi level 16777216=true):
  PureCall Tryz.prog 73 [.sl τ 7 l.length (fl eCd l), .int .i64 day, .int .i64 level, .nil 1] [] ⟨.int .i64 0, [], []⟩:=by
 refine PureCall.arg_le (call73 τ 0 l day level [] (Nat.zero_le _) hl hd hv (fun x hx=>by cases hx)) rfl ?_
 exact ent
theorem call74 (l:List Cd) (day level:Int) (h20:l.length<20) (hl:limC l=0) (hd:wi day 364=true) (hv:wi level 16777216=true):
  PureCall Tryz.prog 74 [.sl 2 7 l.length (fl eCd l), .int .i64 day, .int .i64 level] [] ⟨.tup [.os 1000000000, .int .i64 0], [], [.row 1 3 1 (actF l day level).length (fl eInt (actF l day level))]⟩:=by
 refine pure_call mix Tryz.func74 fits74 rfl ?_
 conv=>whnf
 refine ⟨_,fun _=>call73n _ l day level hl hd hv, ?_⟩
 conv=>whnf
 refine ⟨?_,fun hc=>(by cases hc),fun _=> ?_⟩
 ·exact g0
 conv=>whnf
 refine ⟨_,fun _=>call142 l h20, ?_⟩
 conv=>whnf
 refine ⟨_,fun _=>call141 _ _ l (by omega) day level l.length (by omega) (ordF l) (ordF_in l), ?_⟩
 conv=>whnf
 refine ⟨?_, [272], ?_⟩
 ·exact g0
 conv=>whnf
 refine ⟨rfl, ?_,trivial, ?_⟩
 all_goals exact ent
def permF (c:Cd) (b:Int):Int×Int:=
 if c.k=1 then (c.v,1073741824) else if c.k=2 then (0,c.v) else if c.k=3 then (0,min (b+c.v) 1073741824) else (max (b - c.v) 0,1073741824)
theorem call145 (c:Cd) (b:Int) (hc:oneC c=0) (hb:wi b 1073741824=true):
  PureCall Tryz.prog 145 [.agg (eCd c), .int .i64 b] [] ⟨.agg [.int .i64 (permF c b).1, .int .i64 (permF c b).2], [], []⟩:=by
 obtain ⟨h1,h2,h3⟩:=oneC_ok hc
 have hb2:=(wi_iff _ _).1 hb
 unfold badC at h3
 obtain ⟨r,k,v,f,u,a,z⟩:=c
 dsimp only at h1 h2 h3
 have hk:k=1∨k=2∨k=3∨k=4:=by omega
 have hv:0≤v∧v≤1073741824:=by
  refine Decidable.byContradiction fun h=>h3 (.inl h)
 refine pure_call mix Tryz.func145 fits145 rfl ?_
 rcases hk with rfl | rfl | rfl | rfl
 ·rw [show permF ⟨r,1,v,f,u,a,z⟩ b=(v,1073741824) by simp [permF]]
  conv=>whnf
  refine ⟨?_,fun hc=>absurd hc (by decide),fun _=> ?_⟩
  ·exact g0
  conv=>whnf
  refine ⟨?_,fun hc=>absurd hc (by decide),fun _=> ?_⟩
  ·exact g0
  conv=>whnf
  refine ⟨?_,fun _=> ?_,fun hc=>absurd hc (by decide)⟩
  ·exact g0
  conv=>whnf
  refine ⟨?_, [], ?_⟩
  ·exact g0
  conv=>whnf
  refine ⟨rfl, ?_,trivial,trivial⟩
  all_goals exact ent
 ·rw [show permF ⟨r,2,v,f,u,a,z⟩ b=(0,v) by simp [permF]]
  conv=>whnf
  refine ⟨?_,fun hc=>absurd hc (by decide),fun _=> ?_⟩
  ·exact g0
  conv=>whnf
  refine ⟨?_,fun hc=>absurd hc (by decide),fun _=> ?_⟩
  ·exact g0
  conv=>whnf
  refine ⟨?_,fun hc=>absurd hc (by decide),fun _=> ?_⟩
  ·exact g0
  conv=>whnf
  refine ⟨?_, [], ?_⟩
  ·exact g0
  conv=>whnf
  refine ⟨rfl, ?_,trivial,trivial⟩
  all_goals exact ent
 ·rw [show permF ⟨r,3,v,f,u,a,z⟩ b=(0,min (b+v) 1073741824) by simp [permF]]
  conv=>whnf
  refine ⟨?_,fun hc=>absurd hc (by decide),fun _=> ?_⟩
  ·exact g0
  conv=>whnf
  refine ⟨?_,fun _=> ?_,fun hc=>absurd hc (by decide)⟩
  ·exact g0
  conv=>whnf
  refine ⟨?_, [], ?_⟩
  ·exact g0
  conv=>whnf
  refine ⟨rfl, ?_,trivial,trivial⟩
  all_goals exact ent
 ·rw [show permF ⟨r,4,v,f,u,a,z⟩ b=(max (b - v) 0,1073741824) by simp [permF]]
  conv=>whnf
  refine ⟨?_,fun _=> ?_,fun hc=>absurd hc (by decide)⟩
  ·exact g0
  conv=>whnf
  refine ⟨?_, [], ?_⟩
  ·exact g0
  conv=>whnf
  refine ⟨rfl, ?_,trivial,trivial⟩
  all_goals exact ent
theorem call79 (c:Cd) (b:Int) (hc:oneC c=0) (hb:wi b 1073741824=true):
  PureCall Tryz.prog 79 [.agg (eCd c), .int .i64 b] [] ⟨.tup [.agg [.int .i64 (permF c b).1, .int .i64 (permF c b).2], .bool true], [], []⟩:=by
 refine pure_call mix Tryz.func79 fits79 rfl ?_
 conv=>whnf
 refine ⟨_,fun _=>call70 c, ?_⟩
 conv=>whnf
 refine ⟨_,fun _=>call56 b 1073741824, ?_⟩
 conv=>whnf
 rw [hc,hb]
 refine ⟨?_,fun hc=>absurd hc (by decide),fun _=> ?_⟩
 ·exact g0
 conv=>whnf
 refine ⟨_,fun _=>call145 c b hc hb, ?_⟩
 conv=>whnf
 refine ⟨?_, [], ?_⟩
 ·exact g0
 conv=>whnf
 refine ⟨rfl, ?_,trivial,trivial⟩
 all_goals exact ent
def clampF (n lo hi:Int):Int:=max (min n hi) lo
theorem call138 (n lo hi:Int):PureCall Tryz.prog 138 [.int .i64 n, .agg [.int .i64 lo, .int .i64 hi]] [] ⟨.int .i64 (clampF n lo hi), [], []⟩:=by
 refine pure_call mix Tryz.func138 fits138 rfl ?_
 conv=>whnf
 refine ⟨?_, [], ?_⟩
 ·exact g0
 conv=>whnf
 refine ⟨rfl, ?_,trivial,trivial⟩
 all_goals repeat' (first | exact True.intro | refine leF_cons rfl ?_ ?_ | refine leS_cons rfl ?_ ?_ | (show PLe _ _ _ _;conv=>whnf) | (show SLe _ _ _ _;conv=>whnf) | (show PLeL _ _ _ _;conv=>whnf) | apply And.intro | rfl | exact Nat.le_refl _ | exact fun _ _=>rfl | exact rowEq0 _ _)
 unfold clampF
 repeat' split
 all_goals omega
theorem rowL4 (a b c d:Int):RowEq 4 (fun i=> [[PV.int .i64 a], [PV.int .i64 b], [PV.int .i64 c], [PV.int .i64 d]].getD i []) (fl eInt [a,b,c,d]):=fun i hi=>by
 match i,hi with
 | 0,_=>rfl
 | 1,_=>rfl
 | 2,_=>rfl
 | 3,_=>rfl
theorem call71 (τ:Nat) (l:List Cd) (day level before lo hi wanted:Int) (hl:limC l=0) (hd:wi day 364=true) (hv:wi level 16777216=true) (h1:wi before 1073741824=true) (h2:wi lo 1073741824=true) (h3:wi hi 1073741824=true) (h4:wi wanted 1073741824=true) (h5:lo≤hi):
  PureCall Tryz.prog 71 [.sl τ 7 l.length (fl eCd l), .int .i64 day, .int .i64 level, .int .i64 before, .agg [.int .i64 lo, .int .i64 hi], .int .i64 wanted] [] ⟨.int .i64 0, [], []⟩:=by
 refine pure_call mix Tryz.func71 fits71 rfl ?_
 conv=>whnf
 have hall:∀x∈ [before,wanted,lo,hi],wi x 1073741824=true:=fun x hx=>by
  simp only [List.mem_cons,List.not_mem_nil,or_false] at hx
  rcases hx with rfl | rfl | rfl | rfl<;>assumption
 refine ⟨_,fun _=>PureCall.arg_le (call73 (lendT τ) 2 l day level [before,wanted,lo,hi] (by simp) hl hd hv hall) rfl ?_, ?_⟩
 ·have hr:=rowL4 before wanted lo hi
  exact ent
 conv=>whnf
 refine ⟨?_,fun hc=>absurd hc (by decide),fun _=> ?_⟩
 ·exact g0
 conv=>whnf
 refine ⟨?_,fun hc=> ?_,fun _=> ?_⟩
 ·exact g0
 ·simp only [bp] at hc;omega
 conv=>whnf
 refine ⟨?_, [], ?_⟩
 ·exact g0
 conv=>whnf
 refine ⟨rfl, ?_,trivial,trivial⟩
 all_goals exact ent
def c72L1:C:=(sr [kb 42 .lss 41 40] (.seq (.cond 42 .skip (.exit 0)) (.seq (.block 1 (sr [ki 43 1 39 41,kl 44 43,km 20 44] (sr [km 46 0,km 47 20,ki 48 7 46 47,kt 49 7 48,km 50 3,kc 51 79 [49,50],km 45 51,ke 52 45 0,ke 53 45 1,kk 21 (.al [z0,z0]),kx 2 21 52,km 22 53] (.seq (.block 2 (sr [kf 55 1 21,kl 56 55,kf 57 0 13,kl 58 57,kb 59 .lss 56 58,km 54 59] (.cond 54 (sr [km 60 15,km 61 20,kf 62 1 13,kl 63 62,kk 64 (.bd [z0,z0] [(0,1,61),(1,1,63)]),kk 65 (.bs 85 2 [64]),kk 66 (.app 85 2 16 60 65),km 15 66] (.exit 1)) (sr [kf 68 0 21,kl 69 68,kf 70 0 14,kl 71 70,kb 72 .gtr 69 71,km 67 72] (.cond 67 (sr [km 73 16,km 74 73,kg 75 74 false (.mv 15),kg 76 74 false (.len 75),kg 77 74 false (.bi false .eql 76 (cn 0)),kk 78 (.pick 74 ct 77),km 16 78] (sr [km 79 15,km 80 20,kf 81 1 14,kl 82 81,kk 83 (.bd [z0,z0] [(0,1,80),(1,1,82)]),kk 84 (.bs 85 2 [83]),kk 85 (.app 85 2 16 79 84),km 15 85] (.exit 1))) .skip))))) (.seq (sr [kf 86 0 21,kl 87 86,kf 88 0 13,kl 89 88,kk 90 (.mx [87,89]),km 91 20,kk 92 (.bd [z0,z0] [(0,1,90),(1,1,91)]),kk 23 (.al [z0,z0]),kx 2 23 92] (sr [kt 93 2 23,kf 94 0 13,kl 95 94,km 96 20,kk 97 (.bd [z0,z0] [(0,1,95),(1,1,96)]),kk 98 (.eqa true [0,0] 93 97)] (.cond 98 (.reg [kt 99 2 23,kx 2 13 99]) .skip))) (sr [kf 100 1 21,kl 101 100,kf 102 0 14,kl 103 102,kk 104 (.mn [101,103]),km 105 20,kk 106 (.bd [z0,z0] [(0,1,104),(1,1,105)]),kk 24 (.al [z0,z0]),kx 2 24 106] (sr [kt 107 2 24,kf 108 0 14,kl 109 108,km 110 20,kk 111 (.bd [z0,z0] [(0,1,109),(1,1,110)]),kk 112 (.eqa true [0,0] 107 111)] (.cond 112 (.reg [kt 113 2 24,kx 2 14 113]) .skip)))))))) (.reg [kb 114 .add 41 (cn 1),km 41 114]))))
def c72:C:=(sr [kk 10 (.bx 2 4),kk 12 (.al [z0,z0,z0,(.nil 2)])] (.seq (.drw [kf 26 0 10,kl 27 26,kk 28 (.bd [z0,z0] [(0,1,27),(1,1,(cn (-1)))]),kf 29 1 10,kl 30 29,kk 31 (.bd [z0,z0] [(0,1,30),(1,1,(cn (-1)))]),kk 13 (.al [z0,z0]),kk 14 (.al [z0,z0]),kx 2 13 28,kx 2 14 31] (pl [(0,[3,4,5,6,7],26),(1,[3,4,5,6,7],27),(2,[3,4,5,6,7],28),(3,[6,7,8],29),(4,[6,7,8],30),(5,[6,7,8],31),(6,[7],13)])) (sr [kk 15 (.mv (.c (.nil 2)))] (sr [kk 16 (.mv cf)] (sr [km 33 0,km 34 1,km 35 2,kc 36 74 [33,34,35],km 32 36,ke 37 32 0,ke 38 32 1,km 17 37,km 18 38] (.seq (sr [km 39 17,kk 40 (.len 39),kk 41 (.mv (cn 0))] (.block 0 (.loop c72L1))) (sr [kf 115 0 13,kl 116 115,kf 117 0 14,kl 118 117,kk 119 (.bd [z0,z0] [(0,1,116),(1,1,118)]),km 120 15,kk 121 (.bd [z0,z0,z0,(.nil 2)] [(1,2,119),(3,1,120)]),kk 25 (.al [z0,z0,z0,(.nil 2)]),kx 4 25 121] (.seq (.block 3 (sr [km 127 15,kk 128 (.len 127),kb 129 .eql 128 (cn 0),km 126 129] (.cond 126 (.reg [km 130 5,kf 131 1 25,kt 132 2 131,kc 133 138 [130,132],kf 134 0 25,kx 1 134 133]) (sr [km 136 16,km 135 136] (.cond 135 (.reg [kf 137 1 25,kf 138 1 137,kl 139 138,kf 140 0 25,kx 1 140 139]) (.reg [kf 122 1 25,kf 123 0 122,kl 124 123,kf 125 0 25,kx 1 125 124])))))) (sr [kt 141 4 25,kx 4 12 141] .ret)))))))))
theorem fits72:fits Tryz.prog false Tryz.f72 6 142 [(12,some (4,true))]=some c72.er:=by kernel_rfl
def c22:C:=(sr [kk 10 (.bx 2 4),kk 12 (.al [z0,z0,z0,(.nil 2)]),kk 13 (.mv (cn 0))] (.seq (sr [km 15 0,km 16 1,km 17 2,km 18 3,kt 19 2 10,km 20 5,kc 21 71 [15,16,17,18,19,20],km 14 21] (sr [km 22 14,kb 23 .neq 22 (cn 0)] (.cond 23 (sr [kk 24 (.bd [z0,z0,z0,(.nil 2)] []),km 25 14,kx 4 12 24,km 13 25] .ret) .skip))) (sr [km 26 0,km 27 1,km 28 2,km 29 3,kt 30 2 10,km 31 5,kc 32 72 [26,27,28,29,30,31],kx 4 12 32,kk 13 (.mv (cn 0))] .ret)))
theorem fits22:fits Tryz.prog false Tryz.f22 6 33 [(12,some (4,true)),(13,none)]=some c22.er:=by kernel_rfl
structure Cho where
 lo:Int
 lb:Int
 hi:Int
 hb:Int
 up:Bool
 ys:List (Int×Int)
def eYd (y:Int×Int):List PV:= [.int .i64 y.1, .int .i64 y.2]
def choS (l:List Cd) (b:Int) (s:Cho) (i:Int):Cho:=
 if (permF (l.getD i.toNat default) b).2<s.lo then { s with ys:=s.ys++ [(i,s.lb)] }
 else if s.hi<(permF (l.getD i.toNat default) b).1 then { s with up:=(bif s.up then true else decide ((s.ys.length:Int)=0)),ys:=s.ys++ [(i,s.hb)] }
 else { lo:=if s.lo<(permF (l.getD i.toNat default) b).1 then (permF (l.getD i.toNat default) b).1 else s.lo,lb:=if s.lo<(permF (l.getD i.toNat default) b).1 then i else s.lb,
        hi:=if (permF (l.getD i.toNat default) b).2<s.hi then (permF (l.getD i.toNat default) b).2 else s.hi,hb:=if (permF (l.getD i.toNat default) b).2<s.hi then i else s.hb,up:=s.up,ys:=s.ys }
def choN (l:List Cd) (b lo hi:Int) (act:List Int):Nat→Cho
 | 0=>⟨lo, -1,hi, -1,false, []⟩
 | n+1=>choS l b (choN l b lo hi act n) (act.getD n default)
def choL (l:List Cd) (day level b lo hi:Int):Cho:=choN l b lo hi (actF l day level) (actF l day level).length
def relF (s:Cho) (wanted:Int):Int:=if s.ys.length=0 then clampF wanted s.lo s.hi else if s.up=true then s.hi else s.lo
theorem call72 (l:List Cd) (day level before lo hi wanted:Int) (h20:l.length<20) (hl:limC l=0) (hd:wi day 364=true) (hv:wi level 16777216=true) (h1:wi before 1073741824=true):
  PureCall Tryz.prog 72 [.sl 2 7 l.length (fl eCd l), .int .i64 day, .int .i64 level, .int .i64 before, .agg [.int .i64 lo, .int .i64 hi], .int .i64 wanted] []
   ⟨.agg [.int .i64 (relF (choL l day level before lo hi) wanted), .int .i64 (choL l day level before lo hi).lo, .int .i64 (choL l day level before lo hi).hi, .sl 0 2 (choL l day level before lo hi).ys.length (fl eYd (choL l day level before lo hi).ys)], [], []⟩:=by
 refine pure_call mix Tryz.func72 fits72 rfl ?_
 conv=>whnf
 refine ⟨rfl, ?_⟩
 conv=>whnf
 refine ⟨_,fun _=>call74 l day level h20 hl hd hv, ?_⟩
 conv=>whnf
 refine ⟨?_, ?_⟩
 ·exact g0
 refine LSem.adopt 15 1000000 85 2 2 rfl rfl ?_
 obtain ⟨act,hact⟩:∃act,act=actF l day level:=⟨_,rfl⟩
 have hain:∀k,k<act.length→(0≤act.getD k default∧act.getD k default<l.length)∧oneC (l.getD (act.getD k default).toNat default)=0:=fun k hk=>by
  have hm:act.getD k default∈act:=by
   rw [List.getD_eq_getElem?_getD,List.getElem?_eq_getElem hk];exact List.getElem_mem hk
  rw [hact] at hm
  obtain ⟨j,hj,hx,hp⟩:=keepN_mem _ _ hm
  rw [←hact] at hx hp
  refine ⟨by rw [hx];exact ordF_in l j hj, ?_⟩
  unfold goneB applB at hp
  refine Decidable.byContradiction fun hne=> ?_
  rw [decide_eq_false hne] at hp
  simp at hp
 have hal:act.length≤l.length:=by rw [hact];exact keepN_len _
 have hcho:choL l day level before lo hi=choN l before lo hi act act.length:=by rw [hact];rfl
 rw [hcho,←hact]
 clear hcho hact
 refine LSem.loop (n:=142) mix (α:=Nat) (fun i=>i≤act.length∧(choN l before lo hi act i).ys.length≤i)
  (fun i=> [(0, .sl 2 7 l.length (fl eCd l)),(3, .int .i64 before),(5, .int .i64 wanted),(12, .pt 192 0 0),(13, .pt 208 0 0),(14, .pt 224 0 0),(15, .os 1000000),(16, .bool (choN l before lo hi act i).up),(39, .os 576),(40, .int .i64 act.length),(41, .int .i64 i)])
  (fun i=> [(192, .box [.int .i64 0, .int .i64 0, .int .i64 0, .nil 2]),(208, .box [.int .i64 (choN l before lo hi act i).lo, .int .i64 (choN l before lo hi act i).lb]),(224, .box [.int .i64 (choN l before lo hi act i).hi, .int .i64 (choN l before lo hi act i).hb]),
   (576, .row 1 3 1 act.length (fl eInt act)),(1000000, .row 0 85 2 (choN l before lo hi act i).ys.length (fl eYd (choN l before lo hi act i).ys))]) (fun i=>act.length - i) 0 ?_ ?_ ?_
 ·exact ⟨Nat.zero_le _,Nat.le_refl _⟩
 ·refine ⟨rfl,rfl, ?_, ?_⟩
  all_goals exact ent
 ·rintro i ⟨hile,hys⟩
  have hj:((i:Int)).toNat=i:=by omega
  conv=>whnf
  refine ⟨trivial,fun hc=> ?_,fun hc=> ?_⟩
  ·replace hc:=of_decide_eq_true hc
   have hlt:i<act.length:=by omega
   obtain ⟨⟨ha1,ha2⟩,hone⟩:=hain i hlt
   have hst:choN l before lo hi act (i+1)=choS l before (choN l before lo hi act i) (act.getD i default):=rfl
   obtain ⟨s,hs⟩:∃s,s=choN l before lo hi act i:=⟨_,rfl⟩
   obtain ⟨a,haa⟩:∃a,a=act.getD i default:=⟨_,rfl⟩
   rw [←hs,←haa] at hst
   conv=>whnf
   refine ⟨_,fun _=>call79 (l.getD (act.getD ((i:Int)).toNat default).toNat default) before (by rw [hj];exact hone) h1, ?_⟩
   rw [hj,←hs,←haa]
   rw [←hs] at hys
   obtain ⟨pl,hpl⟩:∃x,x=(permF (l.getD a.toNat default) before).1:=⟨_,rfl⟩
   obtain ⟨pm,hpm⟩:∃x,x=(permF (l.getD a.toNat default) before).2:=⟨_,rfl⟩
   unfold choS at hst
   rw [←hpl,←hpm] at hst⊢
   conv=>whnf
   refine ⟨?_,fun hA=> ?_,fun hA=> ?_⟩
   ·exact g0
   ·replace hA:=of_decide_eq_true hA
    rw [if_pos hA] at hst
    conv=>whnf
    refine ⟨?_,i+1,⟨hlt, ?_⟩, ?_,rfl,rfl, ?_, ?_⟩
    ·exact g0
    ·rw [hst];simp;exact hys
    ·omega
    all_goals repeat' (first | exact True.intro | refine leF_cons rfl ?_ ?_ | refine leS_cons rfl ?_ ?_ | (show PLe _ _ _ _;conv=>whnf) | (show SLe _ _ _ _;conv=>whnf) | (show PLeL _ _ _ _;conv=>whnf) | apply And.intro | rfl | exact Nat.le_refl _ | exact fun _ _=>rfl | exact rowEq0 _ _)
    all_goals first | (rw [hst];done) | (rw [hst];simp;done) | (rw [hst];exact fl_push eYd s.ys (a,s.lb)) | skip
   ·replace hA:=of_decide_eq_false hA
    rw [if_neg hA] at hst
    conv=>whnf
    refine ⟨?_,fun hB=> ?_,fun hB=> ?_⟩
    ·exact g0
    ·replace hB:=of_decide_eq_true hB
     rw [if_pos hB] at hst
     conv=>whnf
     refine ⟨?_,i+1,⟨hlt, ?_⟩, ?_,rfl,rfl, ?_, ?_⟩
     ·exact g0
     ·rw [hst];simp;exact hys
     ·omega
     all_goals repeat' (first | exact True.intro | refine leF_cons rfl ?_ ?_ | refine leS_cons rfl ?_ ?_ | (show PLe _ _ _ _;conv=>whnf) | (show SLe _ _ _ _;conv=>whnf) | (show PLeL _ _ _ _;conv=>whnf) | apply And.intro | rfl | exact Nat.le_refl _ | exact fun _ _=>rfl | exact rowEq0 _ _)
     all_goals first | (rw [hst];done) | (rw [hst];simp;done) | (rw [hst];exact fl_push eYd s.ys (a,s.hb)) | (rw [hst];rfl) | skip
    ·replace hB:=of_decide_eq_false hB
     rw [if_neg hB] at hst
     conv=>whnf
     refine ⟨?_,fun hC=> ?_,fun hC=> ?_⟩
     ·exact g0
     ·have hC':s.lo<pl:=by
        simp at hC
        omega
      conv=>whnf
      refine ⟨?_,fun hD=> ?_,fun hD=> ?_⟩
      ·exact g0
      ·have hD':pm<s.hi:=by
         simp at hD
         omega
       conv=>whnf
       refine ⟨?_,i+1,⟨hlt, ?_⟩, ?_,rfl,rfl, ?_, ?_⟩
       ·exact g0
       ·rw [hst];dsimp only;omega
       ·omega
       all_goals repeat' (first | exact True.intro | refine leF_cons rfl ?_ ?_ | refine leS_cons rfl ?_ ?_ | (show PLe _ _ _ _;conv=>whnf) | (show SLe _ _ _ _;conv=>whnf) | (show PLeL _ _ _ _;conv=>whnf) | apply And.intro | rfl | exact Nat.le_refl _ | exact fun _ _=>rfl | exact rowEq0 _ _)
       all_goals first | (rw [hst];done) | (rw [hst];exact fun _ _=>rfl) | (rw [hst];dsimp only;(repeat' split)<;>omega) | skip
      ·have hD':¬pm<s.hi:=by
         simp at hD
         omega
       conv=>whnf
       refine ⟨?_,i+1,⟨hlt, ?_⟩, ?_,rfl,rfl, ?_, ?_⟩
       ·exact g0
       ·rw [hst];dsimp only;omega
       ·omega
       all_goals repeat' (first | exact True.intro | refine leF_cons rfl ?_ ?_ | refine leS_cons rfl ?_ ?_ | (show PLe _ _ _ _;conv=>whnf) | (show SLe _ _ _ _;conv=>whnf) | (show PLeL _ _ _ _;conv=>whnf) | apply And.intro | rfl | exact Nat.le_refl _ | exact fun _ _=>rfl | exact rowEq0 _ _)
       all_goals first | (rw [hst];done) | (rw [hst];exact fun _ _=>rfl) | (rw [hst];dsimp only;(repeat' split)<;>omega) | skip
     ·have hC':¬s.lo<pl:=by
        simp at hC
        omega
      conv=>whnf
      refine ⟨?_,fun hD=> ?_,fun hD=> ?_⟩
      ·exact g0
      ·have hD':pm<s.hi:=by
         simp at hD
         omega
       conv=>whnf
       refine ⟨?_,i+1,⟨hlt, ?_⟩, ?_,rfl,rfl, ?_, ?_⟩
       ·exact g0
       ·rw [hst];dsimp only;omega
       ·omega
       all_goals repeat' (first | exact True.intro | refine leF_cons rfl ?_ ?_ | refine leS_cons rfl ?_ ?_ | (show PLe _ _ _ _;conv=>whnf) | (show SLe _ _ _ _;conv=>whnf) | (show PLeL _ _ _ _;conv=>whnf) | apply And.intro | rfl | exact Nat.le_refl _ | exact fun _ _=>rfl | exact rowEq0 _ _)
       all_goals first | (rw [hst];done) | (rw [hst];exact fun _ _=>rfl) | (rw [hst];dsimp only;(repeat' split)<;>omega) | skip
      ·have hD':¬pm<s.hi:=by
         simp at hD
         omega
       conv=>whnf
       refine ⟨?_,i+1,⟨hlt, ?_⟩, ?_,rfl,rfl, ?_, ?_⟩
       ·exact g0
       ·rw [hst];dsimp only;omega
       ·omega
       all_goals repeat' (first | exact True.intro | refine leF_cons rfl ?_ ?_ | refine leS_cons rfl ?_ ?_ | (show PLe _ _ _ _;conv=>whnf) | (show SLe _ _ _ _;conv=>whnf) | (show PLeL _ _ _ _;conv=>whnf) | apply And.intro | rfl | exact Nat.le_refl _ | exact fun _ _=>rfl | exact rowEq0 _ _)
       all_goals first | (rw [hst];done) | (rw [hst];exact fun _ _=>rfl) | (rw [hst];dsimp only;(repeat' split)<;>omega) | skip
  ·replace hc:=of_decide_eq_false hc
   have:i=act.length:=by omega
   subst this
   obtain ⟨s,hs⟩:∃s,s=choN l before lo hi act act.length:=⟨_,rfl⟩
   rw [←hs] at hys⊢
   conv=>whnf
   refine ⟨trivial,fun hE=> ?_,fun hE=> ?_⟩
   ·simp only [bp] at hE
    rw [show relF s wanted=clampF wanted s.lo s.hi from if_pos (by omega)]
    conv=>whnf
    refine ⟨_,fun _=>call138 wanted s.lo s.hi, ?_⟩
    conv=>whnf
    refine ⟨?_, [], ?_⟩
    ·exact g0
    conv=>whnf
    refine ⟨rfl, ?_,trivial,trivial⟩
    all_goals exact ent
   ·simp only [bp] at hE
    have h0:relF s wanted=if s.up=true then s.hi else s.lo:=if_neg (by omega)
    rw [h0]
    conv=>whnf
    refine ⟨trivial,fun hF=> ?_,fun hF=> ?_⟩
    ·rw [if_pos hF]
     conv=>whnf
     refine ⟨?_, [], ?_⟩
     ·exact g0
     conv=>whnf
     refine ⟨rfl, ?_,trivial,trivial⟩
     all_goals exact ent
    ·rw [if_neg (by rw [hF];decide)]
     conv=>whnf
     refine ⟨?_, [], ?_⟩
     ·exact g0
     conv=>whnf
     refine ⟨rfl, ?_,trivial,trivial⟩
     all_goals exact ent
theorem call22 (l:List Cd) (day level before lo hi wanted:Int) (h20:l.length<20) (hl:limC l=0) (hd:wi day 364=true) (hv:wi level 16777216=true) (h1:wi before 1073741824=true) (h2:wi lo 1073741824=true) (h3:wi hi 1073741824=true) (h4:wi wanted 1073741824=true) (h5:lo≤hi):
  PureCall Tryz.prog 22 [.sl 2 7 l.length (fl eCd l), .int .i64 day, .int .i64 level, .int .i64 before, .agg [.int .i64 lo, .int .i64 hi], .int .i64 wanted] []
   ⟨.tup [.agg [.int .i64 (relF (choL l day level before lo hi) wanted), .int .i64 (choL l day level before lo hi).lo, .int .i64 (choL l day level before lo hi).hi, .sl 0 2 (choL l day level before lo hi).ys.length (fl eYd (choL l day level before lo hi).ys)], .int .i64 0], [], []⟩:=by
 refine pure_call mix Tryz.func22 fits22 rfl ?_
 conv=>whnf
 refine ⟨_,fun _=>call71 2 l day level before lo hi wanted hl hd hv h1 h2 h3 h4 h5, ?_⟩
 conv=>whnf
 refine ⟨?_,fun hc=>absurd hc (by decide),fun _=> ?_⟩
 ·exact g0
 conv=>whnf
 refine ⟨_,fun _=>call72 l day level before lo hi wanted h20 hl hd hv h1, ?_⟩
 conv=>whnf
 refine ⟨?_, [], ?_⟩
 ·exact g0
 conv=>whnf
 refine ⟨rfl, ?_,trivial,trivial⟩
 all_goals exact ent
open Go.Shelf Go.RowKit
variable {P:Program} {ρ:Ren}
structure Held (T e:TypeId) (b:Nat) (p v:Value) (s:List UInt8) (w:World):Prop where
 cells:w.heap[b]? =some (.cells #[p,v] T (0,0))
 own:w.ownsRowF 0 e 1 v s.length (bytesV s)
 ne:v.ownBlock≠some b
theorem bytesV_length (s:List UInt8):(bytesV s).length=s.length:=by simp [bytesV]
theorem Held.at_ {T e:TypeId} {b:Nat} {p v:Value} {s:List UInt8} {w:World} (h:Held T e b p v s w):Lib.BuilderAtF T e 0 b p (bytesV s) w:=
 ⟨Nat.zero_le _,v,h.cells,by rw [bytesV_length];exact h.own,h.ne⟩
theorem Held.lt {T e:TypeId} {b:Nat} {p v:Value} {s:List UInt8} {w:World} (h:Held T e b p v s w):b<w.heap.size:=(Array.getElem?_eq_some_iff.1 h.cells).1
theorem Held.alloc {T e:TypeId} {b:Nat} {p v:Value} {s:List UInt8} {w:World} (h:Held T e b p v s w) (o:Obj):Held T e b p v s (w.alloc o):=
 ⟨by rw [Lib.alloc_old w o b h.lt];exact h.cells,h.own.alloc o,h.ne⟩
open Go.RowKit
theorem pure_still {P:Program} {f:Nat} {args:List PV} {us:List Value} {val:PV} {rv:Value}
  (hfn:∃fn,P.funcs[f]? =some fn∧fn.body.isSome=true∧(fn.name== "runtime.NumGoroutine")=false)
  (hargs:∀(X:Cx) (γ:Gh) (w:World) (vals:List Value),RepL X γ w args vals→vals=us) (hval:∀(X:Cx) (γ:Gh) (w:World),Rep X γ w val rv)
  (h:∀(w:World),(∀b p,Pv.glob b=some p→∃o,w.heap[b]? =some o∧p o)→Calls P f us.toArray w fun ev w'=>ev= .returned rv∧Keeps (fun _=>False) w w'):
  PureCall P f args [] ⟨val, [], []⟩:=by
 refine ⟨hfn,fun w γ as_ ls vals hst hX hr=> ?_⟩
 have:=hargs _ _ _ _ hr
 subst this
 refine (h w fun b p hb=>(hst.glob b p hb).1).mono ?_
 rintro ev w' ⟨he,hk⟩
 have hnone:∀r,γ r=none:=fun r=>by
  have:=hst.dom r
  simpa using this
 have hno:∀b,¬γ.own b:=fun b ⟨r,ge,hr,_⟩=>by rw [hnone r] at hr;cases hr
 have hkeep:Keeps γ.own w w':=hk.mono fun k _ h=>h.elim
 refine ⟨rv,γ,he,hval _ _ _, ?_,hkeep,fun r hr=>by simp [parN,nbx] at hr,fun r ge b hr hb=>by rw [hnone r] at hr;cases hr⟩
 refine ⟨fun r=> ?_,fun r ge se hr hs=>(by rw [hnone r] at hr;cases hr),fun r r' ge ge' b hr=>(by rw [hnone r] at hr;cases hr),fun b hb=>absurd hb (hno b),fun b hb=>absurd hb (hno b), ?_⟩
 ·rw [hnone r];unfold resSt
  split<;>rfl
 ·exact glob_keep hst.glob (fun k hlt hn=>hkeep.block k hlt hn) fun b hb=> .inl hb
theorem pure_new2 {P:Program} {f:Nat} {args:List PV} {us:List Value} {e z n:Nat} {g:Nat→List PV} {vs:List Value}
  (hfn:∃fn,P.funcs[f]? =some fn∧fn.body.isSome=true∧(fn.name== "runtime.NumGoroutine")=false)
  (hargs:∀(X:Cx) (γ:Gh) (w:World) (vals:List Value),RepL X γ w args vals→vals=us) (hrows:∀(X:Cx) (γ:Gh) (w:World),RowsRep X γ w 0 z n g vs)
  (h:∀(w:World),(∀b p,Pv.glob b=some p→∃o,w.heap[b]? =some o∧p o)→
   Calls P f us.toArray w fun ev w'=>∃v',ev= .returned v'∧w'.ownsRow w.heap.size e z v' n vs∧Keeps (fun _=>False) w w'):
  PureCall P f args [] ⟨.os 1000000000, [], [.row 0 e z n g]⟩:=by
 refine ⟨hfn,fun w γ as_ ls vals hst hX hr=> ?_⟩
 have:=hargs _ _ _ _ hr
 subst this
 refine (h w fun b p hb=>(hst.glob b p hb).1).mono ?_
 rintro ev w' ⟨v',he,ho,hk⟩
 have ho0:OwnsG w' e z v' n vs:=OwnsG_of ho
 have hone:v'.oneCell'=true:=slice_one ho0
 have hblk:∀b,v'.ownBlock=some b→w.heap.size≤b∧b<w'.heap.size:=fun b hb=>by
  refine ⟨?_,own_lt' ho0 b hb⟩
  rcases ho.2 with ⟨h0,_⟩ | ⟨g,cap,cur,h0,h1,_⟩
  ·subst h0;cases hb
  ·subst h0;injection hb with hb;subst hb;exact h1
 have hnone:∀r,γ r=none:=fun r=>by
  have:=hst.dom r
  simpa using this
 refine ⟨v',fun r=>if r=1000000000 then some ⟨v'.ownBlock,v',z⟩ else none,he, .os _ ⟨v'.ownBlock,v',z⟩ (by simp) hone rfl, ?_,⟨hk.os,hk.tape,hk.output,hk.size,fun b hb _=>hk.block b hb (fun h=>h)⟩,fun r hr=>by simp [parN,nbx] at hr,fun r ge b hr hb=> ?_⟩
 ·refine ⟨fun r=> ?_,fun r ge se hr hs=> ?_,fun r r' ge ge' b hr hr' _ _=> ?_,fun b ⟨r,ge,hr,hb⟩=> ?_,fun b ⟨r,ge,hr,hb⟩=> ?_, ?_⟩
  rotate_right
  ·refine glob_keep hst.glob (fun b hlt _=>hk.block b hlt (fun h=>h)) (fun b ⟨r,ge,hr,hb⟩=> ?_)
   by_cases h:r=1000000000
   ·simp only [h,if_true,Option.some.injEq] at hr
    subst hr
    exact .inr (hblk b ((GE.has_row rfl).1 hb)).1
   ·simp only [h,if_false] at hr;cases hr
  ·by_cases h:r=1000000000
   ·subst h;simp [resSt,newBase]
   ·simp only [h,if_false,resSt]
    by_cases h2:newBase≤r
    ·have:1≤r - newBase:=by unfold newBase at *;omega
     rw [if_pos h2,List.getElem?_eq_none (by simpa using this)];rfl
    ·rw [if_neg h2];simp
  ·by_cases h:r=1000000000
   ·subst h
    simp only [if_true,Option.some.injEq] at hr
    subst hr
    simp [resSt,newBase] at hs
    subst hs
    exact (hrows _ _ _).repS rfl rfl hone ho0
   ·simp only [h,if_false] at hr;cases hr
  ·by_cases h:r=1000000000
   ·by_cases h':r'=1000000000
    ·rw [h,h']
    ·simp only [h',if_false] at hr';cases hr'
   ·simp only [h,if_false] at hr;cases hr
  ·by_cases h:r=1000000000
   ·simp only [h,if_true,Option.some.injEq] at hr
    subst hr
    have:=(hblk b ((GE.has_row rfl).1 hb)).1
    exact ⟨fun ha=>by have:=hX b (.inl ha);omega,fun ha=>by have:=hX b (.inr ha);omega⟩
   ·simp only [h,if_false] at hr;cases hr
  ·by_cases h:r=1000000000
   ·simp only [h,if_true,Option.some.injEq] at hr
    subst hr
    exact (hblk b ((GE.has_row rfl).1 hb)).2
   ·simp only [h,if_false] at hr;cases hr
 ·by_cases h:r=1000000000
  ·simp only [h,if_true,Option.some.injEq] at hr
   subst hr
   exact .inl (hblk b ((GE.has_row rfl).1 hb)).1
  ·simp only [h,if_false] at hr;cases hr
def eStr (s:List UInt8):List PV:= [.str s]
def strV (s:List UInt8):Value:= .string ⟨s.toArray⟩
theorem strs_rows {X:Cx} {γ:Gh} {w:World} (l:List (List UInt8)):RowsRep X γ w 0 1 l.length (fl eStr l) (l.map strV):=by
 refine ⟨by simp,fun u hu=> ?_,fun i hi=>rfl,fun i hi c hc=> ?_,fun i j c u hi hc hu=> ?_⟩
 ·obtain ⟨n,_,rfl⟩:=List.mem_map.1 hu;rfl
 ·have:c= .str (l.getD i default):=by simpa [fl,eStr] using hc
  subst this;rfl
 ·have hj:j=0:=by
    have:=(List.getElem?_eq_some_iff.1 hc).1
    simp [fl,eStr] at this;omega
  subst hj
  have:c= .str (l.getD i default):=by
   have h0:some (PV.str (l.getD i default))=some c:=hc
   injection h0 with h0;exact h0.symm
  subst this
  rw [Nat.mul_one,Nat.add_zero,List.getElem?_map,getD_some hi] at hu
  injection hu with hu;subst hu
  exact .str _
end Pv
namespace Sh
open Go.Shelf
open Go.Shelf
def lays146_ren:Go.Shelf.Ren:=⟨fun | 146=>132 | 221=>191 | 268=>239 | 138=>240 | 143=>241 | 195=>285 | 197=>286 | 218=>287 | 219=>288 | 260=>319 | 217=>320 | 225=>321 | 224=>322 | 267=>323 | 266=>335 | 314=>336 | n=>n,fun | 9=>9 | 31=>181 | 3=>3 | 4=>4 | 0=>0 | 105=>414 | 21=>21 | 5=>5 | 46=>201 | 119=>451 | 139=>454 | 138=>453 | 146=>455 | 51=>399 | n=>n,fun | 1=>4 | 3=>9 | 4=>10 | n=>n⟩
theorem lays146:Go.Proofs.Lays.n146 Tryz.prog lays146_ren:={
 mixed:=by kernel_rfl
 f138:=Tryz.func240.trans (congrArg some (by kernel_rfl))
 f143:=Tryz.func241.trans (congrArg some (by kernel_rfl))
 f146:=Tryz.func132.trans (congrArg some (by kernel_rfl))
 f195:=Tryz.func285.trans (congrArg some (by kernel_rfl))
 f197:=Tryz.func286.trans (congrArg some (by kernel_rfl))
 f217:=Tryz.func320.trans (congrArg some (by kernel_rfl))
 f218:=Tryz.func287.trans (congrArg some (by kernel_rfl))
 f219:=Tryz.func288.trans (congrArg some (by kernel_rfl))
 f221:=Tryz.func191.trans (congrArg some (by kernel_rfl))
 f224:=Tryz.func322.trans (congrArg some (by kernel_rfl))
 f225:=Tryz.func321.trans (congrArg some (by kernel_rfl))
 f260:=Tryz.func319.trans (congrArg some (by kernel_rfl))
 f266:=Tryz.func335.trans (congrArg some (by kernel_rfl))
 f267:=Tryz.func323.trans (congrArg some (by kernel_rfl))
 f268:=Tryz.func239.trans (congrArg some (by kernel_rfl))
 f314:=Tryz.func336.trans (congrArg some (by kernel_rfl))
 t0:=Tryz.underlying0
 a0:=Tryz.isAgg0
 z0:=Tryz.sizeOf0
 v0:=Tryz.zeroValue0
 t3:=Tryz.underlying3
 a3:=Tryz.isAgg3
 z3:=Tryz.sizeOf3
 v3:=Tryz.zeroValue3
 t4:=Tryz.underlying4
 a4:=Tryz.isAgg4
 z4:=Tryz.sizeOf4
 v4:=Tryz.zeroValue4
 t5:=Tryz.underlying5
 a5:=Tryz.isAgg5
 z5:=Tryz.sizeOf5
 v5:=Tryz.zeroValue5
 t9:=Tryz.underlying9
 a9:=Tryz.isAgg9
 z9:=Tryz.sizeOf9
 v9:=Tryz.zeroValue9
 t21:=Tryz.underlying21
 a21:=Tryz.isAgg21
 z21:=Tryz.sizeOf21
 v21:=Tryz.zeroValue21
 t31:=Tryz.underlying181
 a31:=Tryz.isAgg181
 z31:=Tryz.sizeOf181
 v31:=Tryz.zeroValue181
 t46:=Tryz.underlying201
 a46:=Tryz.isAgg201
 z46:=Tryz.sizeOf201
 v46:=Tryz.zeroValue201
 t51:=Tryz.underlying399
 a51:=Tryz.isAgg399
 z51:=Tryz.sizeOf399
 v51:=Tryz.zeroValue399
 t105:=Tryz.underlying414
 a105:=Tryz.isAgg414
 z105:=Tryz.sizeOf414
 v105:=Tryz.zeroValue414
 t119:=Tryz.underlying451
 a119:=Tryz.isAgg451
 z119:=Tryz.sizeOf451
 t138:=Tryz.underlying453
 a138:=Tryz.isAgg453
 z138:=Tryz.sizeOf453
 v138:=Tryz.zeroValue453
 t139:=Tryz.underlying454
 a139:=Tryz.isAgg454
 z139:=Tryz.sizeOf454
 v139:=Tryz.zeroValue454
 t146:=Tryz.underlying455
 a146:=Tryz.isAgg455
 z146:=Tryz.sizeOf455
 v146:=Tryz.zeroValue455
 g1:=by kernel_rfl
 g3:=by kernel_rfl
 g4:=by kernel_rfl }
def lays229_ren:Go.Shelf.Ren:=⟨fun | 229=>149 | n=>n,fun | 9=>9 | 40=>282 | 31=>181 | 152=>329 | 3=>3 | 0=>0 | 4=>4 | 21=>21 | 154=>331 | n=>n,fun | n=>n⟩
theorem lays229:Go.Proofs.Lays.n229 Tryz.prog lays229_ren:={
 mixed:=by kernel_rfl
 f229:=Tryz.func149.trans (congrArg some (by kernel_rfl))
 t0:=Tryz.underlying0
 a0:=Tryz.isAgg0
 z0:=Tryz.sizeOf0
 v0:=Tryz.zeroValue0
 t3:=Tryz.underlying3
 a3:=Tryz.isAgg3
 z3:=Tryz.sizeOf3
 v3:=Tryz.zeroValue3
 t4:=Tryz.underlying4
 a4:=Tryz.isAgg4
 z4:=Tryz.sizeOf4
 v4:=Tryz.zeroValue4
 t9:=Tryz.underlying9
 a9:=Tryz.isAgg9
 z9:=Tryz.sizeOf9
 v9:=Tryz.zeroValue9
 t21:=Tryz.underlying21
 a21:=Tryz.isAgg21
 z21:=Tryz.sizeOf21
 v21:=Tryz.zeroValue21
 t31:=Tryz.underlying181
 a31:=Tryz.isAgg181
 z31:=Tryz.sizeOf181
 v31:=Tryz.zeroValue181
 t40:=Tryz.underlying282
 a40:=Tryz.isAgg282
 z40:=Tryz.sizeOf282
 v40:=Tryz.zeroValue282
 t152:=Tryz.underlying329
 a152:=Tryz.isAgg329
 z152:=Tryz.sizeOf329
 v152:=Tryz.zeroValue329
 t154:=Tryz.underlying331
 a154:=Tryz.isAgg331
 z154:=Tryz.sizeOf331
 v154:=Tryz.zeroValue331 }
def lays160_ren:Go.Shelf.Ren:=⟨fun | 160=>193 | 232=>243 | 231=>242 | 227=>244 | 234=>246 | 233=>245 | 236=>248 | 235=>247 | 228=>289 | 271=>291 | 151=>290 | 197=>286 | 120=>325 | 152=>324 | 260=>319 | 137=>337 | 119=>338 | 224=>322 | 225=>321 | 217=>320 | 266=>335 | n=>n,fun | 9=>9 | 4=>4 | 3=>3 | 5=>5 | 117=>382 | 116=>381 | 0=>0 | 124=>385 | 21=>21 | 105=>414 | 46=>201 | 119=>451 | 139=>454 | 138=>453 | n=>n,fun | 3=>9 | 4=>10 | n=>n⟩
theorem lays160:Go.Proofs.Lays.n160 Tryz.prog lays160_ren:={
 mixed:=by kernel_rfl
 f119:=Tryz.func338.trans (congrArg some (by kernel_rfl))
 f120:=Tryz.func325.trans (congrArg some (by kernel_rfl))
 f137:=Tryz.func337.trans (congrArg some (by kernel_rfl))
 f151:=Tryz.func290.trans (congrArg some (by kernel_rfl))
 f152:=Tryz.func324.trans (congrArg some (by kernel_rfl))
 f160:=Tryz.func193.trans (congrArg some (by kernel_rfl))
 f197:=Tryz.func286.trans (congrArg some (by kernel_rfl))
 f217:=Tryz.func320.trans (congrArg some (by kernel_rfl))
 f224:=Tryz.func322.trans (congrArg some (by kernel_rfl))
 f225:=Tryz.func321.trans (congrArg some (by kernel_rfl))
 f227:=Tryz.func244.trans (congrArg some (by kernel_rfl))
 f228:=Tryz.func289.trans (congrArg some (by kernel_rfl))
 f231:=Tryz.func242.trans (congrArg some (by kernel_rfl))
 f232:=Tryz.func243.trans (congrArg some (by kernel_rfl))
 f233:=Tryz.func245.trans (congrArg some (by kernel_rfl))
 f234:=Tryz.func246.trans (congrArg some (by kernel_rfl))
 f235:=Tryz.func247.trans (congrArg some (by kernel_rfl))
 f236:=Tryz.func248.trans (congrArg some (by kernel_rfl))
 f260:=Tryz.func319.trans (congrArg some (by kernel_rfl))
 f266:=Tryz.func335.trans (congrArg some (by kernel_rfl))
 f271:=Tryz.func291.trans (congrArg some (by kernel_rfl))
 t0:=Tryz.underlying0
 a0:=Tryz.isAgg0
 z0:=Tryz.sizeOf0
 v0:=Tryz.zeroValue0
 t3:=Tryz.underlying3
 a3:=Tryz.isAgg3
 z3:=Tryz.sizeOf3
 v3:=Tryz.zeroValue3
 t4:=Tryz.underlying4
 a4:=Tryz.isAgg4
 z4:=Tryz.sizeOf4
 v4:=Tryz.zeroValue4
 t5:=Tryz.underlying5
 a5:=Tryz.isAgg5
 z5:=Tryz.sizeOf5
 v5:=Tryz.zeroValue5
 t9:=Tryz.underlying9
 a9:=Tryz.isAgg9
 z9:=Tryz.sizeOf9
 v9:=Tryz.zeroValue9
 t21:=Tryz.underlying21
 a21:=Tryz.isAgg21
 z21:=Tryz.sizeOf21
 v21:=Tryz.zeroValue21
 t46:=Tryz.underlying201
 a46:=Tryz.isAgg201
 z46:=Tryz.sizeOf201
 v46:=Tryz.zeroValue201
 t105:=Tryz.underlying414
 a105:=Tryz.isAgg414
 z105:=Tryz.sizeOf414
 v105:=Tryz.zeroValue414
 t116:=Tryz.underlying381
 a116:=Tryz.isAgg381
 z116:=Tryz.sizeOf381
 t117:=Tryz.underlying382
 a117:=Tryz.isAgg382
 z117:=Tryz.sizeOf382
 v117:=Tryz.zeroValue382
 t119:=Tryz.underlying451
 a119:=Tryz.isAgg451
 z119:=Tryz.sizeOf451
 t124:=Tryz.underlying385
 a124:=Tryz.isAgg385
 z124:=Tryz.sizeOf385
 v124:=Tryz.zeroValue385
 t138:=Tryz.underlying453
 a138:=Tryz.isAgg453
 z138:=Tryz.sizeOf453
 v138:=Tryz.zeroValue453
 t139:=Tryz.underlying454
 a139:=Tryz.isAgg454
 z139:=Tryz.sizeOf454
 v139:=Tryz.zeroValue454
 g3:=by kernel_rfl
 g4:=by kernel_rfl }
def lays172_ren:Go.Shelf.Ren:=⟨fun | 172=>194 | 244=>249 | 245=>250 | 247=>292 | 279=>293 | 280=>294 | 281=>295 | 282=>296 | 287=>326 | 316=>327 | 171=>65 | 205=>328 | 321=>339 | 322=>340 | 243=>131 | 246=>190 | 283=>235 | 284=>236 | 285=>237 | 286=>238 | 129=>269 | 317=>281 | 318=>282 | 319=>283 | 320=>284 | 337=>317 | 338=>318 | n=>n,fun | 9=>9 | 3=>3 | 75=>171 | 76=>172 | 4=>4 | 5=>5 | 167=>419 | 37=>92 | 0=>0 | 85=>420 | 2=>2 | 168=>422 | 53=>372 | 175=>438 | 46=>201 | 210=>442 | 127=>263 | 145=>461 | 143=>459 | 21=>21 | 171=>371 | 173=>375 | 212=>411 | 51=>399 | 20=>20 | 213=>412 | 232=>449 | 233=>450 | 80=>178 | n=>n,fun | 15=>5 | 16=>6 | 17=>3 | 18=>7 | 19=>8 | n=>n⟩
theorem lays172:Go.Proofs.Lays.n172 Tryz.prog lays172_ren:={
 mixed:=by kernel_rfl
 f129:=Tryz.func269.trans (congrArg some (by kernel_rfl))
 f171:=Tryz.func65.trans (congrArg some (by kernel_rfl))
 f172:=Tryz.func194.trans (congrArg some (by kernel_rfl))
 f205:=Tryz.func328.trans (congrArg some (by kernel_rfl))
 f243:=Tryz.func131.trans (congrArg some (by kernel_rfl))
 f244:=Tryz.func249.trans (congrArg some (by kernel_rfl))
 f245:=Tryz.func250.trans (congrArg some (by kernel_rfl))
 f246:=Tryz.func190.trans (congrArg some (by kernel_rfl))
 f247:=Tryz.func292.trans (congrArg some (by kernel_rfl))
 f279:=Tryz.func293.trans (congrArg some (by kernel_rfl))
 f280:=Tryz.func294.trans (congrArg some (by kernel_rfl))
 f281:=Tryz.func295.trans (congrArg some (by kernel_rfl))
 f282:=Tryz.func296.trans (congrArg some (by kernel_rfl))
 f283:=Tryz.func235.trans (congrArg some (by kernel_rfl))
 f284:=Tryz.func236.trans (congrArg some (by kernel_rfl))
 f285:=Tryz.func237.trans (congrArg some (by kernel_rfl))
 f286:=Tryz.func238.trans (congrArg some (by kernel_rfl))
 f287:=Tryz.func326.trans (congrArg some (by kernel_rfl))
 f316:=Tryz.func327.trans (congrArg some (by kernel_rfl))
 f317:=Tryz.func281.trans (congrArg some (by kernel_rfl))
 f318:=Tryz.func282.trans (congrArg some (by kernel_rfl))
 f319:=Tryz.func283.trans (congrArg some (by kernel_rfl))
 f320:=Tryz.func284.trans (congrArg some (by kernel_rfl))
 f321:=Tryz.func339.trans (congrArg some (by kernel_rfl))
 f322:=Tryz.func340.trans (congrArg some (by kernel_rfl))
 f337:=Tryz.func317.trans (congrArg some (by kernel_rfl))
 f338:=Tryz.func318.trans (congrArg some (by kernel_rfl))
 t0:=Tryz.underlying0
 a0:=Tryz.isAgg0
 z0:=Tryz.sizeOf0
 v0:=Tryz.zeroValue0
 t2:=Tryz.underlying2
 a2:=Tryz.isAgg2
 z2:=Tryz.sizeOf2
 v2:=Tryz.zeroValue2
 t3:=Tryz.underlying3
 a3:=Tryz.isAgg3
 z3:=Tryz.sizeOf3
 v3:=Tryz.zeroValue3
 t4:=Tryz.underlying4
 a4:=Tryz.isAgg4
 z4:=Tryz.sizeOf4
 v4:=Tryz.zeroValue4
 t5:=Tryz.underlying5
 a5:=Tryz.isAgg5
 z5:=Tryz.sizeOf5
 v5:=Tryz.zeroValue5
 t9:=Tryz.underlying9
 a9:=Tryz.isAgg9
 z9:=Tryz.sizeOf9
 v9:=Tryz.zeroValue9
 t20:=Tryz.underlying20
 a20:=Tryz.isAgg20
 z20:=Tryz.sizeOf20
 v20:=Tryz.zeroValue20
 t21:=Tryz.underlying21
 a21:=Tryz.isAgg21
 z21:=Tryz.sizeOf21
 v21:=Tryz.zeroValue21
 t37:=Tryz.underlying92
 a37:=Tryz.isAgg92
 z37:=Tryz.sizeOf92
 v37:=Tryz.zeroValue92
 t46:=Tryz.underlying201
 a46:=Tryz.isAgg201
 z46:=Tryz.sizeOf201
 v46:=Tryz.zeroValue201
 t51:=Tryz.underlying399
 a51:=Tryz.isAgg399
 z51:=Tryz.sizeOf399
 v51:=Tryz.zeroValue399
 t53:=Tryz.underlying372
 a53:=Tryz.isAgg372
 z53:=Tryz.sizeOf372
 v53:=Tryz.zeroValue372
 t75:=Tryz.underlying171
 a75:=Tryz.isAgg171
 z75:=Tryz.sizeOf171
 v75:=Tryz.zeroValue171
 t76:=Tryz.underlying172
 a76:=Tryz.isAgg172
 z76:=Tryz.sizeOf172
 v76:=Tryz.zeroValue172
 t85:=Tryz.underlying420
 a85:=Tryz.isAgg420
 z85:=Tryz.sizeOf420
 v85:=Tryz.zeroValue420
 t127:=Tryz.underlying263
 a127:=Tryz.isAgg263
 z127:=Tryz.sizeOf263
 v127:=Tryz.zeroValue263
 t143:=Tryz.underlying459
 a143:=Tryz.isAgg459
 z143:=Tryz.sizeOf459
 v143:=Tryz.zeroValue459
 t145:=Tryz.underlying461
 a145:=Tryz.isAgg461
 z145:=Tryz.sizeOf461
 v145:=Tryz.zeroValue461
 t167:=Tryz.underlying419
 a167:=Tryz.isAgg419
 z167:=Tryz.sizeOf419
 v167:=Tryz.zeroValue419
 t168:=Tryz.underlying422
 a168:=Tryz.isAgg422
 z168:=Tryz.sizeOf422
 v168:=Tryz.zeroValue422
 t171:=Tryz.underlying371
 a171:=Tryz.isAgg371
 z171:=Tryz.sizeOf371
 v171:=Tryz.zeroValue371
 t173:=Tryz.underlying375
 a173:=Tryz.isAgg375
 z173:=Tryz.sizeOf375
 v173:=Tryz.zeroValue375
 t175:=Tryz.underlying438
 a175:=Tryz.isAgg438
 z175:=Tryz.sizeOf438
 v175:=Tryz.zeroValue438
 t210:=Tryz.underlying442
 a210:=Tryz.isAgg442
 z210:=Tryz.sizeOf442
 v210:=Tryz.zeroValue442
 t212:=Tryz.underlying411
 a212:=Tryz.isAgg411
 z212:=Tryz.sizeOf411
 v212:=Tryz.zeroValue411
 t213:=Tryz.underlying412
 a213:=Tryz.isAgg412
 z213:=Tryz.sizeOf412
 t232:=Tryz.underlying449
 a232:=Tryz.isAgg449
 z232:=Tryz.sizeOf449
 v232:=Tryz.zeroValue449
 t233:=Tryz.underlying450
 a233:=Tryz.isAgg450
 z233:=Tryz.sizeOf450
 v233:=Tryz.zeroValue450
 g15:=by kernel_rfl
 g16:=by kernel_rfl
 g17:=by kernel_rfl
 g18:=by kernel_rfl
 g19:=by kernel_rfl }
open Go.RowKit Go.Lib in
theorem strings_Split (s sep:ByteArray) (m:Int) (w:World) (hs:s.size<4294967281) (hm:w.cell? ⟨4,0,none⟩=some (.int .i64 m)) (h1:1≤sep.size):
 Calls Tryz.prog 132 #[.string s, .string sep] w fun e w'=>
  e= .returned (.slice (some ⟨w.heap.size,0,none⟩) (Lib.countB s sep+1) (Lib.countB s sep+1))∧w'=w.alloc (.cells ((Lib.splitB sep 0 (Lib.countB s sep) s).map Value.string).toArray 9):=Any.strings_Split lays146 (by kernel_rfl) s sep m w hs hm h1
open Go.RowKit Go.Lib in
theorem strings_FieldsFunc (g:Nat) (lb:Array Value) (eg:∀args w,(callFunc g args).run Tryz.prog w= .ok (.enter g args) w) (p:Nat→Bool) (s:ByteArray) (w:World) (hs:s.size≤4294967296) (hp:PredAt Tryz.prog g lb encR p w):
 Calls Tryz.prog 149 #[.string s, .func (.func g) #[] lb] w fun e w'=>∃A,e= .returned (.slice (some ⟨A,0,none⟩) (Lib.goFieldsP p s).length (Lib.goFieldsP p s).length)∧w.heap.size≤A∧
  w'.ownsRow w.heap.size 9 1 (.slice (some ⟨A,0,none⟩) (Lib.goFieldsP p s).length (Lib.goFieldsP p s).length) (Lib.goFieldsP p s).length ((Lib.goFieldsP p s).map Value.string)∧Below w.heap.size w w':=Any.strings_FieldsFunc lays229 g lb eg p s w hs hp (by kernel_rfl) (by kernel_rfl)
open Go.RowKit in
theorem strconv_Atoi (s:ByteArray) (n:Int) (hl:s.size≤18) (h:Lib.atoi s.data.toList=some n) (w:World):
 Calls Tryz.prog 194 #[.string s] w fun e w'=>e= .returned (.tuple #[.int .i64 n, .nilIface])∧∃t,w'=Lib.bytesWorld w 5 t:=Any.strconv_Atoi lays172 s n hl h w
end Sh
namespace Pv
open Go.RowKit
theorem args_str (s:List UInt8) (X:Cx) (γ:Gh) (w:World) (vals:List Value) (h:RepL X γ w [.str s] vals):vals= [strV s]:=by
 obtain ⟨v,us,rfl,hv,hus⟩:=h.cons_inv
 rw [hv.str_inv,hus.nil_inv];rfl
theorem args_str2 (s t:List UInt8) (X:Cx) (γ:Gh) (w:World) (vals:List Value) (h:RepL X γ w [.str s, .str t] vals):vals= [strV s,strV t]:=by
 obtain ⟨v,us,rfl,hv,hus⟩:=h.cons_inv
 rw [hv.str_inv,args_str t X γ w us hus];rfl
theorem rep_tup1 (n:Int) (X:Cx) (γ:Gh) (w:World):Rep X γ w (.tup [.int .i64 n, .raw .nilIface]) (.tuple #[.int .i64 n, .nilIface]):=by
 refine .tup _ [.int .i64 n, .nilIface] rfl fun k c u hc hu=> ?_
 match k,hc,hu with
 | 0,hc,hu=>injection hc with hc;injection hu with hu;subst hc;subst hu;exact .int _ _
 | 1,hc,hu=>injection hc with hc;injection hu with hu;subst hc;subst hu;exact .raw _ rfl
 | k+2,hc,hu=>simp at hc
theorem some_int {w:World} (hg:∀b p,Pv.glob b=some p→∃o,w.heap[b]? =some o∧p o):∃m,w.cell? ⟨4,0,none⟩=some (.int .i64 m):=by
 obtain ⟨o,ho,cs,T,fz,m,rfl,hm⟩:=hg 4 someInt rfl
 exact ⟨m,by rw [Lib.cell_of_heap ho];exact hm⟩
theorem splitB_C (s:List UInt8) (c:UInt8):(Lib.splitB ⟨#[c]⟩ 0 (Lib.countB ⟨s.toArray⟩ ⟨#[c]⟩) ⟨s.toArray⟩).map Value.string=(splitC c s).map strV:=by
 have h:=Lib.splitB_data ⟨#[c]⟩ 0 (Lib.countB ⟨s.toArray⟩ ⟨#[c]⟩) ⟨s.toArray⟩
 have h2:Lib.splitK [c] 0 (Lib.count s [c]) s=splitC c s:=splitK_C c s
 have h3:(Lib.splitB ⟨#[c]⟩ 0 (Lib.countB ⟨s.toArray⟩ ⟨#[c]⟩) ⟨s.toArray⟩).map (·.data.toList)=splitC c s:=h.trans h2
 rw [←h3,List.map_map]
 exact List.map_congr_left fun x _=>by
  show Value.string x=Value.string ⟨x.data.toList.toArray⟩
  simp
theorem call132 (s:List UInt8) (c:UInt8) (h:s.length<4294967281):PureCall Tryz.prog 132 [.str s, .str [c]] [] ⟨.os 1000000000, [], [.row 0 9 1 (splitC c s).length (fl eStr (splitC c s))]⟩:=by
 have h1:1≤(⟨#[c]⟩:ByteArray).size:=Nat.le_refl 1
 have hN:Lib.countB ⟨s.toArray⟩ ⟨#[c]⟩+1=(splitC c s).length:=by
  rw [←Lib.splitB_all ⟨#[c]⟩ h1 0 _ ⟨s.toArray⟩ rfl,←List.length_map (f:=Value.string),splitB_C,List.length_map]
 refine pure_new2 (vs:=(splitC c s).map strV) ⟨_,Tryz.func132,rfl,rfl⟩ (args_str2 s [c]) (fun X γ w=>strs_rows (splitC c s)) fun w hg=> ?_
 obtain ⟨m,hm⟩:=some_int hg
 refine (Sh.strings_Split ⟨s.toArray⟩ ⟨#[c]⟩ m w (by show s.toArray.size<_;rw [List.size_toArray];exact h) hm h1).mono ?_
 rintro ev w' ⟨he,hw⟩
 rw [splitB_C] at hw
 rw [hN] at he
 have hle:=(splitC_len c s).1
 have hnew:w'.heap[w.heap.size]? =some (.cells ((splitC c s).map strV).toArray 9 (0,0)):=by
  rw [hw]
  show (w.heap.push _)[w.heap.size]? =_
  simp
 refine ⟨_,he,⟨by simp, .inr ⟨w.heap.size,_,_,rfl,Nat.le_refl _,hnew,Nat.le_refl _,by unfold maxLen;omega,by simp,by simp only [Nat.mul_one];exact List.take_of_length_le (by simp)⟩⟩,by rw [hw];exact Keeps.alloc _ _ _⟩
open Go.Shelf Go.Lib in
theorem is_blank (w:World):PredAt Tryz.prog 192 #[] encR (fun r=>decide ((r:Int)=32∨(r:Int)=10)) w:=fun W r _=>by
 unfold FnGives
 go_enter Tryz.func192,Tryz.ntmps192
 go_wp2
 all_goals (go_ret)
 ·rename_i h
  exact ⟨by simp [h],0,rfl⟩
 ·rename_i h
  refine ⟨?_,0,rfl⟩
  have e:((r:Int)==32 || (r:Int)==10)=decide ((r:Int)=32∨(r:Int)=10):=by
   rw [Bool.decide_or];rfl
  rw [←e]
  rfl
open Go.Shelf Go.Lib in
theorem call149 (s:List UInt8) (h:s.length≤65536):PureCall Tryz.prog 149 [.str s, .fn (.func 192) [] []] [] ⟨.os 1000000000, [], [.row 0 9 1 (wordsB isBl s).length (fl eStr (wordsB isBl s))]⟩:=by
 have hw:(Lib.goFieldsP (fun r=>decide ((r:Int)=32∨(r:Int)=10)) ⟨s.toArray⟩).map Value.string=(wordsB isBl s).map strV:=by
  rw [←fields_words s,List.map_map]
  exact List.map_congr_left fun x _=>by
   show Value.string x=Value.string ⟨x.data.toList.toArray⟩
   simp
 have hl:(Lib.goFieldsP (fun r=>decide ((r:Int)=32∨(r:Int)=10)) ⟨s.toArray⟩).length=(wordsB isBl s).length:=by
  have:=congrArg List.length hw
  simpa using this
 refine pure_new2 (us:= [strV s, .func (.func 192) #[] #[]]) (vs:=(wordsB isBl s).map strV) ⟨_,Tryz.func149,rfl,rfl⟩ (fun X γ w vals h=> ?_) (fun X γ w=>strs_rows (wordsB isBl s)) fun w hg=> ?_
 ·obtain ⟨v,us,rfl,hv,hus⟩:=h.cons_inv
  obtain ⟨v2,us2,rfl,hv2,hus2⟩:=hus.cons_inv
  rw [hv.str_inv,hus2.nil_inv]
  cases hv2 with
  | fn _ _ _ vs us hvl hul h h'=>
    have e1:vs= []:=List.eq_nil_of_length_eq_zero hvl
    have e2:us= []:=List.eq_nil_of_length_eq_zero hul
    subst e1 e2
    rfl
 ·refine (Sh.strings_FieldsFunc 192 #[] (enters_of Tryz.func192 (by kernel_rfl) rfl) _ ⟨s.toArray⟩ w (by show s.toArray.size≤_;rw [List.size_toArray];omega) (is_blank w)).mono ?_
  rintro ev w' ⟨A,he,_,ho,hb⟩
  rw [hl,hw] at ho
  rw [hl] at he
  exact ⟨_,he,ho,⟨hb.os,hb.tape,hb.output,hb.size,fun b hlt _=>hb.block b hlt⟩⟩
open Go.RowKit
theorem keeps_below {w w':World} (hb:Below w.heap.size w w'):Keeps (fun _=>False) w w':=
 ⟨hb.os,hb.tape,hb.output,hb.size,fun b hlt _=>hb.block b hlt⟩
theorem keeps_bytes (w:World) (e:TypeId) (t:ByteArray):Keeps (fun _=>False) w (Lib.bytesWorld w e t):=
 ⟨rfl,rfl,rfl,by simp [Lib.bytesWorld,World.freeze,World.alloc],fun b hb _=>by
  have hne:¬w.heap.size=b:=Nat.ne_of_gt hb
  have hd:w.drew.heap=w.heap:=rfl
  simp only [Lib.bytesWorld,World.freeze,World.alloc]
  rw [if_neg (by decide)]
  show (Array.modify _ _ _)[b]? =_
  rw [Array.getElem?_modify,if_neg hne]
  show (w.heap.push _)[b]? =w.heap[b]?
  rw [Array.getElem?_push,if_neg (Nat.ne_of_lt hb)]⟩
theorem call193 (s:List UInt8) (h:s.length≤9223372036854775807):PureCall Tryz.prog 193 [.str s, .str digT] [] ⟨.str (Lib.trimS s digT), [], []⟩:=
 pure_still ⟨_,Tryz.func193,rfl,rfl⟩ (args_str2 s digT) (fun _ _ _=> .str _) fun w hg=>
  (Any.strings_Trim_laid Sh.lays160 (by kernel_rfl) ⟨s.toArray⟩ ⟨digT.toArray⟩ w (by show s.toArray.size≤_;rw [List.size_toArray];exact h) (by decide) (ascii_of_all (by decide))).mono fun ev w' ⟨he,hb⟩=>⟨he,keeps_below hb⟩
theorem call194 (s:List UInt8) (n:Int) (h:numF s=some n):PureCall Tryz.prog 194 [.str s] [] ⟨.tup [.int .i64 n, .raw .nilIface], [], []⟩:=
 pure_still ⟨_,Tryz.func194,rfl,rfl⟩ (args_str s) (rep_tup1 n) fun w hg=>
  (Sh.strconv_Atoi ⟨s.toArray⟩ n (by
   show s.toArray.size≤18
   rw [List.size_toArray]
   unfold numF at h
   split at h
   ·cases h
   ·omega) (num_atoi h).1 w).mono fun ev w' ⟨he,t,hw⟩=>⟨he,by rw [hw];exact keeps_bytes w 5 t⟩
def c134:C:=(sr [kk 2 (.mv (.c (.str [])))] (.seq (sr [km 4 0,kk 5 (.nc 4),kf 6 0 5,kl 7 6,kk 8 (.len 7),kb 9 .eql 8 (cn 0)] (.cond 9 (sr [km 10 0,kk 11 (.nc 10),kf 12 1 11,kz (.st 1 12 ct)] (sr [kk 2 (.mv (.c (.str [])))] .ret)) .skip)) (sr [km 13 0,kk 14 (.nc 13),kf 15 0 14,kl 16 15,ki 17 1 16 (cn 0),kl 18 17,km 3 18] (sr [km 19 0,km 20 0,kk 21 (.nc 20),kf 22 0 21,kl 23 22,kk 24 (.slc 1 23 (some (cn 1)) none),kk 25 (.nc 19),kf 26 0 25,kx 1 26 24] (sr [km 27 3,km 2 27] .ret)))))
theorem fits134:fits Tryz.prog false Tryz.f134 1 28 [(2,none)]=some c134.er:=by kernel_rfl
def c135:C:=(sr [kk 2 (.mv (cn 0))] (sr [km 6 0,kc 7 134 [6],km 3 7] (.seq (sr [km 8 3,kk 9 (.lens 8),kb 10 .eql 9 (cn 0),km 11 10,kg 12 11 false (.mv 3),kg 13 11 false (.lens 12),kg 14 11 false (.bi false .gtr 13 (cn 10)),kk 15 (.pick 11 ct 14),km 16 15,kg 17 16 false (.mv 3),kg 18 16 false (cl 193 [17,(.c (.str [48,49,50,51,52,53,54,55,56,57]))]),kg 19 16 false (.bi false .neq 18 (.c (.str []))),kk 20 (.pick 16 ct 19)] (.cond 20 (sr [km 21 0,kk 22 (.nc 21),kf 23 1 22,kz (.st 1 23 ct)] (sr [kk 2 (.mv (cn 0))] .ret)) .skip)) (sr [km 25 3,kc 26 194 [25],km 24 26,ke 27 24 0,ke 28 24 1,km 4 27,km 5 28] (sr [km 29 4,km 2 29] .ret)))))
theorem fits135:fits Tryz.prog false Tryz.f135 1 30 [(2,none)]=some c135.er:=by kernel_rfl
def eRw (w:List (List UInt8)) (bad:Bool):List PV:= [.sl 1 1 w.length (fl eStr w), .bool bad]
theorem fl_tail (x:List UInt8) (r:List (List UInt8)):RowEq (x::r).tail.length (fun i=>fl eStr (x::r) (1+i)) (fl eStr r):=fun i _=>by
 simp only [fl];rw [Nat.add_comm];rfl
def wLens (w:List (List UInt8)):Prop:=w.length≤65537∧∀x∈w,x.length≤65536
theorem wLens.tail {w:List (List UInt8)} (h:wLens w):wLens w.tail:=⟨by have:=h.1;rw [List.length_tail];omega,fun x hx=>h.2 x (List.mem_of_mem_tail hx)⟩
theorem wLens.head {w:List (List UInt8)} (h:wLens w):(w.headD []).length≤65536:=by
 cases w with
 | nil=>exact Nat.zero_le _
 | cons x r=>exact h.2 x (List.mem_cons_self ..)
theorem call134 (w:List (List UInt8)) (bad:Bool):PureCall Tryz.prog 134 [.pt 0 0 0] [.box (eRw w bad)] ⟨.str (w.headD []), [.box (eRw w.tail (bad || w.isEmpty))], []⟩:=by
 refine pure_call mix Tryz.func134 fits134 rfl ?_
 cases w with
 | nil=>
   rw [show (bad || ([]:List (List UInt8)).isEmpty)=true by cases bad<;>rfl]
   conv=>whnf
   refine ⟨trivial,fun hc=> ?_,fun hc=>(by cases hc)⟩
   conv=>whnf
   exact retB
 | cons x r=>
   rw [show (bad || (x::r).isEmpty)=bad by cases bad<;>rfl]
   have hq:=fl_tail x r
   conv=>whnf
   refine ⟨trivial,fun hc=> ?_,fun hc=> ?_⟩
   ·simp only [bp,List.length_cons] at hc;omega
   conv=>whnf
   refine ⟨?_, [], ?_⟩
   ·exact g0
   conv=>whnf
   refine ⟨rfl, ?_, ?_,trivial⟩<;>exact ent
def numG (w:List (List UInt8)):Int:=(numF (w.headD [])).getD 0
def numB (w:List (List UInt8)):Bool:=(numF (w.headD [])).isNone
theorem num_test (s:List UInt8):(bif bif (s.length:Int)==0 then true else decide (10<(s.length:Int)) then true else !(Lib.trimS s digT== []))=(numF s).isNone:=by
 have hn:=num_none s
 cases h:numF s with
 | none=>
   rcases hn.1 h with h | h | h
   ·rw [h];rfl
   ·rw [show ((s.length:Int)==0)=false by rw [beq_eq_false_iff_ne];omega,decide_eq_true (by omega)];rfl
   ·rw [show (Lib.trimS s digT== [])=false by rw [beq_eq_false_iff_ne];exact h];simp
 | some n=>
   have h0:¬(s.length=0∨10<s.length∨Lib.trimS s digT≠ []):=fun hh=>by rw [hn.2 hh] at h;cases h
   have h1:s.length≠0:=fun e=>h0 (.inl e)
   have h2:¬10<s.length:=fun e=>h0 (.inr (.inl e))
   have h3:Lib.trimS s digT= []:=Classical.byContradiction fun e=>h0 (.inr (.inr e))
   rw [show ((s.length:Int)==0)=false by rw [beq_eq_false_iff_ne];omega,decide_eq_false (by omega),h3];rfl
theorem call135 (w:List (List UInt8)) (bad:Bool) (hw:wLens w):PureCall Tryz.prog 135 [.pt 0 0 0] [.box (eRw w bad)] ⟨.int .i64 (numG w), [.box (eRw w.tail (bad || numB w))], []⟩:=by
 have hs:=hw.head
 have hE:w.isEmpty=true→numB w=true:=fun h=>by
  have:w= []:=by simpa using h
  subst this;rfl
 unfold numG
 unfold numB at hE⊢
 refine pure_call mix Tryz.func135 fits135 rfl ?_
 conv=>whnf
 refine ⟨_,fun _=>call134 w bad, ?_⟩
 generalize w.headD []=s at hs hE⊢
 generalize w.tail=r
 have hn:=num_none s
 conv=>whnf
 refine ⟨_,fun _=>call193 s (by omega), ?_⟩
 conv=>whnf
 refine ⟨?_,fun hc=> ?_,fun hc=> ?_⟩
 ·exact g0
 ·rw [num_test] at hc
  have h0:numF s=none:=by simpa using hc
  rw [h0]
  rw [show (bad || (none:Option Int).isNone)=true by cases bad<;>rfl]
  conv=>whnf
  exact retB
 ·rw [num_test] at hc
  obtain ⟨n,h0⟩:∃n,numF s=some n:=by
   cases h:numF s with
   | none=>rw [h] at hc;cases hc
   | some n=>exact ⟨n,rfl⟩
  have hwe:w.isEmpty=false:=by
   cases he:w.isEmpty with
   | false=>rfl
   | true=>have:=hE he;rw [h0] at this;cases this
  rw [h0,hwe]
  rw [show (bad || (some n:Option Int).isNone)=bad by cases bad<;>rfl,show (bad || false)=bad by cases bad<;>rfl]
  conv=>whnf
  refine ⟨_,fun _=>call194 s n h0, ?_⟩
  conv=>whnf
  exact retB
def c69L1:C:=(sr [kb 29 .lss 28 (cn 5)] (.seq (.cond 29 .skip (.exit 0)) (.seq (.block 1 (sr [km 30 28,kk 31 (.ixa 5 1 false 27 28),km 8 30,km 9 31] (sr [km 32 8,kb 33 .gtr 32 (cn 0),km 34 33,kg 35 34 true (.mv 9),kg 36 34 true (.mv 7),kg 37 34 true (.bi false .eql 35 36),kk 38 (.pick 34 37 cf)] (.cond 38 (.reg [km 39 8,kf 40 1 5,kx 1 40 39]) .skip)))) (.reg [kb 41 .add 28 (cn 1),km 28 41]))))
def c69:C:=(sr [kk 2 (.al [z0,z0,z0,z0,z0,z0,z0]),kk 3 (.mv cf)] (.scope (sr [km 10 0,kk 11 (.bd [(.nil 1),(.bool false)] [(0,1,10)]),kk 12 (.bx 2 11),km 4 12] (sr [kk 13 (.bd [z0,z0] [(1,1,(cn 364))]),kk 14 (.bd [z0,z0,z0,z0,z0,z0,z0] [(3,2,13),(6,1,(cn 16777216))]),kk 5 (.al [z0,z0,z0,z0,z0,z0,z0]),kx 7 5 14] (sr [kk 15 (.mkm [.s] [.b] false false),km 6 15] (sr [km 16 4,km 17 4,kc 18 134 [17],kk 19 (.bi false .neq 18 (.c (.str [114,97,110,107]))),kk 20 (.nc 16),kf 21 1 20,kx 1 21 19] (sr [km 22 4,kc 23 135 [22],kf 24 0 5,kx 1 24 23] (sr [km 25 4,kc 26 134 [25],km 7 26] (.seq (sr [kk 27 (.ld 5 true (.c (.rp 1 [(.str []),(.str [108,101,97,115,116]),(.str [109,111,115,116]),(.str [117,112]),(.str [100,111,119,110])]))),kk 28 (.mv (cn 0))] (.block 0 (.loop c69L1))) (sr [km 42 4,km 43 4,kk 44 (.nc 43),kf 45 1 44,kl 46 45,km 47 46,kg 48 47 false (.fa 1 5),kg 49 47 false (.ld 1 false 48),kg 50 47 false (.bi false .eql 49 (cn 0)),kk 51 (.pick 47 ct 50),kk 52 (.nc 42),kf 53 1 52,kx 1 53 51] (sr [km 54 4,kc 55 135 [54],kf 56 2 5,kx 1 56 55] (.cut (.seq (.lab 0) (.seq (sr [km 57 4,kk 58 (.nc 57),kf 59 1 58,kl 60 59,km 61 60,kg 62 61 false (.mv 4),kg 63 61 false (.nc 62),kg 64 61 false (.fa 0 63),kg 65 61 false (.ld 1 false 64),kg 66 61 false (.len 65),kg 67 61 false (.bi false .eql 66 (cn 0)),kk 68 (.pick 61 ct 67)] (.cond 68 (.seq (.drw [kt 69 7 5,km 70 4,kk 71 (.nc 70),kf 72 1 71,kl 73 72,kk 74 (.un false .not 73),kx 7 2 69,km 3 74] (pl [(0,[1,2,3,4,5],69),(1,[6],70),(2,[6],71),(3,[6],72),(4,[6],73),(5,[6],74)])) .ret) .skip)) (sr [km 75 4,kc 76 134 [75],km 7 76] (sr [km 77 4,km 78 6,km 79 7,kk 80 (.mpg [.s] [.b] false false false 78 79),kk 81 (.nc 77),kf 82 1 81,kx 1 82 80] (sr [km 83 6,km 84 7,kz (.mpu [.s] [.b] false false 83 84 ct)] (.seq (sr [km 85 7] (.block 2 (sr [kk 90 (.bi false .eql 85 (.c (.str [100,97,121,115]))),km 89 90] (.cond 89 (.reg [km 91 4,kc 92 135 [91],km 93 4,kc 94 135 [93],kk 95 (.bd [z0,z0] [(0,1,92),(1,1,94)]),kf 96 3 5,kx 2 96 95]) (sr [kk 98 (.bi false .eql 85 (.c (.str [97,98,111,118,101]))),km 97 98] (.cond 97 (.reg [km 99 4,kc 100 135 [99],kf 101 5 5,kx 1 101 100]) (sr [kk 103 (.bi false .eql 85 (.c (.str [98,101,108,111,119]))),km 102 103] (.cond 102 (.reg [km 104 4,kc 105 135 [104],kf 106 6 5,kx 1 106 105]) (.reg [km 86 4,kk 87 (.nc 86),kf 88 1 87,kz (.st 1 88 ct)]))))))))) (.gto 0)))))))))))))))))))
theorem fits69:fits Tryz.prog false Tryz.f69 1 107 [(2,some (7,true)),(3,none)]=some c69.er:=by kernel_rfl
section
variable {P:Program} {s:PS} {wr:Bool} {np n:Nat} {Q:Lv→PS→Prop} {b:C}
theorem LSem.jumps2 (hmix:P.follows .mixedOrders=true) {α:Type} (l:Nat) (r:C) (hr:C.from l b=some r) (I:α→Prop) (fl:α→List (Nat×PV)) (sl:α→List (Nat×SE)) (μ:α→Nat)
  (pass:∀x,I x→∀J:PS→Prop,(∀s',(s'.ok∧∃x',I x'∧μ x'<μ x∧Ent np s' n (fl x') (sl x'))→J s')→vc (PureCall P) (LSem P wr np) r (jmps l J Q) (St n (fl x) (sl x)))
  (first:∀J:PS→Prop,(∀x,I x→vc (PureCall P) (LSem P wr np) r (jmps l J Q) (St n (fl x) (sl x)))→vc (PureCall P) (LSem P wr np) b (jmps l J Q) s):LSem P wr np (.scope b) Q s:=
 LSem.jumps hmix l r hr I fl sl μ (first _ fun x hx=>pass x hx _ fun _ ⟨h0,x',h1,_,h3⟩=>⟨h0,x',h1,h3⟩) fun x hx=>pass x hx _ fun _ h=>h
end
def partsG:Nat→Cd→Bool→Bool→Bool→Bool→List (List UInt8)→Cd×Bool
 | 0,c,bad,_,_,_,_=>(c, !bad)
 | n+1,c,bad,d,a,b,w=>if bad=true then (c,false) else match w with
   | []=>(c,true)
   | x::r=>if x=wDays then partsG n { c with f:=numG r,u:=numG r.tail } ((d || numB r) || numB r.tail) true a b r.tail.tail
     else if x=wAbove then partsG n { c with a:=numG r } (a || numB r) d true b r.tail
     else if x=wBelow then partsG n { c with b:=numG r } (b || numB r) d a true r.tail
     else (c,false)
def kU (w:List UInt8):Nat→Int
 | 0=>0
 | i+1=>if 0<i∧kindWords.getD i []=w then i else kU w i
theorem kU_kind (w:List UInt8):kU w 5=kindOf w:=by
 by_cases h1:w=wLeast
 ·subst h1;decide
 by_cases h2:w=wMost
 ·subst h2;decide
 by_cases h3:w=wUp
 ·subst h3;decide
 by_cases h4:w=wDown
 ·subst h4;decide
 unfold kindOf
 rw [if_neg h1,if_neg h2,if_neg h3,if_neg h4]
 unfold kU;rw [if_neg (fun h=>h4 h.2.symm)]
 unfold kU;rw [if_neg (fun h=>h3 h.2.symm)]
 unfold kU;rw [if_neg (fun h=>h2 h.2.symm)]
 unfold kU;rw [if_neg (fun h=>h1 h.2.symm)]
 unfold kU;rw [if_neg (fun h=>absurd h.1 (Nat.lt_irrefl 0))]
 rfl
def headG (w:List (List UInt8)):Cd×Bool:=
 (⟨numG w.tail,kindOf (w.tail.tail.headD []),numG w.tail.tail.tail,0,364,0,16777216⟩,
  (((!(w.headD []==wRank)) || numB w.tail) || w.tail.tail.isEmpty || (kindOf (w.tail.tail.headD [])==0)) || numB w.tail.tail.tail)
def condG (w:List (List UInt8)):Cd×Bool:=partsG (w.length+1) (headG w).1 (headG w).2 false false false w.tail.tail.tail.tail
theorem call69 (w:List (List UInt8)) (hw:wLens w):PureCall Tryz.prog 69 [.sl 1 1 w.length (fl eStr w)] [] ⟨.tup [.agg (eCd (condG w).1), .bool (condG w).2], [], []⟩:=by
 refine pure_call mix Tryz.func69 fits69 rfl ?_
 conv=>whnf
 refine ⟨trivial, ?_⟩
 refine LSem.jumps2 (n:=107) mix (α:=(Nat×Cd×Bool×Bool×Bool×Bool)×List (List UInt8)×(List PC→Bool)×(List PC→List PC)) 0 _ rfl
  (fun ⟨⟨n,c,bad,d,a,b⟩,w',h,f⟩=>wLens w'∧w'.length<n∧(f [.s wDays]= [.b d]∧f [.s wAbove]= [.b a]∧f [.s wBelow]= [.b b]∧∀k,∃z,f [.s k]= [.b z])∧partsG n c bad d a b w'=condG w)
  (fun ⟨⟨n,c,bad,d,a,b⟩,w',h,f⟩=> [(2, .pt 32 0 0),(4, .pt 192 0 0),(5, .pt 80 0 0),(6, .rf none 240)])
  (fun ⟨⟨n,c,bad,d,a,b⟩,w',h,f⟩=> [(32, .box [.int .i64 0, .int .i64 0, .int .i64 0, .int .i64 0, .int .i64 0, .int .i64 0, .int .i64 0]),(80, .box (eCd c)),(192, .box (eRw w' bad)),(240, .box [.mpv [.s] [.b] false false h f])])
  (fun x=>x.1.1) ?_ ?_
 ·rintro ⟨⟨n,c,bad,d,a,b⟩,w',h,f⟩ ⟨h1,h2,⟨h3,h4,h5,h6⟩,h7⟩ J hJ
  obtain ⟨n,rfl⟩:∃m,n=m+1:=⟨n - 1,by omega⟩
  cases bad with
  | true=>
    rw [show condG w=(c,false) from h7.symm]
    conv=>whnf
    refine ⟨?_,fun hc=> ?_,fun hc=>(by cases hc)⟩
    ·exact g0
    conv=>whnf
    refine ⟨rfl, ?_⟩
    conv=>whnf
    refine ⟨?_, [], ?_⟩
    ·exact g0
    conv=>whnf
    refine ⟨rfl, ?_,trivial,trivial⟩
    exact ent
  | false=>
    cases w' with
    | nil=>
      rw [show condG w=(c,true) from h7.symm]
      conv=>whnf
      refine ⟨?_,fun hc=> ?_,fun hc=>(by cases hc)⟩
      ·exact g0
      conv=>whnf
      refine ⟨rfl, ?_⟩
      conv=>whnf
      refine ⟨?_, [], ?_⟩
      ·exact g0
      conv=>whnf
      refine ⟨rfl, ?_,trivial,trivial⟩
      exact ent
    | cons x r=>
      conv=>whnf
      refine ⟨?_,fun hc=> ?_,fun hc=> ?_⟩
      ·exact g0
      ·simp only [bp,List.length_cons] at hc;omega
      clear hc
      conv=>whnf
      have hN:PureCall Tryz.prog 134 [.pt 0 0 0] [.box (eRw (x::r) false)] ⟨.str x, [.box (eRw r false)], []⟩:=call134 (x::r) false
      have hr:wLens r:=h1.tail
      have h2':r.length<n:=by rw [List.length_cons] at h2;omega
      have hne:∀u v:List UInt8,u≠v→eqK [.s u] [.s v]=false:=fun u v h=>by
       show (u==v&&true)=false
       rw [beq_eq_false_iff_ne.2 h];rfl
      have heq:∀u:List UInt8,eqK [.s u] [.s u]=true:=fun u=>by
       show (u==u&&true)=true
       rw [beq_self_eq_true];rfl
      refine ⟨_,fun _=>hN, ?_⟩
      by_cases e1:x=wDays
      ·subst e1
       have hB:boolP ((f [.s wDays]).headD default)=d:=by rw [h3];rfl
       conv=>whnf
       refine ⟨?_,fun hc=> ?_,fun hc=>absurd hc (by decide)⟩
       ·exact g0
       conv=>whnf
       refine ⟨_,fun _=>call135 r (boolP ((f [.s wDays]).headD default)) hr, ?_⟩
       conv=>whnf
       refine ⟨_,fun _=>call135 r.tail (boolP ((f [.s wDays]).headD default) || numB r) hr.tail, ?_⟩
       conv=>whnf
       apply hJ
       refine ⟨?_,((n,{ c with f:=numG r,u:=numG r.tail },(boolP ((f [.s wDays]).headD default) || numB r) || numB r.tail,true,a,b),r.tail.tail,(fun k=>eqK k [.s wDays] || h k),(fun k=>bif eqK k [.s wDays] then [.b true] else f k)),⟨hr.tail.tail, ?_,⟨?_, ?_, ?_, ?_⟩, ?_⟩, ?_,rfl,rfl, ?_, ?_⟩
       ·exact g0
       ·simp only [List.length_tail];omega
       ·dsimp only;rw [heq];rfl
       ·dsimp only;rw [hne _ _ (by decide)];exact h4
       ·dsimp only;rw [hne _ _ (by decide)];exact h5
       ·intro k
        dsimp only
        cases eqK [.s k] [.s wDays]
        ·exact h6 k
        ·exact ⟨true,rfl⟩
       ·rw [hB,←h7];rfl
       ·exact Nat.lt_succ_self n
       ·exact ent
       ·exact ent
      by_cases e2:x=wAbove
      ·subst e2
       have hB:boolP ((f [.s wAbove]).headD default)=a:=by rw [h4];rfl
       conv=>whnf
       refine ⟨?_,fun hc=>absurd hc (by decide),fun hc=> ?_⟩
       ·exact g0
       conv=>whnf
       refine ⟨?_,fun hc=> ?_,fun hc=>absurd hc (by decide)⟩
       ·exact g0
       conv=>whnf
       refine ⟨_,fun _=>call135 r (boolP ((f [.s wAbove]).headD default)) hr, ?_⟩
       conv=>whnf
       apply hJ
       refine ⟨?_,((n,{ c with a:=numG r },boolP ((f [.s wAbove]).headD default) || numB r,d,true,b),r.tail,(fun k=>eqK k [.s wAbove] || h k),(fun k=>bif eqK k [.s wAbove] then [.b true] else f k)),⟨hr.tail, ?_,⟨?_, ?_, ?_, ?_⟩, ?_⟩, ?_,rfl,rfl, ?_, ?_⟩
       ·exact g0
       ·simp only [List.length_tail];omega
       ·dsimp only;rw [hne _ _ (by decide)];exact h3
       ·dsimp only;rw [heq];rfl
       ·dsimp only;rw [hne _ _ (by decide)];exact h5
       ·intro k
        dsimp only
        cases eqK [.s k] [.s wAbove]
        ·exact h6 k
        ·exact ⟨true,rfl⟩
       ·rw [hB,←h7];rfl
       ·exact Nat.lt_succ_self n
       ·exact ent
       ·exact ent
      by_cases e3:x=wBelow
      ·subst e3
       have hB:boolP ((f [.s wBelow]).headD default)=b:=by rw [h5];rfl
       conv=>whnf
       refine ⟨?_,fun hc=>absurd hc (by decide),fun hc=> ?_⟩
       ·exact g0
       conv=>whnf
       refine ⟨?_,fun hc=>absurd hc (by decide),fun hc=> ?_⟩
       ·exact g0
       conv=>whnf
       refine ⟨?_,fun hc=> ?_,fun hc=>absurd hc (by decide)⟩
       ·exact g0
       conv=>whnf
       refine ⟨_,fun _=>call135 r (boolP ((f [.s wBelow]).headD default)) hr, ?_⟩
       conv=>whnf
       apply hJ
       refine ⟨?_,((n,{ c with b:=numG r },boolP ((f [.s wBelow]).headD default) || numB r,d,a,true),r.tail,(fun k=>eqK k [.s wBelow] || h k),(fun k=>bif eqK k [.s wBelow] then [.b true] else f k)),⟨hr.tail, ?_,⟨?_, ?_, ?_, ?_⟩, ?_⟩, ?_,rfl,rfl, ?_, ?_⟩
       ·exact g0
       ·simp only [List.length_tail];omega
       ·dsimp only;rw [hne _ _ (by decide)];exact h3
       ·dsimp only;rw [hne _ _ (by decide)];exact h4
       ·dsimp only;rw [heq];rfl
       ·intro k
        dsimp only
        cases eqK [.s k] [.s wBelow]
        ·exact h6 k
        ·exact ⟨true,rfl⟩
       ·rw [hB,←h7];rfl
       ·exact Nat.lt_succ_self n
       ·exact ent
       ·exact ent
      have hG:(c,false)=condG w:=by
       rw [←h7];unfold partsG;dsimp only;rw [if_neg (by decide),if_neg e1,if_neg e2,if_neg e3]
      conv=>whnf
      refine ⟨?_,fun hc=>absurd (eq_of_beq hc) e1,fun hc=> ?_⟩
      ·exact g0
      conv=>whnf
      refine ⟨?_,fun hc=>absurd (eq_of_beq hc) e2,fun hc=> ?_⟩
      ·exact g0
      conv=>whnf
      refine ⟨?_,fun hc=>absurd (eq_of_beq hc) e3,fun hc=> ?_⟩
      ·exact g0
      conv=>whnf
      apply hJ
      refine ⟨?_,((n,c,true,d,a,b),r,(fun k=>eqK k [.s x] || h k),(fun k=>bif eqK k [.s x] then [.b true] else f k)),⟨hr,h2',⟨?_, ?_, ?_, ?_⟩, ?_⟩, ?_,rfl,rfl, ?_, ?_⟩
      ·exact g0
      ·dsimp only;rw [hne _ _ (fun e=>e1 e.symm)];exact h3
      ·dsimp only;rw [hne _ _ (fun e=>e2 e.symm)];exact h4
      ·dsimp only;rw [hne _ _ (fun e=>e3 e.symm)];exact h5
      ·intro k
       dsimp only
       cases eqK [.s k] [.s x]
       ·exact h6 k
       ·exact ⟨true,rfl⟩
      ·rw [←hG];cases n<;>rfl
      ·exact Nat.lt_succ_self n
      ·exact ent
      ·exact ent
 ·intro J hJ
  have hw1:=hw.tail
  have hw2:=hw1.tail
  have hw3:=hw2.tail
  conv=>whnf
  refine ⟨_,fun _=>call134 w false, ?_⟩
  conv=>whnf
  refine ⟨_,fun _=>call135 w.tail (!(w.headD []==wRank)) hw1, ?_⟩
  conv=>whnf
  refine ⟨_,fun _=>call134 w.tail.tail ((!(w.headD []==wRank)) || numB w.tail), ?_⟩
  conv=>whnf
  refine ⟨?_, ?_⟩
  ·exact g0
  refine LSem.loop (n:=107) mix (α:=Nat) (fun i=>i≤5)
   (fun i=> [(2, .pt 32 0 0),(4, .pt 192 0 0),(5, .pt 80 0 0),(6, .rf none 240),(7, .str (w.tail.tail.headD [])),(27, .agg [.str [], .str wLeast, .str wMost, .str wUp, .str wDown]),(28, .int .i64 i)])
   (fun i=> [(32, .box [.int .i64 0, .int .i64 0, .int .i64 0, .int .i64 0, .int .i64 0, .int .i64 0, .int .i64 0]),(80, .box (eCd ⟨numG w.tail,kU (w.tail.tail.headD []) i,0,0,364,0,16777216⟩)),(192, .box (eRw w.tail.tail.tail (((!(w.headD []==wRank)) || numB w.tail) || w.tail.tail.isEmpty))),(240, .box [.mpv [.s] [.b] false false (fun _=>false) (fun _=> [.b false])])]) (fun i=>5 - i) 0 ?_ ?_ ?_
  ·exact Nat.zero_le _
  ·refine ⟨rfl,rfl, ?_, ?_⟩<;>exact ent
  ·intro i hi
   have hcs:i=0∨i=1∨i=2∨i=3∨i=4∨i=5:=by omega
   rcases hcs with rfl | rfl | rfl | rfl | rfl | rfl
   ·conv=>whnf
    refine ⟨trivial,fun hc=> ?_,fun hc=>(by cases hc)⟩
    conv=>whnf
    refine ⟨?_,fun hc=>(by cases hc),fun hc=> ?_⟩
    ·exact g0
    conv=>whnf
    refine ⟨?_,1,by omega,by omega,rfl,rfl, ?_, ?_⟩
    ·exact g0
    ·exact ent
    ·exact ent
   ·conv=>whnf
    refine ⟨trivial,fun hc=> ?_,fun hc=>(by cases hc)⟩
    conv=>whnf
    refine ⟨?_,fun hc=> ?_,fun hc=> ?_⟩
    ·exact g0
    ·have hk:(1:Int)=kU (w.tail.tail.headD []) 2:=by
       have he:wLeast=w.tail.tail.headD []:=eq_of_beq hc
       unfold kU;rw [if_pos ⟨by decide,he⟩];rfl
     conv=>whnf
     refine ⟨?_,2,by omega,by omega,rfl,rfl, ?_, ?_⟩
     ·exact g0
     ·exact ent
     ·exact ent
    ·have hk:kU (w.tail.tail.headD []) 1=kU (w.tail.tail.headD []) 2:=by
       have he:¬wLeast=w.tail.tail.headD []:=ne_of_beq_false hc
       rw [show kU (w.tail.tail.headD []) 2=if 0<1∧kindWords.getD 1 []=w.tail.tail.headD [] then 1 else kU (w.tail.tail.headD []) 1 from rfl,if_neg (fun h=>he h.2)]
     conv=>whnf
     refine ⟨?_,2,by omega,by omega,rfl,rfl, ?_, ?_⟩
     ·exact g0
     ·exact ent
     ·exact ent
   ·conv=>whnf
    refine ⟨trivial,fun hc=> ?_,fun hc=>(by cases hc)⟩
    conv=>whnf
    refine ⟨?_,fun hc=> ?_,fun hc=> ?_⟩
    ·exact g0
    ·have hk:(2:Int)=kU (w.tail.tail.headD []) 3:=by
       have he:wMost=w.tail.tail.headD []:=eq_of_beq hc
       unfold kU;rw [if_pos ⟨by decide,he⟩];rfl
     conv=>whnf
     refine ⟨?_,3,by omega,by omega,rfl,rfl, ?_, ?_⟩
     ·exact g0
     ·exact ent
     ·exact ent
    ·have hk:kU (w.tail.tail.headD []) 2=kU (w.tail.tail.headD []) 3:=by
       have he:¬wMost=w.tail.tail.headD []:=ne_of_beq_false hc
       rw [show kU (w.tail.tail.headD []) 3=if 0<2∧kindWords.getD 2 []=w.tail.tail.headD [] then 2 else kU (w.tail.tail.headD []) 2 from rfl,if_neg (fun h=>he h.2)]
     conv=>whnf
     refine ⟨?_,3,by omega,by omega,rfl,rfl, ?_, ?_⟩
     ·exact g0
     ·exact ent
     ·exact ent
   ·conv=>whnf
    refine ⟨trivial,fun hc=> ?_,fun hc=>(by cases hc)⟩
    conv=>whnf
    refine ⟨?_,fun hc=> ?_,fun hc=> ?_⟩
    ·exact g0
    ·have hk:(3:Int)=kU (w.tail.tail.headD []) 4:=by
       have he:wUp=w.tail.tail.headD []:=eq_of_beq hc
       unfold kU;rw [if_pos ⟨by decide,he⟩];rfl
     conv=>whnf
     refine ⟨?_,4,by omega,by omega,rfl,rfl, ?_, ?_⟩
     ·exact g0
     ·exact ent
     ·exact ent
    ·have hk:kU (w.tail.tail.headD []) 3=kU (w.tail.tail.headD []) 4:=by
       have he:¬wUp=w.tail.tail.headD []:=ne_of_beq_false hc
       rw [show kU (w.tail.tail.headD []) 4=if 0<3∧kindWords.getD 3 []=w.tail.tail.headD [] then 3 else kU (w.tail.tail.headD []) 3 from rfl,if_neg (fun h=>he h.2)]
     conv=>whnf
     refine ⟨?_,4,by omega,by omega,rfl,rfl, ?_, ?_⟩
     ·exact g0
     ·exact ent
     ·exact ent
   ·conv=>whnf
    refine ⟨trivial,fun hc=> ?_,fun hc=>(by cases hc)⟩
    conv=>whnf
    refine ⟨?_,fun hc=> ?_,fun hc=> ?_⟩
    ·exact g0
    ·have hk:(4:Int)=kU (w.tail.tail.headD []) 5:=by
       have he:wDown=w.tail.tail.headD []:=eq_of_beq hc
       unfold kU;rw [if_pos ⟨by decide,he⟩];rfl
     conv=>whnf
     refine ⟨?_,5,by omega,by omega,rfl,rfl, ?_, ?_⟩
     ·exact g0
     ·exact ent
     ·exact ent
    ·have hk:kU (w.tail.tail.headD []) 4=kU (w.tail.tail.headD []) 5:=by
       have he:¬wDown=w.tail.tail.headD []:=ne_of_beq_false hc
       rw [show kU (w.tail.tail.headD []) 5=if 0<4∧kindWords.getD 4 []=w.tail.tail.headD [] then 4 else kU (w.tail.tail.headD []) 4 from rfl,if_neg (fun h=>he h.2)]
     conv=>whnf
     refine ⟨?_,5,by omega,by omega,rfl,rfl, ?_, ?_⟩
     ·exact g0
     ·exact ent
     ·exact ent
   ·conv=>whnf
    refine ⟨trivial,fun hc=>(by cases hc),fun hc=> ?_⟩
    rw [kU_kind]
    conv=>whnf
    refine ⟨_,fun _=>call135 w.tail.tail.tail (bif ((!(w.headD []==wRank)) || numB w.tail) || w.tail.tail.isEmpty then true else kindOf (w.tail.tail.headD [])==0) hw3, ?_⟩
    conv=>whnf
    refine ⟨?_, ?_⟩
    ·exact g0
    refine LSem.cut mix (fl:= [(2, .pt 32 0 0),(4, .pt 192 0 0),(5, .pt 80 0 0),(6, .rf none 240)])
     (sl:= [(32, .box [.int .i64 0, .int .i64 0, .int .i64 0, .int .i64 0, .int .i64 0, .int .i64 0, .int .i64 0]),(80, .box (eCd (headG w).1)),(192, .box (eRw w.tail.tail.tail.tail (headG w).2)),(240, .box [.mpv [.s] [.b] false false (fun _=>false) (fun _=> [.b false])])]) ?_
     (hJ ((w.length+1,(headG w).1,(headG w).2,false,false,false),w.tail.tail.tail.tail,_,_) ⟨hw3.tail,by simp only [List.length_tail];omega,⟨rfl,rfl,rfl,fun k=>⟨false,rfl⟩⟩,rfl⟩)
    have hB:((bif ((!(w.headD []==wRank)) || numB w.tail) || w.tail.tail.isEmpty then true else kindOf (w.tail.tail.headD [])==0) || numB w.tail.tail.tail)=(headG w).2:=by
     unfold headG
     dsimp only
     cases ((!(w.headD []==wRank)) || numB w.tail) || w.tail.tail.isEmpty<;>rfl
    rw [hB]
    refine ⟨rfl,rfl, ?_, ?_⟩<;>exact ent
def c133:C:=(sr [kk 2 (.mv (.c (.nil 1)))] (sr [km 3 0,kk 4 (cl 149 [3,(.c (.fn (.func 192) [] []))]),km 2 4] .ret))
theorem fits133:fits Tryz.prog false Tryz.f133 1 5 [(2,none)]=some c133.er:=by kernel_rfl
def c68L1:C:=(sr [kb 11 .lss 10 9] (.seq (.cond 11 .skip (.exit 0)) (.seq (.block 1 (sr [km 12 10,ki 13 1 8 10,kl 14 13,km 4 12,km 5 14] (sr [km 15 5,kc 16 133 [15],km 6 16] (sr [km 17 6,kk 18 (.len 17),kb 19 .gtr 18 (cn 0),km 20 19,kg 21 20 true (.mv 6),kg 22 20 true (.ia 1 21 (cn 0)),kg 23 20 true (.ld 1 false 22),kg 24 20 true (.ixs 23 (cn 0)),kg 25 20 true (.bi false .neq 24 (.c (.int .u8 35))),kk 26 (.pick 20 25 cf)] (.cond 26 (.reg [km 27 3,km 28 4,kb 29 .add 28 (cn 1),km 30 6,kk 31 (.bd [z0,(.nil 1)] [(0,1,29),(1,1,30)]),kk 32 (.bs 183 2 [31]),kk 33 (.app 183 2 32 27 32),km 3 33]) .skip))))) (.reg [kb 34 .add 10 (cn 1),km 10 34]))))
def c68:C:=(sr [kk 2 (.mv (.c (.nil 2)))] (sr [kk 3 (.mv (.c (.nil 2)))] (.seq (sr [km 7 0,kk 8 (cl 132 [7,(.c (.str [10]))]),kk 9 (.len 8),kk 10 (.mv (cn 0))] (.block 0 (.loop c68L1))) (sr [km 35 3,km 2 35] .ret))))
theorem fits68:fits Tryz.prog false Tryz.f68 1 36 [(2,none)]=some c68.er:=by kernel_rfl
theorem call133 (s:List UInt8) (h:s.length≤65536):PureCall Tryz.prog 133 [.str s] [] ⟨.os 1000000000, [], [.row 0 9 1 (wordsB isBl s).length (fl eStr (wordsB isBl s))]⟩:=by
 refine pure_call mix Tryz.func133 fits133 rfl ?_
 conv=>whnf
 refine ⟨_,fun _=>call149 s h, ?_⟩
 conv=>whnf
 refine ⟨?_, [64], ?_⟩
 ·exact g0
 conv=>whnf
 refine ⟨rfl, ?_,trivial, ?_⟩<;>exact ent
def cntd:List (List UInt8)→Bool
 | []=>false
 | x::_=> !(x.getD 0 0==35)
def linL:Int→List (List (List UInt8))→List (Int×List (List UInt8))
 | _, []=> []
 | i,w::r=>if cntd w=true then (i+1,w)::linL (i+1) r else linL (i+1) r
def eLn (x:Int×List (List UInt8)):List PV:= [.int .i64 x.1, .sl 0 1 x.2.length (fl eStr x.2)]
def linesW (s:List UInt8):List (List (List UInt8)):=(splitC 10 s).map (wordsB isBl)
theorem linesW_getD {s:List UInt8} {i:Nat} (h:i<(splitC 10 s).length):(linesW s).getD i default=wordsB isBl ((splitC 10 s).getD i default):=by
 simp [linesW,List.getD,h]
theorem linesW_len (s:List UInt8):(linesW s).length=(splitC 10 s).length:=by simp [linesW]
theorem linL_drop {W:List (List (List UInt8))} {i:Nat} (h:i<W.length):linL (i:Int) (W.drop i)=if cntd (W.getD i default)=true then ((i:Int)+1,W.getD i default)::linL ((i:Int)+1) (W.drop (i+1)) else linL ((i:Int)+1) (W.drop (i+1)):=by
 rw [List.drop_eq_getElem_cons h]
 have:W.getD i default=W[i]:=by simp [List.getD,h]
 rw [this];rfl
theorem call68 (s:List UInt8) (hs:s.length≤65536):PureCall Tryz.prog 68 [.str s] [] ⟨.os 1000000000, [], [.row 0 183 2 (linL 0 (linesW s)).length (fl eLn (linL 0 (linesW s)))]⟩:=by
 obtain ⟨L,hL⟩:∃L,L=splitC 10 s:=⟨_,rfl⟩
 obtain ⟨W,hW⟩:∃W,W=linesW s:=⟨_,rfl⟩
 have hWl:W.length=L.length:=by rw [hW,hL,linesW_len]
 have hLl:L.length≤65537:=by have:=(splitC_len 10 s).1;rw [←hL] at this;omega
 have hWg:∀i,i<L.length→W.getD i default=wordsB isBl (L.getD i default):=fun i hi=>by
  rw [hW,linesW_getD (by rw [←hL];exact hi),hL]
 have hLm:∀i,i<L.length→(L.getD i default).length≤65536:=fun i hi=>by
  have:=(splitC_len 10 s).2 (L.getD i default) (by rw [←hL];exact getD_mem hi);omega
 refine pure_call mix Tryz.func68 fits68 rfl ?_
 conv=>whnf
 refine ⟨_,fun _=>call132 s 10 (by omega), ?_⟩
 rw [←hL,←hW]
 conv=>whnf
 refine ⟨?_, ?_⟩
 ·exact g0
 refine LSem.adopt 3 1000000 183 2 2 rfl rfl ?_
 refine LSem.loop (n:=36) mix (α:=Nat×List (Int×List (List UInt8))) (fun x=>x.1≤L.length∧x.2.length≤x.1∧x.2++linL (x.1:Int) (W.drop x.1)=linL 0 W)
  (fun x=> [(3, .os 1000000),(8, .os 128),(9, .int .i64 L.length),(10, .int .i64 x.1)])
  (fun x=> [(1000000, .row 0 183 2 x.2.length (fl eLn x.2)),(128, .row 0 9 1 L.length (fl eStr L))]) (fun x=>L.length - x.1) (0, []) ?_ ?_ ?_
 ·exact ⟨Nat.zero_le _,Nat.le_refl _,rfl⟩
 ·refine ⟨rfl,rfl, ?_, ?_⟩<;>exact ent
 ·rintro ⟨i,out⟩ ⟨hi,ho,hp⟩
  dsimp only at hi ho hp
  have hj:((i:Int)).toNat=i:=by omega
  conv=>whnf
  refine ⟨trivial,fun hc=> ?_,fun hc=> ?_⟩
  ·replace hc:=of_decide_eq_true hc
   have hlt:i<L.length:=by
    have h:(i:Int)<L.length:=hc
    omega
   rw [linL_drop (by omega)] at hp
   have hWi:=hWg i hlt
   have hok:=words_ok isBl (L.getD i default)
   conv=>whnf
   dsimp only
   rw [hj]
   refine ⟨_,fun _=>call133 (L.getD i default) (hLm i hlt), ?_⟩
   rw [←hWi] at hok⊢
   generalize W.getD i default=w at hp hok⊢
   cases w with
   | nil=>
     rw [if_neg (by decide)] at hp
     conv=>whnf
     refine ⟨?_,fun h=>(by cases h),fun _=> ?_⟩
     ·exact g0
     conv=>whnf
     refine ⟨?_,(i+1,out),⟨hlt,by dsimp only;omega,hp⟩, ?_,rfl,rfl, ?_, ?_⟩
     ·exact g0
     ·dsimp only;omega
     ·exact ent
     ·exact ent
   | cons x r=>
     have hx:=(hok x (List.mem_cons_self ..)).1
     have hxl:0<x.length:=List.length_pos_iff.2 hx
     have hcn:cntd (x::r)= !(x.getD 0 0==35):=rfl
     have h35:(((x.getD 0 0).toNat:Int) != 35)= !(x.getD 0 0==35):=by
      rw [Bool.eq_iff_iff]
      simp only [bne_iff_ne,ne_eq,Bool.not_eq_true',beq_eq_false_iff_ne]
      constructor
      ·intro h e;rw [e] at h;exact h rfl
      ·intro h e;exact h (UInt8.toNat_inj.1 (by show _=35;omega))
     rw [hcn,←h35] at hp
     have hd:decide ((0:Int)<(((x::r).length:Nat):Int))=true:=decide_eq_true (by rw [List.length_cons];omega)
     conv=>whnf
     refine ⟨?_,fun h=> ?_,fun h=> ?_⟩
     ·exact g1
     ·replace h:(((x.getD 0 0).toNat:Int) != 35)=true:=by rw [hd] at h;exact h
      rw [if_pos h] at hp
      have q:=fl_push eLn out ((i:Int)+1,x::r)
      have hol:(out++ [((i:Int)+1,x::r)]).length=out.length+1:=by simp
      conv=>whnf
      refine ⟨?_,(i+1,out++ [((i:Int)+1,x::r)]),⟨hlt,by dsimp only;rw [hol];omega,by dsimp only;rw [List.append_assoc];exact hp⟩, ?_,rfl,rfl, ?_, ?_⟩
      ·exact g0
      ·dsimp only;omega
      ·exact ent
      ·exact ent
     ·replace h:(((x.getD 0 0).toNat:Int) != 35)=false:=by rw [hd] at h;exact h
      rw [if_neg (by rw [h];decide)] at hp
      conv=>whnf
      refine ⟨?_,(i+1,out),⟨hlt,by dsimp only;omega,hp⟩, ?_,rfl,rfl, ?_, ?_⟩
      ·exact g0
      ·dsimp only;omega
      ·exact ent
      ·exact ent
  ·replace hc:=of_decide_eq_false hc
   have hk:i=L.length:=by
    have h:¬(i:Int)<L.length:=hc
    omega
   subst hk
   rw [←hWl,List.drop_length] at hp
   rw [show linL 0 W=out by rw [←hp];exact List.append_nil out]
   conv=>whnf
   refine ⟨?_, [1000000], ?_⟩
   ·exact g0
   conv=>whnf
   refine ⟨rfl, ?_,trivial, ?_⟩<;>exact ent
theorem splitP_len (p:UInt8→Bool):∀s:List UInt8,(splitP p s).length≤s.length+1∧∀x∈splitP p s,x.length≤s.length
 | []=>by simp [splitP]
 | x::xs=>by
   obtain ⟨h1,h2⟩:=splitP_len p xs
   simp only [splitP]
   split
   ·refine ⟨by simp only [List.length_cons];omega,fun y hy=> ?_⟩
    rcases List.mem_cons.1 hy with rfl | hy
    ·simp
    ·have:=h2 y hy;simp only [List.length_cons];omega
   ·split
    ·simp
    ·rename_i h t he
     rw [he] at h1 h2
     refine ⟨by simp only [List.length_cons] at h1⊢;omega,fun y hy=> ?_⟩
     rcases List.mem_cons.1 hy with rfl | hy
     ·have:=h2 h (List.mem_cons_self ..);simp only [List.length_cons];omega
     ·have:=h2 y (List.mem_cons_of_mem _ hy);simp only [List.length_cons];omega
theorem wordsB_mem {p:UInt8→Bool} {s x:List UInt8} (h:x∈wordsB p s):x.length≤s.length:=(splitP_len p s).2 x (List.mem_filter.1 h).1
theorem wordsB_len (p:UInt8→Bool) (s:List UInt8):(wordsB p s).length≤s.length+1:=Nat.le_trans (List.length_filter_le _ _) (splitP_len p s).1
def c19L1:C:=(sr [kb 23 .lss 22 21] (.seq (.cond 23 .skip (.exit 0)) (.seq (.block 1 (sr [ki 24 2 20 22,kt 25 2 24,kk 8 (.al [z0,(.nil 1)]),kx 2 8 25] (sr [kf 27 1 8,kl 28 27,kc 29 69 [28],km 26 29,ke 30 26 0,ke 31 26 1,kk 9 (.al [z0,z0,z0,z0,z0,z0,z0]),kx 7 9 30,km 10 31] (.seq (sr [km 32 10,kk 33 (.un false .not 32)] (.cond 33 (.seq (.drw [kf 34 0 8,kl 35 34,kk 2 (.mv (.c (.nil 7))),km 3 35,kk 4 (.mv (cn 7))] [(0,2,34),(1,2,35)]) .ret) .skip)) (.seq (sr [kt 36 7 9,kc 37 70 [36],km 11 37] (sr [km 38 11,kb 39 .neq 38 (cn 0)] (.cond 39 (.seq (.drw [kf 40 0 8,kl 41 40,km 42 11,kk 2 (.mv (.c (.nil 7))),km 3 41,km 4 42] (pl [(0,[2,3],40),(1,[2,3],41),(2,[3,4],42)])) .ret) .skip))) (.reg [km 43 6,kt 44 7 9,kk 45 (.bs 89 7 [44]),kk 46 (.app 89 7 56 43 45),km 6 46])))))) (.reg [kb 47 .add 22 (cn 1),km 22 47]))))
def c19:C:=(sr [kk 2 (.mv (.c (.nil 7))),kk 3 (.mv (cn 0)),kk 4 (.mv (cn 0))] (.seq (sr [km 12 0,kk 13 (.lens 12),kb 14 .gtr 13 (cn 65536)] (.cond 14 (sr [kk 2 (.mv (.c (.nil 7))),kk 3 (.mv (cn 0)),kk 4 (.mv (cn 10))] .ret) .skip)) (sr [km 15 0,kc 16 68 [15],km 5 16] (.seq (sr [km 17 5,kk 18 (.len 17),kb 19 .gtr 18 (cn 200)] (.cond 19 (sr [kk 2 (.mv (.c (.nil 7))),kk 3 (.mv (cn 0)),kk 4 (.mv (cn 10))] .ret) .skip)) (sr [kk 6 (.mv (.c (.nil 7)))] (.seq (sr [km 20 5,kk 21 (.len 20),kk 22 (.mv (cn 0))] (.block 0 (.loop c19L1))) (sr [km 48 6,km 2 48,kk 3 (.mv (cn 0)),kk 4 (.mv (cn 0))] .ret)))))))
theorem fits19:fits Tryz.prog false Tryz.f19 1 49 [(2,none),(3,none),(4,none)]=some c19.er:=by kernel_rfl
theorem linL_mem:∀{W:List (List (List UInt8))} {i:Int} {x:Int×List (List UInt8)},x∈linL i W→x.2∈W
 | [],i,x,h=>by simp [linL] at h
 | w::r,i,x,h=>by
   unfold linL at h
   split at h
   ·rcases List.mem_cons.1 h with rfl | h
    ·simp
    ·exact List.mem_cons_of_mem _ (linL_mem h)
   ·exact List.mem_cons_of_mem _ (linL_mem h)
theorem linL_len:∀(W:List (List (List UInt8))) (i:Int),(linL i W).length≤W.length
 | [],i=>Nat.le_refl _
 | w::r,i=>by
   have ih:=linL_len r (i+1)
   unfold linL
   split<;>simp only [List.length_cons]<;>omega
theorem linesW_lens {s:List UInt8} (hs:s.length≤65536):∀w∈linesW s,wLens w:=fun w hw=>by
 obtain ⟨y,hy,rfl⟩:=List.mem_map.1 hw
 have h1:=(splitC_len 10 s).2 y hy
 have h2:=wordsB_len isBl y
 exact ⟨by omega,fun x hx=>by have:=wordsB_mem hx;omega⟩
def parG:List (Int×List (List UInt8))→List Cd→List Cd×Int×Int
 | [],out=>(out,0,0)
 | x::r,out=>if (condG x.2).2=false then ([],x.1,7) else if oneC (condG x.2).1≠0 then ([],x.1,oneC (condG x.2).1) else parG r (out++ [(condG x.2).1])
def parseG (s:List UInt8):List Cd×Int×Int:=if 65536<s.length then ([],0,10) else if 200<(linL 0 (linesW s)).length then ([],0,10) else parG (linL 0 (linesW s)) []
theorem parG_drop {l:List (Int×List (List UInt8))} {i:Nat} (out:List Cd) (h:i<l.length):parG (l.drop i) out=if (condG (l.getD i default).2).2=false then ([],(l.getD i default).1,7) else
  if oneC (condG (l.getD i default).2).1≠0 then ([],(l.getD i default).1,oneC (condG (l.getD i default).2).1) else parG (l.drop (i+1)) (out++ [(condG (l.getD i default).2).1]):=by
 rw [List.drop_eq_getElem_cons h]
 have:l.getD i default=l[i]:=by simp [List.getD,h]
 rw [this];rfl
theorem call19 (s:List UInt8) (hs:s.length≤4611686018427387904):PureCall Tryz.prog 19 [.str s] [] ⟨.tup [.sl 0 7 (parseG s).1.length (fl eCd (parseG s).1), .int .i64 (parseG s).2.1, .int .i64 (parseG s).2.2], [], []⟩:=by
 refine pure_call mix Tryz.func19 fits19 rfl ?_
 conv=>whnf
 refine ⟨?_,fun hc=> ?_,fun hc=> ?_⟩
 ·exact g0
 ·simp only [bp] at hc
  rw [show parseG s=([],0,10) by unfold parseG;rw [if_pos (by omega)]]
  conv=>whnf
  exact ret
 simp only [bp] at hc
 have hs2:s.length≤65536:=by omega
 have hlen:=linL_len (linesW s) 0
 rw [linesW_len] at hlen
 have hll2:=(splitC_len 10 s).1
 have hmem:∀i,i<(linL 0 (linesW s)).length→wLens ((linL 0 (linesW s)).getD i default).2:=fun i hi=>linesW_lens hs2 _ (linL_mem (getD_mem hi))
 conv=>whnf
 refine ⟨_,fun _=>call68 s hs2, ?_⟩
 conv=>whnf
 refine ⟨?_,fun hc2=> ?_,fun hc2=> ?_⟩
 ·exact g0
 ·simp only [bp] at hc2
  rw [show parseG s=([],0,10) by unfold parseG;rw [if_neg (by omega),if_pos (by omega)]]
  conv=>whnf
  exact ret
 simp only [bp] at hc2
 rw [show parseG s=parG (linL 0 (linesW s)) [] by unfold parseG;rw [if_neg (by omega),if_neg (by omega)]]
 generalize linL 0 (linesW s)=l at hlen hmem hc2⊢
 conv=>whnf
 refine ⟨trivial, ?_⟩
 refine LSem.adopt 6 1000000 89 7 7 rfl rfl ?_
 refine LSem.loop (n:=49) mix (α:=Nat×List Cd) (fun x=>x.1≤l.length∧x.2.length≤x.1∧parG (l.drop x.1) x.2=parG l [])
  (fun x=> [(6, .os 1000000),(20, .os 256),(21, .int .i64 l.length),(22, .int .i64 x.1)])
  (fun x=> [(1000000, .row 0 89 7 x.2.length (fl eCd x.2)),(256, .row 0 183 2 l.length (fl eLn l))]) (fun x=>l.length - x.1) (0, []) ?_ ?_ ?_
 ·exact ⟨Nat.zero_le _,Nat.le_refl _,rfl⟩
 ·refine ⟨rfl,rfl, ?_, ?_⟩<;>exact ent
 ·rintro ⟨i,out⟩ ⟨hi,ho,hp⟩
  dsimp only at hi ho hp
  have hj:((i:Int)).toNat=i:=by omega
  conv=>whnf
  refine ⟨trivial,fun hc3=> ?_,fun hc3=> ?_⟩
  ·replace hc3:=of_decide_eq_true hc3
   have hlt:i<l.length:=by
    have h:(i:Int)<l.length:=hc3
    omega
   have hw:=hmem i hlt
   rw [parG_drop out hlt] at hp
   conv=>whnf
   dsimp only
   rw [hj]
   refine ⟨_,fun _=>call69 (l.getD i default).2 hw, ?_⟩
   generalize condG (l.getD i default).2=R at hp⊢
   generalize (l.getD i default).1=nu at hp⊢
   conv=>whnf
   refine ⟨?_,fun h1=> ?_,fun h1=> ?_⟩
   ·exact g0
   ·simp only [bp] at h1
    rw [if_pos h1] at hp
    rw [←hp]
    conv=>whnf
    refine ⟨rfl, ?_⟩
    conv=>whnf
    exact ret
   simp only [bp] at h1
   rw [if_neg (by rw [h1];decide)] at hp
   conv=>whnf
   refine ⟨_,fun _=>call70 R.1, ?_⟩
   conv=>whnf
   refine ⟨?_,fun h2=> ?_,fun h2=> ?_⟩
   ·exact g0
   ·simp only [bp] at h2
    rw [if_pos h2] at hp
    rw [←hp]
    conv=>whnf
    refine ⟨rfl, ?_⟩
    conv=>whnf
    exact ret
   ·simp only [bp] at h2
    rw [if_neg (by omega)] at hp
    have q:=fl_push eCd out R.1
    conv=>whnf
    refine ⟨?_,(i+1,out++ [R.1]),⟨hlt,by dsimp only;rw [List.length_append];simp only [List.length_cons,List.length_nil];omega,hp⟩, ?_,rfl,rfl, ?_, ?_⟩
    ·exact g0
    ·dsimp only;omega
    ·exact ent
    ·exact ent
  ·replace hc3:=of_decide_eq_false hc3
   have hk:i=l.length:=by
    have h:¬(i:Int)<l.length:=hc3
    omega
   subst hk
   rw [List.drop_length] at hp
   have hp2:(out,(0:Int),(0:Int))=parG l []:=hp
   rw [←hp2]
   conv=>whnf
   exact ret
def awT:List UInt8:= [114,97,110,107,32,49,32,109,111,115,116,32,51,48,10,114,97,110,107,32,50,32,108,101,97,115,116,32,53,48,10]
def awL:List Cd:= [⟨1,2,30,0,364,0,16777216⟩,⟨2,1,50,0,364,0,16777216⟩]
theorem awake_text:parseG awT=(awL,0,0):=by decide +kernel
theorem aw_choose:relF (choL awL 0 150 0 0 1073741824) 90=30∧(choL awL 0 150 0 0 1073741824).lo=0∧(choL awL 0 150 0 0 1073741824).hi=30∧(choL awL 0 150 0 0 1073741824).ys= [(1,0)]:=by decide +kernel
def numsI:List PV→Option (List Int)
 | []=>some []
 | .int .i64 n::l=>match numsI l with
   | some r=>some (n::r)
   | none=>none
 | _=>none
theorem numsI_ok:∀{l:List PV} {r:List Int},numsI l=some r→l=r.map fun n=> .int .i64 n
 | [],r,h=>by simp [numsI] at h;subst h;rfl
 | p::l,r,h=>by
   unfold numsI at h
   split at h
   ·rename_i e;cases e
   ·rename_i n l' e
    injection e with e1 e2
    subst e1;subst e2
    split at h
    ·rename_i r' hr
     injection h with h;subst h
     rw [numsI_ok hr];rfl
    ·cases h
   ·cases h
def awO:Orc→Orc:=fun _ f args bs=>match f,args,bs with
 | 19, [.str s], []=>if s=awT then some ⟨.tup [.sl 0 7 2 (fl eCd awL), .int .i64 0, .int .i64 0], [], []⟩ else none
 | 22, [.sl 1 7 2 g, .int .i64 d, .int .i64 v, .int .i64 b, .agg [.int .i64 lo, .int .i64 hi], .int .i64 w], []=>
   if (numsI (g 0)=some [1,2,30,0,364,0,16777216]∧numsI (g 1)=some [2,1,50,0,364,0,16777216])∧(d=0∧v=150∧b=0∧lo=0∧hi=1073741824∧w=90) then
    some ⟨.tup [.agg [.int .i64 30, .int .i64 0, .int .i64 30, .sl 0 2 1 (fl eYd [(1,0)])], .int .i64 0], [], []⟩ else none
 | _,_,_=>none
theorem awO_ok (R:Orc):OrcOK Tryz.prog (awO R):=fun f args bs c h=>by
 unfold awO at h
 split at h
 ·split at h
  ·rename_i hs
   injection h with h;subst h;subst hs
   have:=call19 awT (by decide)
   rw [awake_text] at this
   exact this
  ·cases h
 ·split at h
  ·rename_i g d v b lo hi w hs
   injection h with h;subst h
   obtain ⟨⟨h0,h1⟩,rfl,rfl,rfl,rfl,rfl,rfl⟩:=hs
   obtain ⟨c1,c2,c3,c4⟩:=aw_choose
   have:=call22 awL 0 150 0 0 1073741824 90 (by decide) (by decide +kernel) (by decide) (by decide) (by decide) (by decide) (by decide) (by decide) (by decide)
   rw [c1,c2,c3,c4] at this
   refine PureCall.arg_le this rfl ?_
   have hr:RowEq 2 g (fl eCd awL):=fun i hi=>by
    match i,hi with
    | 0,_=>rw [numsI_ok h0];rfl
    | 1,_=>rw [numsI_ok h1];rfl
   exact ent
  ·cases h
 ·cases h
def awH:Code→PS→Option PS:=fun _ _=>none
theorem call16:PureCall Tryz.prog 16 [] [] ⟨.bool true, [], []⟩:=by
 have h:runF Tryz.prog awO awH 1000 20 16 [] []=some ⟨.bool true, [], []⟩:=by kernel_rfl
 exact runF_ok mix (fun R _=>awO_ok R) (fun _ _ _ _ h=>by cases h) 20 16 [] [] _ h
theorem call3 (l:List Int):PureCall Tryz.prog 3 [.sl 1 1 l.length (fl eInt l)] [] ⟨.bool true, [], []⟩:=TE.call3_of call16 l
end Pv
end Go.Proofs.YtdcgnfkkklbckaaGreatDoor
