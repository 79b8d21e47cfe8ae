/- CURVES IN TOP: valid curves, values. (Out of law 02's texts.) -/
import Derived.Test.YtdcgnfkkklbckaaGreatDoorZue
import Derived.Scope
import Derived.ScopeJumps
import Derived.Test.YtdcgnfkkklbckaaGreatDoorProg
set_option linter.unusedSimpArgs false
set_option linter.unusedVariables false
set_option maxRecDepth 100000
set_option maxHeartbeats 4000000
namespace Go.Proofs.YtdcgnfkkklbckaaGreatDoor
namespace Pv
open Go.RowKit
def befG (acc:Array Nat) (o:Oper):Nat:=o.after.foldl (fun s e=>if Region.binds .any e then s ||| 2 ^ e.on ||| acc.getD e.on 0 else s) 0
theorem befold_bit (acc:Array Nat) (i:Nat):∀(l:List Edge) (s0:Nat),(l.foldl (fun s e=>if Region.binds .any e then s ||| 2 ^ e.on ||| acc.getD e.on 0 else s) s0).testBit i=true→
  s0.testBit i=true∨∃e∈l,Region.binds .any e=true∧(i=e.on∨(acc.getD e.on 0).testBit i=true)
 | [],s0,h=> .inl h
 | e::l,s0,h=>by
   simp only [List.foldl_cons] at h
   rcases befold_bit acc i l _ h with h1 | ⟨e',he',h2,h3⟩
   ·split at h1
    ·rename_i hb
     rw [Nat.testBit_or,Nat.testBit_or,Nat.testBit_two_pow] at h1
     simp only [Bool.or_eq_true,decide_eq_true_eq] at h1
     rcases h1 with (h1 | h1) | h1
     ·exact .inl h1
     ·exact .inr ⟨e,by simp,hb, .inl h1.symm⟩
     ·exact .inr ⟨e,by simp,hb, .inr h1⟩
    ·exact .inl h1
   ·exact .inr ⟨e',by simp [he'],h2,h3⟩
theorem pushes_old (g:Array Nat→Oper→Nat):∀(l:List Oper) (acc:Array Nat) (k:Nat),k<acc.size→(l.foldl (fun acc o=>acc.push (g acc o)) acc).getD k 0=acc.getD k 0
 | [],acc,k,h=>rfl
 | o::l,acc,k,h=>by
   simp only [List.foldl_cons]
   rw [pushes_old g l _ k (by simp;omega)]
   simp [Array.getD_eq_getD_getElem?,Array.getElem?_push,h,Nat.ne_of_lt h]
theorem pushes_size (g:Array Nat→Oper→Nat):∀(l:List Oper) (acc:Array Nat),(l.foldl (fun acc o=>acc.push (g acc o)) acc).size=acc.size+l.length
 | [],acc=>rfl
 | o::l,acc=>by simp only [List.foldl_cons];rw [pushes_size g l];simp;omega
theorem pushes_at (g:Array Nat→Oper→Nat):∀(l:List Oper) (acc:Array Nat) (t:Nat) (o:Oper),l[t]? =some o→
  (l.foldl (fun acc o=>acc.push (g acc o)) acc).getD (acc.size+t) 0=g ((l.take t).foldl (fun acc o=>acc.push (g acc o)) acc) o
 | [],acc,t,o,h=>by simp at h
 | o'::l,acc,0,o,h=>by
   simp only [List.getElem?_cons_zero,Option.some.injEq] at h;subst h
   simp only [List.foldl_cons,List.take_zero,List.foldl_nil,Nat.add_zero]
   rw [pushes_old g l _ _ (by simp)]
   simp [Array.getD_eq_getD_getElem?]
 | o'::l,acc,t+1,o,h=>by
   simp only [List.foldl_cons,List.take_succ_cons]
   have:=pushes_at g l (acc.push (g acc o')) t o (by simpa using h)
   rw [←this];congr 1;simp;omega
theorem before_bit {ops:Array Oper} {i j:Nat} {o:Oper} (hj:ops[j]? =some o) (hed:∀e∈o.after,Region.binds .any e=true→e.on<j) (h:bit (Region.before ops) i j=true):
  ∃e∈o.after,Region.binds .any e=true∧(i=e.on∨bit (Region.before ops) i e.on=true):=by
 have hfold:Region.before ops=ops.toList.foldl (fun acc o=>acc.push (befG acc o)) #[]:=by
  unfold Region.before befG
  rw [←Array.foldl_toList]
 have hjl:ops.toList[j]? =some o:=by simpa using hj
 have hlt:j<ops.toList.length:=(List.getElem?_eq_some_iff.1 hjl).1
 have h1:=pushes_at befG ops.toList #[] j o hjl
 simp only [List.size_toArray,List.length_nil,Nat.zero_add] at h1
 unfold bit at h⊢
 rw [hfold,h1] at h
 unfold befG at h
 rw [←Array.foldl_toList] at h
 rcases befold_bit _ i _ _ h with h2 | ⟨e,he,hb,h3⟩
 ·simp at h2
 ·refine ⟨e,by simpa using he,hb,h3.imp (fun h=>h) fun h3=> ?_⟩
  have hon:=hed e (by simpa using he) hb
  have hsz:=pushes_size befG (ops.toList.take j) #[]
  have hold:=pushes_old befG (ops.toList.drop j) ((ops.toList.take j).foldl (fun acc o=>acc.push (befG acc o)) #[]) e.on (by rw [hsz,List.length_take];simp only [List.size_toArray,List.length_nil];omega)
  rw [←List.foldl_append,List.take_append_drop] at hold
  rw [hfold,hold]
  exact h3
theorem mapO_mem {α β:Type} {f:α→Option β}:∀{l:List α} {r:List β},mapO f l=some r→∀a∈l,∃b∈r,f a=some b
 | [],r,h,a,ha=>by simp at ha
 | x::l,r,h,a,ha=>by
   simp only [mapO] at h
   split at h
   ·rename_i b bs hb hbs
    injection h with h;subst h
    rcases List.mem_cons.1 ha with rfl | ha
    ·exact ⟨b,by simp,hb⟩
    ·obtain ⟨b',hb',he⟩:=mapO_mem hbs a ha
     exact ⟨b',by simp [hb'],he⟩
   ·cases h
theorem pairs_mem {b:Array Nat} {ins:List Ins} {ps:List (Nat×Nat×Nat)} (h:pairs b ins=some ps) {i j:Nat} {x y:Ins} (hi:ins[i]? =some x) (hj:ins[j]? =some y) (hij:i<j) (hb:bit b i j=false):
  slotsApart x y=true∧(i,j,x.d.getD 0)∈ps:=by
 unfold pairs at h
 have hx:(x,i)∈ins.zipIdx:=List.mk_mem_zipIdx_iff_getElem?.2 hi
 have hy:(y,j)∈ins.zipIdx:=List.mk_mem_zipIdx_iff_getElem?.2 hj
 obtain ⟨q,hq,he⟩:=mapO_mem h ((x,i),(y,j)) (List.mem_filter.2 ⟨List.mem_flatMap.2 ⟨(x,i),hx,List.mem_map.2 ⟨(y,j),hy,rfl⟩⟩,by simp [hij,hb]⟩)
 simp only at he
 split at he
 ·rename_i hs
  injection he with he;subst he
  exact ⟨hs,hq⟩
 ·cases he
def LApart (a b:LogE) (d:Nat):Prop:=((a.pu=true∨b.pu=true)∨(a.rm=false∧b.rm=false∧((∀r∈a.ws,r∉b.ids)∧∀r∈b.ws,r∉a.ids)∧(∀r∈b.ids,r / 16≠d))∨(a.rd=true∧(∀r∈b.ws,r∉a.ids)∧∀r∈b.rl,r∉a.ids))∧
 (∀k∈a.ks,k∉b.ms)∧(∀k∈b.ks,k∉a.ms)∧(a.ks= []∨b.nj=true)
theorem disjointL_mem {a b:List Nat} (h:disjointL a b=true):∀k∈a,k∉b:=fun k hk hb=>by
 unfold disjointL at h
 have:=List.all_eq_true.1 h k hk
 simp at this
 exact this hb
theorem killOk_spec {a b:LogE} (h:killOk a b=true):(∀k∈a.ks,k∉b.ms)∧(∀k∈b.ks,k∉a.ms)∧(a.ks= []∨b.nj=true):=by
 unfold killOk at h
 split at h
 ·rename_i h1 h2
  rw [h1,h2]
  exact ⟨fun k hk=>(by cases hk),fun k hk=>(by cases hk), .inl rfl⟩
 ·simp only [Bool.and_eq_true,Bool.or_eq_true,List.isEmpty_iff] at h
  exact ⟨disjointL_mem h.1,disjointL_mem h.2.1,h.2.2⟩
theorem apartOk_mem {log:Nat→Option LogE}:∀{ps:List (Nat×Nat×Nat)},apartOk log ps=true→∀i j d,(i,j,d)∈ps→
  ∃a b,log i=some a∧log j=some b∧LApart a b d
 | [],h,i,j,d,hm=>by simp at hm
 | (a,b,e)::ps,h,i,j,d,hm=>by
   simp only [apartOk,Bool.and_eq_true] at h
   obtain ⟨h1,h2⟩:=h
   rcases List.mem_cons.1 hm with hm | hm
   ·simp only [Prod.mk.injEq] at hm
    obtain ⟨rfl,rfl,rfl⟩:=hm
    split at h1
    ·rename_i x y hx hy
     simp only [Bool.and_eq_true,Bool.not_eq_true',List.all_eq_true,beq_eq_false_iff_ne,Bool.or_eq_true] at h1
     obtain ⟨hpp,h5⟩:=h1
     rcases hpp with (hpp | ⟨⟨⟨k1,k2⟩,h3⟩,h4⟩) | ⟨k1,k2,k3⟩
     ·exact ⟨x,y,hx,hy, .inl hpp,killOk_spec h5⟩
     rotate_left
     ·exact ⟨x,y,hx,hy, .inr (.inr ⟨k1,disjointL_mem k2,disjointL_mem k3⟩),killOk_spec h5⟩
     refine ⟨x,y,hx,hy, .inr (.inl ⟨k1,k2,⟨disjointL_mem h3.1,disjointL_mem h3.2⟩,fun r hr=> ?_⟩),killOk_spec h5⟩
     simpa using h4 r hr
    ·cases h1
   ·exact apartOk_mem h2 i j d hm
section
variable {S:FuncId→List PV→List SE→CallRes→Prop} {cr:Nat→CallRes} {s s' s₁ s₂:PS}
theorem evL_log:∀{l:List (Nat×Ins)} {s s':PS} {k:Nat},evL S true cr l s=some s'→k∉l.map (·.1)→s'.log k=s.log k
 | [],s,s',k,h,hk=>by simp only [evL,Option.some.injEq] at h;subst h;rfl
 | (i,x)::r,s,s',k,h,hk=>by
   simp only [evL,stepX] at h
   split at h
   ·rename_i s1 h1
    obtain ⟨G,vs,cs,E,H⟩:=stepI_parts h1
    simp only [List.map_cons,List.mem_cons,not_or] at hk
    rw [evL_log h hk.2,H.logAt,upd_ne _ _ hk.1]
   ·cases h
def Apart (log:Nat→Option LogE) (p q:Nat×Ins):Prop:=p.1≠q.1∧p.2.id=16*p.2.d.getD 0∧slotsApart p.2 q.2=true∧
 ∃a b,log p.1=some a∧log q.1=some b∧LApart a b (p.2.d.getD 0)
theorem bubble:∀{l:List (Nat×Ins)} {q:Nat×Ins} {m:List (Nat×Ins)} {s s':PS},evL S true cr (l++q::m) s=some s'→((l++q::m).map (·.1)).Nodup→(∀p∈l,Apart s'.log p q)→
  ∃s'',evL S true cr (q::(l++m)) s=some s''∧Sim s' s''
 | [],q,m,s,s',h,hn,hA=>⟨s',h,Sim.refl _⟩
 | (k,z)::l,(i,x),m,s,s',h,hn,hA=>by
   simp only [List.cons_append,evL,stepX] at h
   split at h
   ·rename_i s1 h1
    simp only [List.cons_append,List.map_cons,List.nodup_cons] at hn
    obtain ⟨s'',h2,hS⟩:=bubble h hn.2 (fun p hp=>hA p (by simp [hp]))
    simp only [evL,stepX] at h2
    split at h2
    ·rename_i s2 h3
     obtain ⟨a1,a2,a3,eA,eB,a4,a5,cc,c5,c6,c7⟩:=hA (k,z) (by simp)
     simp only at a1 a2 a3 a4 a5 cc
     rw [hS.log] at a4 a5
     have nn:=hn.1
     have ni:i∉(l++m).map (·.1):=by
      have:=hn.2
      simp only [List.map_append,List.map_cons] at this⊢
      rw [List.nodup_append] at this
      obtain ⟨_,h5,h6⟩:=this
      simp only [List.nodup_cons] at h5
      simp only [List.mem_append,not_or]
      refine ⟨fun hm=>h6 i hm i (by simp) rfl,h5.1⟩
     have nk:k∉(l++m).map (·.1):=by
      simp only [List.map_append,List.map_cons,List.mem_append,List.mem_cons,not_or] at nn⊢
      exact ⟨nn.1,nn.2.2⟩
     rw [evL_log h2 nk] at a4
     rw [evL_log h2 ni] at a5
     have hsw:∃s₁' s₂',stepI S true (cr i) i x s=some s₁'∧stepI S true (cr k) k z s₁'=some s₂'∧Sim s2 s₂':=by
      rcases cc with hpu | ⟨c1,c2,c3,c4⟩ | ⟨c1,c2,c3⟩
      rotate_right
      ·exact swap4 a1 h1 h3 a3 a4 a5 c1 c2 c3 c5 c6 c7
      ·exact swap3 a1 h1 h3 a3 a4 a5 hpu c5 c6 c7
      ·exact swap2 a1 h1 h3 a2 a3 a4 a5 c1 c2 c3.1 c3.2 c4 c5 c6 c7
     obtain ⟨s1',s2',b1,b2,b3⟩:=hsw
     obtain ⟨s3,d1,d2⟩:=evL_sim b3 h2
     refine ⟨s3, ?_,hS.trans d2⟩
     simp only [List.cons_append,evL,stepX,b1,b2]
     exact d1
    ·cases h2
   ·cases h
end
section
variable {P:Program} {X:Cx} {w0:World} {may:Nat→Prop} {ops:Array Oper} {Q:Exit→Act→World→Prop}
structure Left (ops:Array Oper) (listed:Array Bool) (l:List (Nat×Ins)):Prop where
 size:listed.size=ops.size
 mem:∀k,k∈l.map (·.1)↔(k<ops.size∧listed.getD k true=false)
 sorted:(l.map (·.1)).Pairwise (· < ·)
 down:∀k,k<ops.size→k∉l.map (·.1)→∀j,bit (Region.before ops) j k=true→j∉l.map (·.1)
theorem any_sound {wr:Bool} {cr:Nat→CallRes} {ins:List Ins} {ps:List (Nat×Nat×Nat)} (hcomp:∀(k:Nat) (o:Oper),ops[k]? =some o→∃x,ins[k]? =some x∧compO P wr ops o=some x)
  (hps:pairs (Region.before ops) ins=some ps) (hed:∀(k:Nat) (o:Oper),ops[k]? =some o→∀e∈o.after,Region.binds .any e=true→e.on<k):
  ∀(fuel:Nat) (l:List (Nat×Ins)) (listed:Array Bool) (a:Act) (w:World) (s s':PS) (γ:Gh),l.length≤fuel→Left ops listed l→(∀p∈l,ins[p.1]? =some p.2)→
  Rel X w0 may a w s γ→evL (PureCall P) true cr l s=some s'→s'.ok→apartOk s'.log ps=true→
  (∀a' w' s'' γ',Sim s' s''→Rel X w0 may a' w' s'' γ'→Q .normal a' w')→wpAny P .any ops Q fuel listed a w:=by
 have first:∀{l:List (Nat×Ins)} {listed:Array Bool},Left ops listed l→Region.ready .any ops listed= []→l= []:=by
  intro l listed hL hr
  cases l with
  | nil=>rfl
  | cons p l=>
    exfalso
    have hm:=(hL.mem p.1).1 (by simp)
    have:p.1∈Region.ready .any ops listed:=by
     refine mem_ready.2 ⟨hm.2,ops[p.1],Array.getElem?_eq_getElem hm.1,fun e he hb=> ?_⟩
     have hlt:=hed p.1 _ (Array.getElem?_eq_getElem hm.1) e he hb
     have hni:e.on∉(p::l).map (·.1):=fun hme=>by
      simp only [List.map_cons,List.mem_cons] at hme
      rcases hme with hme | hme
      ·omega
      ·have:=hL.sorted
       simp only [List.map_cons,List.pairwise_cons] at this
       have:=this.1 _ hme
       omega
     have hlt2:e.on<listed.size:=by rw [hL.size];omega
     have:=mt (hL.mem e.on).2 hni
     simp only [Array.getD_eq_getD_getElem?,hlt2,Array.getElem?_eq_getElem,Option.getD_some] at this⊢
     cases hh:listed[e.on] with
     | true=>rfl
     | false=>exact absurd ⟨by omega,hh⟩ this
    rw [hr] at this;simp at this
 intro fuel
 induction fuel with
 | zero=>
   intro l listed a w s s' γ hle hL hin hR hev hok hap hK
   have:l= []:=List.eq_nil_of_length_eq_zero (Nat.le_zero.1 hle)
   subst this
   simp only [evL,Option.some.injEq] at hev;subst hev
   refine ⟨?_,hK _ _ _ _ (Sim.refl _) hR⟩
   cases hr:Region.ready .any ops listed with
   | nil=>rfl
   | cons j _=>
     exfalso
     have hj:j∈Region.ready .any ops listed:=by rw [hr];simp
     obtain ⟨h1,o,h2,_⟩:=mem_ready.1 hj
     have:=(hL.mem j).2 ⟨(Array.getElem?_eq_some_iff.1 h2).1,h1⟩
     simp at this
 | succ fuel ih=>
   intro l listed a w s s' γ hle hL hin hR hev hok hap hK
   refine ⟨fun hr=> ?_,fun i hi=> ?_⟩
   ·have:=first hL hr
    subst this
    simp only [evL,Option.some.injEq] at hev;subst hev
    exact hK _ _ _ _ (Sim.refl _) hR
   ·obtain ⟨h1,o,h2,h3⟩:=mem_ready.1 hi
    have hisz:=(Array.getElem?_eq_some_iff.1 h2).1
    have hil:=(hL.mem i).2 ⟨hisz,h1⟩
    obtain ⟨⟨i',x⟩,hq,hqi⟩:=List.mem_map.1 hil
    simp only at hqi;subst hqi
    obtain ⟨l1,l2,rfl⟩:=List.append_of_mem hq
    have hnd:((l1++(i',x)::l2).map (·.1)).Nodup:=hL.sorted.imp Nat.ne_of_lt
    have hx:=hin (i',x) (by simp)
    simp only at hx
    obtain ⟨x',hx',hco⟩:=hcomp i' o h2
    rw [hx] at hx';injection hx' with hx';subst hx'
    have hsub:∀k,k∈(l1++l2).map (·.1)↔k∈(l1++(i',x)::l2).map (·.1)∧k≠i':=fun k=>by
     have:=hnd
     simp only [List.map_append,List.map_cons] at this
     rw [List.nodup_append] at this
     obtain ⟨_,g5,g6⟩:=this
     simp only [List.nodup_cons] at g5
     simp only [List.map_append,List.map_cons,List.mem_append,List.mem_cons]
     constructor
     ·rintro (h | h)
      ·exact ⟨.inl h,fun e=>g6 k h i' (by simp) e⟩
      ·exact ⟨.inr (.inr h),fun e=>g5.1 (e▸h)⟩
     ·rintro ⟨h | h | h,hne⟩
      ·exact .inl h
      ·exact absurd h hne
      ·exact .inr h
    have hbef:∀k,k∈(l1++(i',x)::l2).map (·.1)→bit (Region.before ops) k i'=false:=fun k hk=>by
     cases hb:bit (Region.before ops) k i' with
     | false=>rfl
     | true=>
       exfalso
       obtain ⟨e,he,heb,hor⟩:=before_bit h2 (hed i' o h2) hb
       have hlt:=hed i' o h2 e he heb
       have hlist:=h3 e he heb
       have hnot:e.on∉(l1++(i',x)::l2).map (·.1):=fun hm=>by
        have:=((hL.mem _).1 hm).2
        have hlt2:e.on<listed.size:=by rw [hL.size];omega
        simp only [Array.getD_eq_getD_getElem?,hlt2,Array.getElem?_eq_getElem,Option.getD_some] at this hlist
        rw [this] at hlist;cases hlist
       rcases hor with rfl | hor
       ·exact hnot hk
       ·exact hL.down e.on (by omega) hnot k hor hk
    have hApart:∀p∈l1,Apart s'.log p (i',x):=fun p hp=>by
     have hpl:p∈l1++(i',x)::l2:=by simp [hp]
     have hlt:p.1<i':=by
      have:=hL.sorted
      simp only [List.map_append,List.map_cons] at this
      exact (List.pairwise_append.1 this).2.2 _ (List.mem_map.2 ⟨p,hp,rfl⟩) _ (by simp)
     have hpsz:=((hL.mem p.1).1 (List.mem_map.2 ⟨p,hpl,rfl⟩)).1
     obtain ⟨xp,hxp,hcp⟩:=hcomp p.1 _ (Array.getElem?_eq_getElem hpsz)
     rw [hin p hpl] at hxp;injection hxp with hxp;subst hxp
     obtain ⟨g1,g2⟩:=pairs_mem hps (hin p hpl) hx hlt (hbef p.1 (List.mem_map.2 ⟨p,hpl,rfl⟩))
     refine ⟨Nat.ne_of_lt hlt, ?_,g1,apartOk_mem hap _ _ _ g2⟩
     unfold compO at hcp
     split at hcp
     ·injection hcp with hcp;rw [←hcp]
     ·cases hcp
    obtain ⟨s'',hev',hS⟩:=bubble hev hnd hApart
    simp only [evL,stepX] at hev'
    split at hev'
    ·rename_i s1 hs1
     have hok'':=hS.ok.1 hok
     refine step_sound h2 hR hco hs1 (evL_ok hev' hok'') fun a' w' γ' hR'=> ?_
     refine ih (l1++l2) _ a' w' s1 s'' γ' ?_ ?_ ?_ hR' hev' hok'' (by rw [←hS.log];exact hap) ?_
     ·simp only [List.length_append,List.length_cons] at hle⊢;omega
     ·refine ⟨by simp [hL.size],fun k=> ?_, ?_,fun k hk hnk j hb hj=> ?_⟩
      ·rw [hsub,hL.mem]
       by_cases hki:k=i'
       ·subst hki
        have:k<listed.size:=by rw [hL.size];exact hisz
        simp [this]
       ·rw [getD_set_ne true (Ne.symm hki)]
        simp [hki]
      ·have:=hL.sorted
       simp only [List.map_append,List.map_cons] at this⊢
       obtain ⟨g1,g2,g3⟩:=List.pairwise_append.1 this
       exact List.pairwise_append.2 ⟨g1,(List.pairwise_cons.1 g2).2,fun a ha b hb=>g3 a ha b (by simp [hb])⟩
      ·have hjl:=((hsub j).1 hj).1
       by_cases hki:k=i'
       ·subst hki
        rw [hbef j hjl] at hb;cases hb
       ·exact hL.down k hk (fun hm=>hnk ((hsub k).2 ⟨hm,hki⟩)) j hb hjl
     ·intro p hp
      refine hin p ?_
      simp only [List.mem_append,List.mem_cons] at hp⊢
      rcases hp with hp | hp
      ·exact .inl hp
      ·exact .inr (.inr hp)
     ·intro a'' w'' s3 γ'' h4 h5
      exact hK a'' w'' s3 γ'' (hS.trans h4) h5
    ·cases hev'
end
open Go.RowKit
section
variable {S:FuncId→List PV→List SE→CallRes→Prop}
abbrev Any:FuncId→List PV→List SE→CallRes→Prop:=fun _ _ _ _=>True
theorem eff_nocall {S S':FuncId→List PV→List SE→CallRes→Prop} {c:CallRes} {d:Nat} {i:I} {vs:List PV} {ids:List Nat} {cs:List SE} (h:i.isCall=false):eff S c d i vs ids cs=eff S' c d i vs ids cs:=by
 cases i<;>first | rfl | simp [I.isCall] at h
theorem stepI_nocall {S':FuncId→List PV→List SE→CallRes→Prop} {lg:Bool} {c:CallRes} {i:Nat} {o:Ins} {s:PS} (h:o.i.isCall=false):stepI S lg c i o s=stepI S' lg c i o s:=by
 obtain ⟨n,fr,st,ok,log⟩:=s
 obtain ⟨od,oid,og,oi⟩:=o
 unfold stepI
 simp only [eff_nocall (S:=S) (S':=S') h]
theorem okG_false:∀(l l':List Prop) (ok:Prop),l.length=l'.length→okG false ok l=okG false ok l'
 | [], [],ok,h=>rfl
 | [],_::_,ok,h=>by simp at h
 | _::_, [],ok,h=>by simp at h
 | p::l,q::l',ok,h=>by
   simp only [okG]
   have:(ok∧(false=true→p))=(ok∧(false=true→q)):=by apply propext;simp
   rw [this]
   exact okG_false l l' _ (by simpa using h)
theorem stepI_call {lg:Bool} {c:CallRes} {i:Nat} {o:Ins} {s:PS} {G:Bool} {f:FuncId} {a:List PV} {b:List SE} (hc:o.i.isCall=true) (hat:callAt o s=some (G,f,a,b)) (hS:G=true→S f a b c):stepI S lg c i o s=stepI Any lg c i o s:=by
 obtain ⟨n,fr,st,ok,log⟩:=s
 obtain ⟨od,oid,og,oi⟩:=o
 cases oi with
 | call cf xs=>
   unfold callAt at hat
   simp only at hat
   split at hat
   ·cases hat
   ·rename_i G' hG
    split at hat
    ·cases hat
    ·rename_i vs0 hvs
     split at hat
     ·cases hat
     ·rename_i f0 args hst
      split at hat
      ·cases hat
      ·rename_i cs hcs
       split at hat
       ·rename_i id args' bs hca
        simp only [norm_someL,snorm_someL,Option.some.injEq,Prod.mk.injEq] at hat
        obtain ⟨rfl,rfl,rfl,rfl⟩:=hat
        rcases hss:stripS G' vs0 with ⟨sd,vs⟩
        rw [hss] at hst hcs hca
        simp only at hst hcs hca
        subst hst
        cases G' with
        | true=>
          have he:∀d,eff S c d (.call cf xs) (f0::args) ((I.call cf xs).acc (f0::args)) cs=eff Any c d (.call cf xs) (f0::args) ((I.call cf xs).acc (f0::args)) cs:=fun d=>by
           simp only [eff,eCall,callV,hca]
           have:S id args' (bs.map (·.2)) c=True:=eq_true (hS rfl)
           simp only [this]
          unfold stepI
          simp only [hG,hvs,stripI,hss,hcs,he]
        | false=>
          cases og with
          | none=>simp [guardV] at hG
          | some g=>
            unfold stepI
            simp only [hG,hvs,stripI,hss,hcs,eff,eCall,callV,hca]
            cases hgv:natIn id givers with
            | true=>
              generalize c.val=cv
              generalize c.st=cst
              generalize c.news=cnw
              have key:∀s:Prop,givV cs ((bs.map (·.1)).headD 0) s cv cst cnw=none∨∃v w k,∀s:Prop,givV cs ((bs.map (·.1)).headD 0) s cv cst cnw=some ⟨v, [s], [w], [],k, []⟩:=fun s=>by
               unfold givV
               split
               ·split
                ·exact .inr ⟨_,_,_,fun _=>rfl⟩
                ·exact .inl rfl
               ·split
                ·exact .inr ⟨_,_,_,fun _=>rfl⟩
                ·exact .inl rfl
               ·exact .inl rfl
              rcases key (S id args' (bs.map (·.2)) c) with h0 | ⟨v0,w0,k0,h0⟩
              ·rcases key (Any id args' (bs.map (·.2)) c) with h1 | ⟨v1,w1,k1,h1⟩
               ·simp only [h0,h1]
               ·rw [h1] at h0;cases h0
              ·simp only [h0]
            | false=>
            simp only
            cases hrdr:natIn id readers with
            | true=>
              simp only
              generalize c.val=cv
              generalize c.st=cst
              generalize c.news=cnw
              cases cv.plain<;>cases cst<;>cases cnw<;>simp only
              rw [okG_false (sd++ [S id args' (bs.map (·.2)) c]) (sd++ [Any id args' (bs.map (·.2)) c]) ok (by simp)]
            | false=>
            simp only
            split
            ·rename_i h1
             split at h1
             ·cases h1
             ·rename_i hn;simp only [if_neg hn]
            ·rename_i val side wr nw kill rm h1
             split at h1
             ·rename_i hcond
              simp only [Option.some.injEq,Eff.mk.injEq] at h1
              obtain ⟨rfl,rfl,rfl,rfl,rfl,rfl⟩:=h1
              simp only [if_pos hcond]
              rw [okG_false (sd++ [S id args' (bs.map (·.2)) c]) (sd++ [True]) ok (by simp)]
             ·cases h1
       ·cases hat
 | _=>simp [I.isCall] at hc
theorem stepX_nocall {S':FuncId→List PV→List SE→CallRes→Prop} {lg:Bool} {c:CallRes} {i:Nat} {o:Ins} {s:PS} (h:o.i.isCall=false):stepX S lg c i o s=stepX S' lg c i o s:=by
 cases lg with
 | true=>simp only [stepX];exact stepI_nocall h
 | false=>
   obtain ⟨od,oid,og,oi⟩:=o
   obtain ⟨n,fr,st,ok,log⟩:=s
   simp only [stepX,stepG]
   cases og with
   | none=>simp only [stepI_nocall (S:=S) (S':=S') (lg:=false) (c:=c) (i:=i) (o:=⟨od,oid,none,oi⟩) h]
   | some g=>
     have e1:=stepI_nocall (S:=S) (S':=S') (lg:=false) (c:=c) (i:=i) (o:=⟨od,oid,some g,oi⟩) (s:=⟨n,fr,st,ok,log⟩) h
     have e2:=stepI_nocall (S:=S) (S':=S') (lg:=false) (c:=c) (i:=i) (o:=⟨od,oid,none,oi⟩) (s:=⟨n,fr,st,ok,log⟩) h
     cases oi.heavy with
     | true=>simp only [e2]
     | false=>
       cases skipJ ⟨od,oid,some g,oi⟩ ⟨n,fr,st,ok,log⟩ with
       | true=>simp only [e1]
       | false=>
         simp only
         rw [e1]
         simp only [e2]
theorem stepX_call {lg:Bool} {c:CallRes} {i:Nat} {o:Ins} {s:PS} {G:Bool} {f:FuncId} {a:List PV} {b:List SE} (hc:o.i.isCall=true) (hat:callAt o s=some (G,f,a,b)) (hS:G=true→S f a b c):stepX S lg c i o s=stepX Any lg c i o s:=by
 cases lg with
 | true=>simp only [stepX];exact stepI_call hc hat hS
 | false=>
   have hh:o.i.heavy=false:=by
    obtain ⟨od,oid,og,oi⟩:=o
    cases oi<;>simp [I.isCall] at hc<;>rfl
   have e:=stepI_call (lg:=false) (i:=i) hc hat hS
   obtain ⟨od,oid,og,oi⟩:=o
   obtain ⟨n,fr,st,ok,log⟩:=s
   simp only [stepX,stepG]
   simp only at hh
   rw [hh]
   cases og with
   | none=>exact e
   | some g=>
     cases skipJ ⟨od,oid,some g,oi⟩ ⟨n,fr,st,ok,log⟩ with
     | true=>
       have hp:oi.isPick=false:=by cases oi<;>simp [I.isCall] at hc<;>rfl
       simp only [hp]
     | false=>
       simp only
       rw [e]
       split
       ·rfl
       ·split
        ·rename_i hgv
         have hat2:callAt ⟨od,oid,none,oi⟩ ⟨n,fr,st,ok,log⟩=some (G,f,a,b):=by
          unfold callAt at hat⊢
          simp only [hgv] at hat
          simp only [guardV]
          exact hat
         exact stepI_call (lg:=false) (i:=i) (o:=⟨od,oid,none,oi⟩) hc hat2 hS
        ·rfl
        ·rfl
theorem stepX_skip {S':FuncId→List PV→List SE→CallRes→Prop} {lg:Bool} {c:CallRes} {i:Nat} {o:Ins} {s:PS} (h:(o.i.isCall&&(lg || !skipJ o s))=false):stepX S lg c i o s=stepX S' lg c i o s:=by
 cases hc:o.i.isCall with
 | false=>exact stepX_nocall hc
 | true=>
   rw [hc] at h
   simp only [Bool.true_and,Bool.or_eq_false_iff,Bool.not_eq_false'] at h
   obtain ⟨rfl,hs⟩:=h
   have hh:o.i.heavy=false:=by
    obtain ⟨od,oid,og,oi⟩:=o
    cases oi<;>simp [I.isCall] at hc<;>rfl
   obtain ⟨od,oid,og,oi⟩:=o
   obtain ⟨n,fr,st,ok,log⟩:=s
   simp only [stepX,stepG]
   simp only at hh
   rw [hh,hs]
   cases og with
   | none=>simp [skipJ] at hs
   | some g=>
     have hp:oi.isPick=false:=by cases oi<;>simp [I.isCall] at hc<;>rfl
     simp only [hp]
def num:Nat→List Ins→List (Nat×Ins)
 | _, []=> []
 | i,x::r=>(i,x)::num (i+1) r
theorem num_fst:∀(l:List Ins) (i:Nat),(num i l).map (·.1)=List.range' i l.length
 | [],i=>rfl
 | x::l,i=>by simp [num,num_fst l (i+1),List.range'_succ]
theorem num_get:∀(l:List Ins) (i:Nat) (p:Nat×Ins),p∈num i l→i≤p.1∧l[p.1 - i]? =some p.2
 | [],i,p,h=>by simp [num] at h
 | x::l,i,p,h=>by
   simp only [num,List.mem_cons] at h
   rcases h with rfl | h
   ·exact ⟨Nat.le_refl _,by simp⟩
   ·obtain ⟨h1,h2⟩:=num_get l (i+1) p h
    refine ⟨by omega, ?_⟩
    rw [show p.1 - i=(p.1 - (i+1))+1 from by omega]
    simpa using h2
theorem evL_cr {lg:Bool} {cr cr':Nat→CallRes}:∀{l:List (Nat×Ins)} {s:PS},(∀p∈l,cr p.1=cr' p.1)→evL S lg cr l s=evL S lg cr' l s
 | [],s,h=>rfl
 | (i,x)::r,s,h=>by
   simp only [evL,h (i,x) (by simp)]
   split
   ·exact evL_cr fun p hp=>h p (by simp [hp])
   ·rfl
theorem evK_evL {lg:Bool}:∀{l:List Ins} {i:Nat} {s:PS} {K:PS→Prop},evK S lg i l s K→∃cr s',evL S lg cr (num i l) s=some s'∧K s'
 | [],i,s,K,h=>⟨fun _=>default,s,rfl,h⟩
 | x::l,i,s,K,h=>by
   simp only [evK] at h
   have main:∀(c:CallRes) (s1:PS),stepX S lg c i x s=some s1→evK S lg (i+1) l s1 K→∃cr s',evL S lg cr (num i (x::l)) s=some s'∧K s':=fun c s1 h1 h2=>by
    obtain ⟨cr,s',h3,h4⟩:=evK_evL h2
    refine ⟨fun k=>if k=i then c else cr k,s', ?_,h4⟩
    simp only [num,evL,if_pos,h1]
    rw [←h3]
    refine evL_cr fun p hp=> ?_
    have:=(num_get l (i+1) p hp).1
    rw [if_neg (by omega)]
   split at h
   ·rename_i hc
    have hc:=(Bool.and_eq_true_iff.1 hc).1
    split at h
    ·rename_i G id args bs hat
     obtain ⟨c,hS,h⟩:=h
     split at h
     ·rename_i s1 h1
      refine main c s1 ?_ h
      rw [stepX_call hc hat hS];exact h1
     ·exact h.elim
    ·exact h.elim
   ·rename_i hc
    split at h
    ·rename_i s1 h1
     refine main default s1 ?_ h
     rw [stepX_skip (S':=Any) hc];exact h1
    ·exact h.elim
end
def lvOf:Exit→Option Lv
 | .normal=>some .nrm
 | .exit i=>match Nat.ble 1000000 i with
   | true=>none
   | false=>some (.ex i)
 | .goto l=>some (.ex (1000000+l))
 | .ret=>some .ret
 | _=>none
theorem lvOf_exit {i:Nat} {lv:Lv} (h:lvOf (.exit i)=some lv):Nat.ble 1000000 i=false∧lv= .ex i:=by
 unfold lvOf at h
 dsimp only at h
 split at h
 ·cases h
 ·rename_i hb
  cases h
  exact ⟨hb,rfl⟩
theorem lvOf_of {i:Nat} (h:Nat.ble 1000000 i=false):lvOf (.exit i)=some (.ex i):=by
 simp only [lvOf,h]
theorem ble_add (l:Nat):Nat.ble 1000000 (1000000+l)=true:=Nat.ble_eq_true_of_le (Nat.le_add_right _ _)
section
variable {P:Program}
def post (X:Cx) (w0:World) (may:Nat→Prop) (Q:Lv→PS→Prop) (e:Exit) (a:Act) (w:World):Prop:=
 ∃lv s γ,lvOf e=some lv∧Q lv s∧Rel X w0 may a w s γ
def LSem (P:Program) (wr:Bool) (np:Nat) (c:C) (Q:Lv→PS→Prop) (s:PS):Prop:=
 (∀lv s,Q lv s→s.ok)→∀code,comp P wr code=some c.er→∀X w0 may a w γ,X.np=np→Rel X w0 may a w s γ→code.wp P (post X w0 may Q) a w
theorem Rel.same {X:Cx} {w0:World} {may:Nat→Prop} {a:Act} {w:World} {s s':PS} {γ:Gh} (h:Rel X w0 may a w s γ) (hn:s.n=s'.n) (hf:s.fr=s'.fr) (hs:s.st=s'.st):Rel X w0 may a w s' γ:=
 ⟨by rw [←hn];exact h.size,h.defers,fun t p hp=>by rw [←hf] at hp;rw [←hn];exact h.fr t p hp,by rw [←hs];exact h.st,h.keeps,h.lo,h.own,h.asLt,fun r hr=>by rw [←hs];exact h.par r hr,h.mayP,by rw [←hs];exact h.fx,by rw [←hs];exact h.pr⟩
theorem Rep.drew {X:Cx} {γ:Gh} {w:World} {p:PV} {v:Value} (h:Rep X γ w p v):Rep X γ { w with drawn:=w.drawn+1 } p v:=
 h.mono (fun _ _ h=>h) (fun _ h=> .inl h) (Nat.le_refl _) (fun _ _ _=>rfl)
theorem Rel.drew {X:Cx} {w0:World} {may:Nat→Prop} {a:Act} {w:World} {s:PS} {γ:Gh} (h:Rel X w0 may a w s γ):Rel X w0 may a { w with drawn:=w.drawn+1 } s γ:=
 ⟨h.size,h.defers,fun t p hp=>⟨(h.fr t p hp).1,(h.fr t p hp).2.drew⟩,⟨h.st.dom,fun r ge e hg he=>(h.st.at_ r ge e hg he).mono (fun _ _ hp=>hp.drew) (fun _ _=>rfl),h.st.inj,h.st.asOff,h.st.lt,h.st.glob⟩,⟨h.keeps.os,h.keeps.tape,h.keeps.output,h.keeps.size,h.keeps.block⟩,h.lo,h.own,h.asLt,h.par,h.mayP,h.fx,h.pr⟩
theorem comp_ins {wr:Bool} {ops:Array Oper} {ins:List Ins} (h:mapO (compO P wr ops) ops.toList=some ins) (k:Nat) (o:Oper) (hk:ops[k]? =some o):∃x,ins[k]? =some x∧compO P wr ops o=some x:=by
 have:=mapO_get h k o (by simpa using hk)
 exact this
theorem vc_sound {wr:Bool} {np:Nat} (hmix:P.follows .mixedOrders=true):∀(c:C) (code:Code) (Q:Lv→PS→Prop) (s:PS),(∀lv s,Q lv s→s.ok)→comp P wr code=some c.er→vc (PureCall P) (LSem P wr np) c Q s→
  s.ok∧∀X w0 may a w γ,X.np=np→Rel X w0 may a w s γ→code.wp P (post X w0 may Q) a w:=by
 intro c
 induction c with
 | skip=>
   intro code Q s hQ hc h
   refine ⟨hQ _ _ h,fun X w0 may a w γ hX hR=> ?_⟩
   have:code= .skip:=by
    cases code with
    | skip=>rfl
    | region id ops dr=>cases dr<;>simp only [comp,C.er] at hc<;>(repeat' (split at hc))<;>simp_all
    | _=>simp only [comp,C.er] at hc<;>(repeat' (split at hc))<;>simp_all
   subst this
   exact wp_skip ⟨_,_,_,rfl,h,hR⟩
 | reg ins=>
   intro code Q s hQ hc h
   simp only [vc] at h
   obtain ⟨cr,s',h1,h2⟩:=evK_evL h
   have hok:=hQ _ _ h2
   refine ⟨evL_ok h1 hok,fun X w0 may a w γ hX hR=> ?_⟩
   have:∃id ops,code= .region id ops false∧mapO (compO P wr ops) ops.toList=some ins:=by
    cases code with
    | region id ops dr=>
      cases dr with
      | false=>
        simp only [comp,C.er] at hc
        split at hc
        ·rename_i hm
         simp only [Option.some.injEq,C.reg.injEq] at hc
         subst hc
         exact ⟨id,ops,rfl,hm⟩
        ·cases hc
      | true=>simp only [comp,C.er] at hc;(repeat' (split at hc))<;>cases hc
    | _=>simp only [comp,C.er] at hc<;>(repeat' (split at hc))<;>simp_all
   obtain ⟨id,ops,rfl,hm⟩:=this
   refine wp_region ?_
   have hlen:ops.size=ins.length:=by have:=mapO_length hm;simpa using this.symm
   have:=reg_sound (ops:=ops) (wr:=wr) (l:=num 0 ins) (Q:=post X w0 may Q) (fun p hp=>by
    obtain ⟨_,hg⟩:=num_get ins 0 p hp
    have hlt:=(List.getElem?_eq_some_iff.1 hg).1
    have ho:ops[p.1]? =some (ops[p.1]'(by omega)):=Array.getElem?_eq_getElem (by omega)
    obtain ⟨x,hx,hco⟩:=comp_ins hm _ _ ho
    rw [show p.1 - 0=p.1 from rfl,hx] at hg
    injection hg with hg;subst hg
    exact ⟨_,ho,hco⟩) hR h1 hok (fun a' w' γ' hR'=>⟨_,_,_,rfl,h2,hR'⟩)
   rw [num_fst,←hlen,←List.range_eq_range'] at this
   exact this
 | drw ins ps=>
   intro code Q s hQ hc h
   obtain ⟨n,fr,st,ok,log⟩:=s
   simp only [vc] at h
   obtain ⟨cr,s',h1,h2⟩:=evK_evL h
   obtain ⟨n',fr',st',ok',log'⟩:=s'
   simp only at h2
   obtain ⟨hap,h2⟩:=h2
   have hok:=hQ _ _ h2
   have hok0:=evL_ok h1 hok
   refine ⟨hok0,fun X w0 may a w γ hX hR=> ?_⟩
   have:∃id ops,code= .region id ops true∧mapO (compO P wr ops) ops.toList=some ins∧pairs (Region.before ops) ins=some ps∧edgesOk ops.toList=true:=by
    cases code with
    | region id ops dr=>
      cases dr with
      | false=>simp only [comp,C.er] at hc;split at hc<;>cases hc
      | true=>
        simp only [comp,C.er] at hc
        split at hc
        ·rename_i ins' hm
         split at hc
         ·rename_i ps' hp
          split at hc
          ·rename_i he
           simp only [Option.some.injEq,C.drw.injEq] at hc
           obtain ⟨rfl,rfl⟩:=hc
           exact ⟨id,ops,rfl,hm,hp,he⟩
          ·cases hc
         ·cases hc
        ·cases hc
    | _=>simp only [comp,C.er] at hc<;>(repeat' (split at hc))<;>simp_all
   obtain ⟨id,ops,rfl,hm,hp,he⟩:=this
   have hlen:ops.size=ins.length:=by have:=mapO_length hm;simpa using this.symm
   refine wp_region_any hmix ?_
   refine any_sound (wr:=wr) (fun k o hk=>comp_ins hm k o hk) hp (fun k o hk e hem heb=> ?_) ops.size (num 0 ins) _ a _ _ _ γ ?_ ?_ ?_ (hR.drew.same (s':=⟨n,fr,st,ok,fun _=>none⟩) rfl rfl rfl) h1 hok hap fun a' w' s'' γ' hS hR'=> ?_
   ·have h3:=List.all_eq_true.1 he (o,k) (List.mk_mem_zipIdx_iff_getElem?.2 (by simpa using hk))
    have h4:=Array.all_eq_true_iff_forall_mem.1 h3 e hem
    simp only [heb,Bool.not_true,Bool.false_or,decide_eq_true_eq] at h4
    exact h4
   ·have:=congrArg List.length (num_fst ins 0)
    simp only [List.length_map,List.length_range'] at this
    omega
   ·refine ⟨by simp,fun k=> ?_, ?_,fun k hk hnk=> ?_⟩
    ·rw [num_fst,←hlen,←List.range_eq_range',List.mem_range]
     constructor
     ·intro h;exact ⟨h,by simp [h]⟩
     ·rintro ⟨h,_⟩;exact h
    ·rw [num_fst,←List.range_eq_range'];exact List.pairwise_lt_range
    ·rw [num_fst,←hlen,←List.range_eq_range',List.mem_range] at hnk;exact absurd hk hnk
   ·intro p hp
    have:=(num_get ins 0 p hp).2
    simpa using this
   ·have e1:s''.ok=ok':=propext hS.ok.symm
    obtain ⟨n2,fr2,st2,ok2,log2⟩:=s''
    have a1:=hS.n;have a2:=hS.fr;have a3:=hS.st
    simp only at e1 a1 a2 a3
    subst e1 a1 a2 a3
    exact ⟨_,_,_,rfl,h2,hR'.same rfl rfl rfl⟩
 | seq x y ihx ihy=>
   intro code Q s hQ hc h
   have:∃p q,code= .seq p q∧comp P wr p=some x.er∧comp P wr q=some y.er:=by
    cases code with
    | seq p q=>
      simp only [comp,C.er] at hc
      split at hc
      ·rename_i a b ha hb
       simp only [Option.some.injEq,C.seq.injEq] at hc
       obtain ⟨rfl,rfl⟩:=hc
       exact ⟨p,q,rfl,ha,hb⟩
      ·cases hc
    | region id ops dr=>cases dr<;>simp only [comp,C.er] at hc<;>(repeat' (split at hc))<;>simp_all
    | _=>simp only [comp,C.er] at hc<;>(repeat' (split at hc))<;>simp_all
   obtain ⟨p,q,rfl,hp,hq⟩:=this
   simp only [vc] at h
   obtain ⟨h1,h2⟩:=ihx p _ s (fun lv s' hs=>by
    cases lv with
    | nrm=>exact (ihy q Q s' hQ hq hs).1
    | ex i=>exact hQ _ _ hs
    | ret=>exact hQ _ _ hs) hp h
   refine ⟨h1,fun X w0 may a w γ hX hR=>wp_seq (wp_mono (h2 X w0 may a w γ hX hR) ?_)⟩
   rintro e a' w' ⟨lv,s',γ',he,hq',hR'⟩
   cases e
   ·cases he;exact (ihy q Q s' hQ hq hq').2 X w0 may a' w' γ' hX hR'
   ·obtain ⟨hb,rfl⟩:=lvOf_exit he;exact ⟨_,_,_,he,hq',hR'⟩
   ·cases he;exact ⟨_,_,_,rfl,hq',hR'⟩
   ·cases he;exact ⟨_,_,_,rfl,hq',hR'⟩
   ·cases he
   ·cases he
 | cond g x y ihx ihy=>
   intro code Q s hQ hc h
   have:∃g' p q,code= .cond g' p q∧arg g'=some g∧comp P wr p=some x.er∧comp P wr q=some y.er:=by
    cases code with
    | cond g' p q=>
      simp only [comp,C.er] at hc
      split at hc
      ·rename_i c a b hc' ha hb
       simp only [Option.some.injEq,C.cond.injEq] at hc
       obtain ⟨rfl,rfl,rfl⟩:=hc
       exact ⟨g',p,q,rfl,hc',ha,hb⟩
      ·cases hc
    | region id ops dr=>cases dr<;>simp only [comp,C.er] at hc<;>(repeat' (split at hc))<;>simp_all
    | _=>simp only [comp,C.er] at hc<;>(repeat' (split at hc))<;>simp_all
   obtain ⟨g',p,q,rfl,hg,hp,hq⟩:=this
   obtain ⟨n,fr,st,ok,log⟩:=s
   simp only [vc] at h
   split at h
   ·rename_i b hb
    obtain ⟨h1,h2,h3⟩:=h
    refine ⟨h1,fun X w0 may a w γ hX hR=> ?_⟩
    have hgv:=arg_rep (eval_opd hR) hg hb
    refine wp_cond_split hgv.bool_inv (fun ht=> ?_) (fun hf=> ?_)
    ·exact (ihx p Q _ hQ hp (h2 ht)).2 X w0 may a w γ hX (hR.same rfl rfl rfl)
    ·exact (ihy q Q _ hQ hq (h3 hf)).2 X w0 may a w γ hX (hR.same rfl rfl rfl)
   ·exact h.elim
 | block id b ih=>
   intro code Q s hQ hc h
   have:∃p,code= .block id p∧comp P wr p=some b.er∧Nat.ble 1000000 id=false:=by
    cases code with
    | block id' p=>
      simp only [comp,C.er] at hc
      split at hc
      ·cases hc
      ·rename_i hid
       simp only [Option.map_eq_some_iff,C.block.injEq] at hc
       obtain ⟨b',hb,rfl,rfl⟩:=hc
       exact ⟨p,rfl,hb,hid⟩
    | region id ops dr=>cases dr<;>simp only [comp,C.er] at hc<;>(repeat' (split at hc))<;>simp_all
    | _=>simp only [comp,C.er] at hc<;>(repeat' (split at hc))<;>simp_all
   obtain ⟨p,rfl,hp,hid⟩:=this
   simp only [vc] at h
   obtain ⟨h1,h2⟩:=ih p _ s (fun lv s' hs=>by
    cases lv with
    | nrm=>exact hQ _ _ hs
    | ex i=>simp only at hs;split at hs<;>exact hQ _ _ hs
    | ret=>exact hQ _ _ hs) hp h
   refine ⟨h1,fun X w0 may a w γ hX hR=>wp_block (wp_mono (h2 X w0 may a w γ hX hR) ?_)⟩
   rintro e a' w' ⟨lv,s',γ',he,hq',hR'⟩
   cases e
   ·cases he;exact ⟨_,_,_,rfl,hq',hR'⟩
   ·rename_i i
    obtain ⟨hb,rfl⟩:=lvOf_exit he
    simp only [Exit.inBlock]
    simp only at hq'
    split at hq'
    ·rename_i hi
     rw [if_pos (Nat.eq_of_beq_eq_true hi)]
     exact ⟨_,_,_,rfl,hq',hR'⟩
    ·rename_i hi
     rw [if_neg (fun e=>by rw [e,Nat.beq_refl] at hi;cases hi)]
     exact ⟨_,_,_,he,hq',hR'⟩
   ·rename_i l
    cases he
    simp only at hq'
    split at hq'
    ·rename_i hi
     rw [←Nat.eq_of_beq_eq_true hi,ble_add] at hid
     cases hid
    ·exact ⟨_,_,_,rfl,hq',hR'⟩
   ·cases he;exact ⟨_,_,_,rfl,hq',hR'⟩
   ·cases he
   ·cases he
 | loop b ih=>
   intro code Q s hQ hc h
   obtain ⟨n,fr,st,ok,log⟩:=s
   simp only [vc] at h
   exact ⟨h.1,fun X w0 may a w γ hX hR=>h.2 hQ code hc X w0 may a w γ hX (hR.same rfl rfl rfl)⟩
 | exit id=>
   intro code Q s hQ hc h
   have:code= .exit id∧Nat.ble 1000000 id=false:=by
    cases code with
    | exit id'=>
      simp only [comp,C.er] at hc
      split at hc
      ·cases hc
      ·rename_i hid
       simp only [Option.some.injEq,C.exit.injEq] at hc
       subst hc
       exact ⟨rfl,hid⟩
    | region id ops dr=>cases dr<;>simp only [comp,C.er] at hc<;>(repeat' (split at hc))<;>simp_all
    | _=>simp only [comp,C.er] at hc<;>(repeat' (split at hc))<;>simp_all
   obtain ⟨rfl,hid⟩:=this
   exact ⟨hQ _ _ h,fun X w0 may a w γ hX hR=>wp_exit ⟨_,_,_,lvOf_of hid,h,hR⟩⟩
 | lab l=>
   intro code Q s hQ hc h
   have:code= .label l:=by
    cases code with
    | label l'=>simp only [comp,C.er,Option.some.injEq,C.lab.injEq] at hc;rw [hc]
    | region id ops dr=>cases dr<;>simp only [comp,C.er] at hc<;>(repeat' (split at hc))<;>simp_all
    | _=>simp only [comp,C.er] at hc<;>(repeat' (split at hc))<;>simp_all
   subst this
   exact ⟨hQ _ _ h,fun X w0 may a w γ hX hR=>wp_label ⟨_,_,_,rfl,h,hR⟩⟩
 | gto l=>
   intro code Q s hQ hc h
   have:code= .goto l:=by
    cases code with
    | goto l'=>simp only [comp,C.er,Option.some.injEq,C.gto.injEq] at hc;rw [hc]
    | region id ops dr=>cases dr<;>simp only [comp,C.er] at hc<;>(repeat' (split at hc))<;>simp_all
    | _=>simp only [comp,C.er] at hc<;>(repeat' (split at hc))<;>simp_all
   subst this
   exact ⟨hQ _ _ h,fun X w0 may a w γ hX hR=>wp_goto ⟨_,_,_,rfl,h,hR⟩⟩
 | scope b ih=>
   intro code Q s hQ hc h
   by_cases hl:∃l,b.labOf=some l
   ·obtain ⟨l,hl⟩:=hl
    obtain ⟨n,fr,st,ok,log⟩:=s
    simp only [vc,hl] at h
    exact ⟨h.1,fun X w0 may a w γ hX hR=>h.2 hQ code hc X w0 may a w γ hX (hR.same rfl rfl rfl)⟩
   have hn:b.labOf=none:=by
    cases e:b.labOf with
    | none=>rfl
    | some l=>exact (hl ⟨l,e⟩).elim
   have:∃p,code= .scope p∧comp P wr p=some b.er:=by
    cases code with
    | scope p=>
      simp only [comp,C.er,Option.map_eq_some_iff,C.scope.injEq] at hc
      obtain ⟨b',hb,rfl⟩:=hc
      exact ⟨p,rfl,hb⟩
    | region id ops dr=>cases dr<;>simp only [comp,C.er] at hc<;>(repeat' (split at hc))<;>simp_all
    | _=>simp only [comp,C.er] at hc<;>(repeat' (split at hc))<;>simp_all
   obtain ⟨p,rfl,hp⟩:=this
   simp only [vc,hn] at h
   obtain ⟨h1,h2⟩:=ih p (outs Q) s (fun lv s' hs=>by
    cases lv with
    | nrm=>exact hQ _ _ hs
    | ex i=>
      simp only [outs] at hs
      split at hs
      ·exact hs.elim
      ·exact hQ _ _ hs
    | ret=>exact hQ _ _ hs) hp h
   refine ⟨h1,fun X w0 may a w γ hX hR=>wp_scope_straight (wp_mono (h2 X w0 may a w γ hX hR) ?_)⟩
   rintro e a' w' ⟨lv,s',γ',he,hq',hR'⟩
   cases e
   ·cases he;exact ⟨_,_,_,rfl,hq',hR'⟩
   ·obtain ⟨hb,rfl⟩:=lvOf_exit he
    simp only [outs,hb] at hq'
    exact ⟨_,_,_,he,hq',hR'⟩
   ·cases he
    simp only [outs,ble_add] at hq'
   ·cases he;exact ⟨_,_,_,rfl,hq',hR'⟩
   ·cases he
   ·cases he
 | ret=>
   intro code Q s hQ hc h
   have:code= .ret:=by
    cases code with
    | ret=>rfl
    | region id ops dr=>cases dr<;>simp only [comp,C.er] at hc<;>(repeat' (split at hc))<;>simp_all
    | _=>simp only [comp,C.er] at hc<;>(repeat' (split at hc))<;>simp_all
   subst this
   exact ⟨hQ _ _ h,fun X w0 may a w γ hX hR=>wp_ret ⟨_,_,_,rfl,h,hR⟩⟩
 | bad=>
   intro code Q s hQ hc h
   exact h.elim
 | raw b=>
   intro code Q s hQ hc h
   obtain ⟨n,fr,st,ok,log⟩:=s
   simp only [vc] at h
   exact ⟨h.1,fun X w0 may a w γ hX hR=>h.2 hQ code hc X w0 may a w γ hX (hR.same rfl rfl rfl)⟩
 | cut b ih=>
   intro code Q s hQ hc h
   obtain ⟨n,fr,st,ok,log⟩:=s
   simp only [vc] at h
   exact ⟨h.1,fun X w0 may a w γ hX hR=>h.2 hQ code hc X w0 may a w γ hX (hR.same rfl rfl rfl)⟩
end
open Go.RowKit
def RowEq (n:Nat) (f f':Nat→List PV):Prop:=∀i,i<n→f i=f' i
def MpEq (ks:List KK) (h:List PC→Bool) (f:List PC→List PC) (h':List PC→Bool) (f':List PC→List PC):Prop:=∀kl,okK ks kl=true→h kl=h' kl∧f kl=f' kl
mutual
def PLe (st:Nat→Option SE) (kp:Nat→Bool):PV→PV→Prop
 | .agg cs,q=>match q with
   | .agg cs'=>PLeL st kp cs cs'
   | .junk=>True
   | _=>False
 | .tup cs,q=>match q with
   | .tup cs'=>PLeL st kp cs cs'
   | .junk=>True
   | _=>False
 | .fn f a b,q=>match q with
   | .fn f' a' b'=>f=f'∧PLeL st kp a a'∧PLeL st kp b b'
   | .junk=>True
   | _=>False
 | .cnd g p,q=>match q with
   | .cnd g' p'=>g=g'∧PLe st kp p p'
   | .junk=>True
   | _=>False
 | .int k n,q=>match q with
   | .int k' n'=>k=k'∧n=n'
   | .junk=>True
   | _=>False
 | .bool b,q=>match q with
   | .bool b'=>b=b'
   | .junk=>True
   | _=>False
 | .str s,q=>match q with
   | .str s'=>s=s'
   | .junk=>True
   | _=>False
 | .sl τ z n f,q=>match q with
   | .sl τ' z' n' f'=>τ≤τ'∧z=z'∧n=n'∧RowEq n f f'
   | .junk=>True
   | _=>False
 | .nil _,q=>match q with
   | .nil _=>True
   | .sl _ _ n' _=>n'=0
   | .junk=>True
   | _=>False
 | .os r,q=>match q with
   | .os r'=>r=r'∧kp r=true
   | .sl τ' z' n' f'=>kp r=false∧(match st r with
     | some (.row τ _ z n f)=>τ≤τ'∧z=z'∧n=n'∧RowEq n f f'
     | _=>False)
   | .junk=>True
   | _=>False
 | .vw h r lo n,q=>match q with
   | .vw h' r' lo' n'=>h=h'∧r=r'∧lo=lo'∧n=n'∧kp r=true
   | .sl τ' z' n' f'=>kp r=false∧(match st r with
     | some (.row τ _ z _ f)=>τ≤τ'∧z=z'∧n=n'∧RowEq n (fun i=>f (lo+i)) f'
     | _=>False)
   | .junk=>True
   | _=>False
 | .rf m r,q=>match q with
   | .rf m' r'=>m=m'∧r=r'∧kp r=true
   | .junk=>True
   | _=>False
 | .mpv ks vks ka va h f,q=>match q with
   | .mpv ks' vks' ka' va' h' f'=>ks=ks'∧vks=vks'∧ka=ka'∧va=va'∧MpEq ks h f h' f'
   | _=>False
 | .pt r i j,q=>match q with
   | .pt r' i' j'=>r=r'∧i=i'∧j=j'∧kp r=true
   | .rp τ' cs'=>i=0∧j=0∧kp r=false∧(match st r with
     | some (.box cs)=>cs=cs'∧cs.all PV.flat=true∧tauL cs≤τ'
     | _=>False)
   | .junk=>True
   | _=>False
 | .rp τ cs,q=>match q with
   | .rp τ' cs'=>τ≤τ'∧cs=cs'
   | .junk=>True
   | _=>False
 | .raw v,q=>match q with
   | .raw v'=>v=v'
   | .junk=>True
   | _=>False
 | .junk,q=>match q with
   | .junk=>True
   | _=>False
def PLeL (st:Nat→Option SE) (kp:Nat→Bool):List PV→List PV→Prop
 | [],l=>match l with
   | []=>True
   | _::_=>False
 | p::ps,l=>match l with
   | []=>False
   | q::qs=>PLe st kp p q∧PLeL st kp ps qs
end
def SLe (st:Nat→Option SE) (kp:Nat→Bool):SE→SE→Prop
 | .box l,e=>match e with
   | .box l'=>PLeL st kp l l'
   | .row .. =>False
   | .bld .. =>False
 | .row τ e z n f,e2=>match e2 with
   | .row τ' e' z' n' f'=>τ≤τ'∧e=e'∧z=z'∧n=n'∧RowEq n f f'∧Nat.ble 3 τ=Nat.ble 3 τ'
   | .box _=>False
   | .bld .. =>False
 | .bld T e s,e2=>match e2 with
   | .bld T' e' s'=>T=T'∧e=e'∧s=s'
   | .box _=>False
   | .row .. =>False
theorem PLeL_len {st:Nat→Option SE} {kp:Nat→Bool}:∀{l l':List PV},PLeL st kp l l'→l'.length=l.length
 | [], [],_=>rfl
 | [],_::_,h=>by simp [PLeL] at h
 | _::_, [],h=>by simp [PLeL] at h
 | p::ps,q::qs,h=>by simp only [PLeL] at h;simp [PLeL_len h.2]
theorem PLeL_get {st:Nat→Option SE} {kp:Nat→Bool}:∀{l l':List PV},PLeL st kp l l'→∀(k:Nat) (q:PV),l'[k]? =some q→∃p,l[k]? =some p∧PLe st kp p q
 | [], [],_,k,q,hk=>by simp at hk
 | [],_::_,h,k,q,hk=>by simp [PLeL] at h
 | _::_, [],h,k,q,hk=>by simp at hk
 | p::ps,q'::qs,h,k,q,hk=>by
   simp only [PLeL] at h
   cases k with
   | zero=>simp only [List.getElem?_cons_zero,Option.some.injEq] at hk;subst hk;exact ⟨p,rfl,h.1⟩
   | succ k=>simpa using PLeL_get h.2 k q (by simpa using hk)
theorem PLeL_marks {st:Nat→Option SE} {kp:Nat→Bool} {τ τ':Nat} (ht:τ≤τ'):∀{l:List PV},allRp l=true→PLeL st kp (rpMarks τ l) (rpMarks τ' l)
 | [],_=>by simp only [rpMarks,PLeL]
 | p::l,h=>by
   cases p<;>simp only [allRp,Bool.false_eq_true] at h
   simp only [rpMarks,rpMark,PLeL,PLe]
   exact ⟨⟨ht,trivial⟩,PLeL_marks ht h⟩
theorem flat_le {st:Nat→Option SE} {kp:Nat→Bool} {c:PV} (h:c.flat=true) {τ τ':Nat} (ht:τ≤τ'):PLe st kp (c.mark τ) (c.mark τ'):=by
 cases c with
 | fn f a b=>
   obtain ⟨rfl,hb⟩:=flat_fn h
   simp only [PV.mark,PLe,PLeL];exact ⟨trivial,trivial,PLeL_marks ht hb⟩
 | _=>first | (simp [PV.flat] at h;done) | simp [PV.mark,PLe,RowEq,ht]
section
variable {P:Program} {X:Cx} {γ γ' γk:Gh} {w:World} {st:Nat→Option SE} {kp:Nat→Bool}
theorem Rep.own_lessA {p:PV} {v:Value} (h:Rep X γ w p v) (ho:∀b,γ'.own b→γ.own b):(p.flat=true∨∃τ cs,p= .rp τ cs)→Rep X γ' w p v:=by
 induction h with
 | int k n=>intro _;exact .int k n
 | bool b=>intro _;exact .bool b
 | str s=>intro _;exact .str s
 | sl τ z n f ad cap vs hcap hz hf hb h ih=>
   intro _
   refine .sl τ z n f ad cap vs hcap hz hf (fun hn=> ?_) (fun i j c hi hc=>ih i j c hi hc (.inl (flat_mark (hf i hi c (List.mem_of_getElem? hc)) τ)))
   obtain ⟨a,rfl,hm,hlt,hc⟩:=hb hn
   exact ⟨a,rfl,⟨fun h=>hm.1 (ho _ h),hm.2⟩,hlt,hc⟩
 | rp τ cs a vs hf hb hc h ih=>
   intro _
   refine .rp τ cs a vs hf (fun hn=> ?_) hc (fun k c hk=>ih k c hk (.inl (flat_mark (hf c (List.mem_of_getElem? hk)) τ)))
   obtain ⟨hm,hlt⟩:=hb hn
   exact ⟨⟨fun h=>hm.1 (ho _ h),hm.2⟩,hlt⟩
 | fn f first caps vs us hl hl' h h' ih ih'=>
   intro hf
   have hf:(PV.fn f first caps).flat=true:=by
    rcases hf with hf | ⟨_,_,hf⟩
    ·exact hf
    ·cases hf
   obtain ⟨rfl,hb⟩:=flat_fn hf
   refine .fn f [] caps vs us hl hl' (fun k c u hk=>by simp at hk) fun k c u hk hu=>ih' k c u hk hu (.inr (allRp_get hb k c hk))
 | _=>
   intro hf
   rcases hf with hf | ⟨_,_,hf⟩
   ·simp [PV.flat] at hf
   ·cases hf
theorem Rep.own_less {p:PV} {v:Value} (h:Rep X γ w p v) (ho:∀b,γ'.own b→γ.own b) (hf:p.flat=true):Rep X γ' w p v:=h.own_lessA ho (.inl hf)
theorem tau_mem {c:PV}:∀{l:List PV},c∈l→c.tau≤tauL l
 | x::l,h=>by
   unfold tauL
   rcases List.mem_cons.1 h with h | h
   ·subst h;exact Nat.le_max_left _ _
   ·exact Nat.le_trans (tau_mem h) (Nat.le_max_right _ _)
theorem Rep.le {p:PV} {v:Value} (h:Rep X γ w p v) (hst:RepSt X γ w st) (hlo:∀r ge b,γ r=some ge→kp r=false→ge.has b→X.my b)
  (hk1:∀r ge,γ r=some ge→kp r=true→γk r=some ge) (hk2:∀r ge,γk r=some ge→γ r=some ge∧kp r=true):∀q,PLe st kp p q→Rep X γk w q v:=by
 have hown:∀b,γk.own b→γ.own b:=fun b ⟨r,ge,hr,hb⟩=>⟨r,ge,(hk2 r ge hr).1,hb⟩
 have hlie:∀τ τ' b,τ≤τ'→mayLie X γ τ b→mayLie X γk τ' b:=fun τ τ' b ht hm=>⟨fun h=>hm.1 (hown b h),(hm.mono ht).2⟩
 have hrow:∀{τ τ' z n:Nat} {f f':Nat→List PV} {v:Value} {ad:Option Addr} {cap:Nat} {vs:Nat→Value},τ≤τ'→RowEq n f f'→(∀i,i<n→(f i).length=z)→(∀i,i<n→∀c∈f i,c.flat=true)→n≤cap→
   (0<n→∃a,ad=some a∧mayLie X γk τ' a.block∧a.block<w.heap.size∧∀k,k<n*z→cellT τ' w (a.add k)=some (vs k))→
   (∀(i j:Nat) (c:PV),i<n→(f i)[j]? =some c→Rep X γk w (c.mark τ') (vs (i*z+j)))→Rep X γk w (.sl τ' z n f') (.slice ad n cap):=by
  intro τ τ' z n f f' v ad cap vs ht hrw hz hf hcap hb h
  refine .sl τ' z n f' ad cap vs hcap (fun i hi=>by rw [←hrw i hi];exact hz i hi) (fun i hi c hc=>hf i hi c (by rw [hrw i hi];exact hc)) hb (fun i j c hi hc=>h i j c hi (by rw [hrw i hi];exact hc))
 induction h with
 | int k n=>intro q hq;unfold PLe at hq;split at hq<;>first | (obtain ⟨rfl,rfl⟩:=hq;exact .int _ _) | exact .junk _ | exact hq.elim
 | bool b=>intro q hq;unfold PLe at hq;split at hq<;>first | (subst hq;exact .bool _) | exact .junk _ | exact hq.elim
 | str s=>intro q hq;unfold PLe at hq;split at hq<;>first | (subst hq;exact .str _) | exact .junk _ | exact hq.elim
 | agg cs vs hl hc h ih=>
   intro q hq;unfold PLe at hq;split at hq
   ·refine .agg _ vs (by rw [PLeL_len hq];exact hl) hc fun k c u hk hu=> ?_
    obtain ⟨p,hp,hle⟩:=PLeL_get hq k c hk
    exact ih k p u hp hu c hle
   ·exact .junk _
   ·exact hq.elim
 | tup cs vs hl h ih=>
   intro q hq;unfold PLe at hq;split at hq
   ·refine .tup _ vs (by rw [PLeL_len hq];exact hl) fun k c u hk hu=> ?_
    obtain ⟨p,hp,hle⟩:=PLeL_get hq k c hk
    exact ih k p u hp hu c hle
   ·exact .junk _
   ·exact hq.elim
 | sl τ z n f ad cap vs hcap hz hf hb h ih=>
   intro q hq;unfold PLe at hq;split at hq
   ·obtain ⟨ht,rfl,rfl,hrw⟩:=hq
    refine hrow (v:= .slice ad n cap) ht hrw hz hf hcap (fun hn=> ?_) (fun i j c hi hc=>ih i j c hi hc _ (flat_le (hf i hi c (List.mem_of_getElem? hc)) ht))
    obtain ⟨a,rfl,hm,hlt,hc⟩:=hb hn
    exact ⟨a,rfl,hlie _ _ _ ht hm,hlt,fun k hk=>cellT_up ht (hc k hk)⟩
   ·exact .junk _
   ·exact hq.elim
 | nil z=>
   intro q hq;unfold PLe at hq;split at hq
   ·exact .nil _
   ·subst hq;exact .sl _ _ 0 _ none 0 (fun _=>undef) (Nat.le_refl _) (fun i hi=>by omega) (fun i hi=>by omega) (fun hi=>by omega) (fun i j c hi=>by omega)
   ·exact .junk _
   ·exact hq.elim
 | os r ge hg h1 h2'=>
   intro q hq;unfold PLe at hq;split at hq
   ·obtain ⟨rfl,hk⟩:=hq
    exact .os _ ge (hk1 _ _ hg hk) h1 h2'
   ·rename_i τ' z' n' f'
    obtain ⟨hk,hq⟩:=hq
    split at hq
    ·rename_i τ e z n f hs
     obtain ⟨ht,rfl,rfl,hrw⟩:=hq
     obtain ⟨vs,b1,b2,b3,ho,hr⟩:=(hst.at_ _ _ _ hg hs).rows
     obtain ⟨ad,cap,hv,hnc,_,hor⟩:=own_slice ho
     rw [hv]
     have hget:∀k,k<n*z→vs[k]? =some (vs.getD k undef):=fun k hk=>by
      have:k<vs.length:=by rw [hr.len];exact hk
      simp [List.getD_eq_getElem?_getD,this]
     refine hrow (v:= .slice ad n cap) (vs:=fun k=>vs.getD k undef) ht hrw hr.hz hr.hf hnc (fun hn=> ?_) (fun i j c hi hc=> ?_)
     ·rcases hor with h0 | ⟨g,rfl,hlt,hbl⟩
      ·omega
      ·refine ⟨_,rfl,⟨fun hown'=> ?_, .inl (hlo r ge g hg hk (.inl (by rw [b2,hbl])))⟩,hlt,fun k hk=>own_cellsT ho hv rfl k _ (hget k hk)⟩
       obtain ⟨r',ge',hr',hb'⟩:=hown'
       obtain ⟨e1,e2⟩:=hk2 r' ge' hr'
       have:=hst.inj r r' ge ge' g hg e1 (.inl (by rw [b2,hbl])) hb'
       subst this
       rw [hk] at e2;cases e2
     ·have hj:j<z:=by rw [←hr.hz i hi];exact (List.getElem?_eq_some_iff.1 hc).1
      have:=hr.rep i j c _ hi hc (hget _ (idx_lt hi hj))
      have hfl:=hr.hf i hi c (List.mem_of_getElem? hc)
      have h2:=this.mark_up τ' (Nat.le_trans (tau_mark c _) ht)
      rw [mark_mark] at h2
      exact h2.own_less hown (flat_mark hfl _)
    ·exact hq.elim
   ·exact .junk _
   ·exact hq.elim
 | pt r i j ge b hg hb=>
   intro q hq;unfold PLe at hq;split at hq
   ·obtain ⟨rfl,rfl,rfl,hk⟩:=hq
    exact .pt _ _ _ ge b (hk1 _ _ hg hk) hb
   ·rename_i τ' cs'
    obtain ⟨rfl,rfl,hk,hq⟩:=hq
    split at hq
    ·rename_i cs hs
     obtain ⟨rfl,hfl,ht⟩:=hq
     rw [show 0*ge.z+0=0 by omega]
     obtain ⟨b',⟨g1,_⟩,g2⟩:=hst.at_ _ _ _ hg hs
     rw [hb,Option.some.injEq] at g1
     subst g1
     have hflc:∀c∈cs,c.flat=true:=fun c hc=>List.all_eq_true.1 hfl c hc
     rcases g2 with ⟨T,vs,g2,g3,g4⟩ | ⟨ks,vks,ka,va,h',f',es,clock,rfl,_⟩
     ·have hadd:∀k,(⟨b,0,none⟩:Addr).add k=⟨b,k,none⟩:=fun k=>by unfold Addr.add;split<;>simp_all
      refine .rp τ' cs ⟨b,0,none⟩ (fun k=>vs.toList.getD k undef) hflc (fun _=>⟨⟨fun hown'=> ?_, .inl (hlo r ge b hg hk (.inl hb))⟩,(Array.getElem?_eq_some_iff.1 g2).1⟩) (fun k hk2=> ?_) (fun k c hc=> ?_)
      ·obtain ⟨r',ge',hr',hb'⟩:=hown'
       obtain ⟨e1,e2⟩:=hk2 r' ge' hr'
       have:=hst.inj r r' ge ge' b hg e1 (.inl hb) hb'
       subst this
       rw [hk] at e2;cases e2
      ·rw [hadd]
       have hkl:k<vs.toList.length:=by rw [g4.1];exact hk2
       have hc:w.cell? ⟨b,k,none⟩=some (vs.toList.getD k undef):=by
        rw [cell_of_row w b k vs T (0,0) g2,List.getD_eq_getElem?_getD,List.getElem?_eq_getElem hkl]
        simp
       have hfz:w.frozen? ⟨b,k,none⟩=false:=by
        unfold World.frozen?
        simp only [g2]
        simp
       unfold cellT
       rw [hfz,if_neg (by simp)]
       exact hc
      ·have hkl:k<vs.toList.length:=by rw [g4.1];exact (List.getElem?_eq_some_iff.1 hc).1
       have hrep:=g4.2 k c (vs.toList.getD k undef) hc (by rw [List.getD_eq_getElem?_getD,List.getElem?_eq_getElem hkl];rfl)
       have hfc:=hflc c (List.mem_of_getElem? hc)
       have htc:c.tau≤τ':=Nat.le_trans (tau_mem (List.mem_of_getElem? hc)) ht
       exact (hrep.mark_up τ' htc).own_less hown (flat_mark hfc _)
     ·have:=hflc _ (List.mem_singleton.2 rfl)
      simp [PV.flat] at this
    ·exact hq.elim
   ·exact .junk _
   ·exact hq.elim
 | rf r ge b hg hb=>
   intro q hq;unfold PLe at hq;split at hq
   ·obtain ⟨rfl,rfl,hk⟩:=hq
    exact .rf _ ge b (hk1 _ _ hg hk) hb
   ·exact .junk _
   ·exact hq.elim
 | rfs z n r ge b hg hb=>
   intro q hq;unfold PLe at hq;split at hq
   ·obtain ⟨rfl,rfl,hk⟩:=hq
    exact .rfs z n _ ge b (hk1 _ _ hg hk) hb
   ·exact .junk _
   ·exact hq.elim
 | rp τ cs a vs hf hb hc h ih=>
   intro q hq;unfold PLe at hq;split at hq
   ·obtain ⟨ht,rfl⟩:=hq
    refine .rp _ _ a vs hf (fun hn=> ?_) (fun k hk=>cellT_up ht (hc k hk)) (fun k c hk=>ih k c hk _ (flat_le (hf c (List.mem_of_getElem? hk)) ht))
    obtain ⟨hm,hlt⟩:=hb hn
    exact ⟨hlie _ _ _ ht hm,hlt⟩
   ·exact .junk _
   ·exact hq.elim
 | fn f first caps vs us hl hl' h h' ih ih'=>
   intro q hq;unfold PLe at hq;split at hq
   ·obtain ⟨rfl,q1,q2⟩:=hq
    refine .fn _ _ _ vs us (by rw [PLeL_len q1];exact hl) (by rw [PLeL_len q2];exact hl') (fun k c u hk hu=> ?_) (fun k c u hk hu=> ?_)
    ·obtain ⟨p,hp,hle⟩:=PLeL_get q1 k c hk
     exact ih k p u hp hu c hle
    ·obtain ⟨p,hp,hle⟩:=PLeL_get q2 k c hk
     exact ih' k p u hp hu c hle
   ·exact .junk _
   ·exact hq.elim
 | vw h r lo n ge ad m cap hg hh hle h0 h2=>
   intro q hq;unfold PLe at hq;split at hq
   ·obtain ⟨rfl,rfl,rfl,rfl,hk⟩:=hq
    exact .vw _ _ _ _ ge ad m cap (hk1 _ _ hg hk) hh hle h0 h2
   ·rename_i τ' z' n' f'
    obtain ⟨hk,hq⟩:=hq
    split at hq
    ·rename_i τ e z m' f hs
     obtain ⟨ht,rfl,rfl,hrw⟩:=hq
     obtain ⟨ad2,cap2,vs,hu,hnc,hr,_,hc⟩:=vw_rows hst (.vw h r lo n ge ad m cap hg hh hle h0 h2) hs
     obtain ⟨vs',_,b2,_,ho,_⟩:=(hst.at_ _ _ _ hg hs).rows
     obtain ⟨ad3,cap3,hv3,_,_,hor⟩:=own_slice ho
     rw [hh] at hv3
     injection hv3 with e1 e2 e3
     subst e1;subst e2;subst e3
     rw [hu]
     injection hu with e4 _ _
     have hget:∀k,k<n*z→vs[k]? =some (vs.getD k undef):=fun k hk=>by
      have:k<vs.length:=by rw [hr.len];exact hk
      simp [List.getD_eq_getElem?_getD,this]
     refine hrow (v:= .slice ad2 n cap2) (vs:=fun k=>vs.getD k undef) ht hrw hr.hz hr.hf hnc (fun hn=> ?_) (fun i j c hi hc2=> ?_)
     ·rcases hor with h3 | ⟨g,rfl,hlt,hbl⟩
      ·omega
      ·have hne:cap≠lo:=by omega
       rw [if_neg hne,Option.map_some] at e4
       refine ⟨_,e4.symm, ?_⟩
       rw [add_plain]
       refine ⟨⟨fun hown'=> ?_, .inl (hlo r ge g hg hk (.inl (by rw [b2,hbl])))⟩,hlt,fun k hk=> ?_⟩
       ·obtain ⟨r',ge',hr',hb'⟩:=hown'
        obtain ⟨e1,e2⟩:=hk2 r' ge' hr'
        have:=hst.inj r r' ge ge' g hg e1 (.inl (by rw [b2,hbl])) hb'
        subst this
        rw [hk] at e2;cases e2
       ·rw [←add_plain]
        exact hc τ' _ e4.symm k _ (hget k hk)
     ·have hj:j<z:=by rw [←hr.hz i hi];exact (List.getElem?_eq_some_iff.1 hc2).1
      have:=hr.rep i j c _ hi hc2 (hget _ (idx_lt hi hj))
      have hfl:=hr.hf i hi c (List.mem_of_getElem? hc2)
      have h2:=this.mark_up τ' (Nat.le_trans (tau_mark c _) ht)
      rw [mark_mark] at h2
      exact h2.own_less hown (flat_mark hfl _)
    ·exact hq.elim
   ·exact .junk _
   ·exact hq.elim
 | raw v h1=>intro q hq;unfold PLe at hq;split at hq<;>first | (subst hq;exact .raw _ h1) | exact .junk _ | exact hq.elim
 | cnd g p v h hu ih=>
   intro q hq;unfold PLe at hq;split at hq
   ·obtain ⟨rfl,hq⟩:=hq
    exact .cnd _ _ _ (fun hg=>ih hg _ hq) hu
   ·exact .junk _
   ·exact hq.elim
 | junk v=>intro q hq;unfold PLe at hq;split at hq<;>first | exact .junk _ | exact hq.elim
theorem RepL.le {l l':List PV} {us:List Value} (h:RepL X γ w l us) (hst:RepSt X γ w st) (hlo:∀r ge b,γ r=some ge→kp r=false→ge.has b→X.my b)
  (hk1:∀r ge,γ r=some ge→kp r=true→γk r=some ge) (hk2:∀r ge,γk r=some ge→γ r=some ge∧kp r=true) (hl:PLeL st kp l l'):RepL X γk w l' us:=
 ⟨by rw [PLeL_len hl];exact h.1,fun k c u hk hu=>by
  obtain ⟨p,hp,hle⟩:=PLeL_get hl k c hk
  exact (h.2 k p u hp hu).le hst hlo hk1 hk2 c hle⟩
mutual
theorem Rep.unren {ρ:Nat→Nat} (ho:∀b,γ'.own b→γ.own b):∀(p:PV) (v:Value),Rep X γ w (p.ren ρ) v→(∀r∈p.ids,∀ge,γ (ρ r)=some ge→γ' r=some ge)→Rep X γ' w p v
 | .int k n,v,h,hi=>by simp only [PV.ren] at h;cases h.int_inv;exact .int _ _
 | .bool b,v,h,hi=>by simp only [PV.ren] at h;cases h.bool_inv;exact .bool _
 | .str s,v,h,hi=>by simp only [PV.ren] at h;cases h.str_inv;exact .str _
 | .agg cs,v,h,hi=>by
   simp only [PV.ren] at h
   obtain ⟨vs,rfl,hr,h1⟩:=h.agg_inv
   have:=RepL.unren ho cs vs hr (fun r hr=>hi r (by simpa [PV.ids] using hr))
   exact .agg _ _ this.1 h1 this.2
 | .tup cs,v,h,hi=>by
   simp only [PV.ren] at h
   obtain ⟨vs,rfl,hr⟩:=h.tup_inv
   have:=RepL.unren ho cs vs hr (fun r hr=>hi r (by simpa [PV.ids] using hr))
   exact .tup _ _ this.1 this.2
 | .sl τ z n f,v,h,hi=>by simp only [PV.ren] at h;exact h.own_less ho rfl
 | .nil z,v,h,hi=>by simp only [PV.ren] at h;cases h.nil_inv;exact .nil _
 | .os r,v,h,hi=>by
   simp only [PV.ren] at h
   cases h with
   | os _ ge hg h1 h2=>exact .os _ ge (hi r (by simp [PV.ids]) ge hg) h1 h2
 | .vw b r lo n,v,h,hi=>by
   simp only [PV.ren] at h
   cases h with
   | vw _ _ _ _ ge ad m cap hg hh hle h0 h2=>exact .vw _ _ _ _ ge ad m cap (hi r (by simp [PV.ids]) ge hg) hh hle h0 h2
 | .pt r i j,v,h,hi=>by
   simp only [PV.ren] at h
   cases h with
   | pt _ _ _ ge b hg hb=>exact .pt _ _ _ ge b (hi r (by simp [PV.ids]) ge hg) hb
 | .rf m r,v,h,hi=>by
   simp only [PV.ren] at h
   cases h with
   | rf _ ge b hg hb=>exact .rf _ ge b (hi r (by simp [PV.ids]) ge hg) hb
   | rfs z n _ ge b hg hb=>exact .rfs z n _ ge b (hi r (by simp [PV.ids]) ge hg) hb
 | .mpv _ _ _ _ _ _,v,h,hi=>by simp only [PV.ren] at h;cases h
 | .rp τ cs,v,h,hi=>by
   simp only [PV.ren] at h
   cases h with
   | rp _ _ a vs hf hb hc h=>
     refine .rp _ _ a vs hf (fun hn=> ?_) hc (fun k c hk=>(h k c hk).own_less ho (flat_mark (hf c (List.mem_of_getElem? hk)) _))
     obtain ⟨hm,hlt⟩:=hb hn
     exact ⟨⟨fun h=>hm.1 (ho _ h),hm.2⟩,hlt⟩
 | .fn f a b,v,h,hi=>by
   simp only [PV.ren] at h
   cases h with
   | fn _ _ _ vs us hl hl' h h'=>
     have h1:=RepL.unren ho a vs ⟨hl,h⟩ (fun r hr=>hi r (by simp [PV.ids,hr]))
     have h2:=RepL.unren ho b us ⟨hl',h'⟩ (fun r hr=>hi r (by simp [PV.ids,hr]))
     exact .fn _ _ _ vs us h1.1 h2.1 h1.2 h2.2
 | .raw u,v,h,hi=>by
   simp only [PV.ren] at h
   cases h with | raw _ h1=>exact .raw _ h1
 | .cnd g p,v,h,hi=>by
   simp only [PV.ren] at h
   cases h with
   | cnd _ _ _ h hu=>exact .cnd _ _ _ (fun hg=>Rep.unren ho p v (h hg) (fun r hr=>hi r (by simpa [PV.ids] using hr))) hu
 | .junk,v,h,hi=> .junk _
theorem RepL.unren {ρ:Nat→Nat} (ho:∀b,γ'.own b→γ.own b):∀(l:List PV) (us:List Value),RepL X γ w (PV.renL ρ l) us→(∀r∈PV.idsL l,∀ge,γ (ρ r)=some ge→γ' r=some ge)→RepL X γ' w l us
 | [],us,h,hi=>by
   simp only [PV.renL] at h
   exact ⟨by simpa using h.1,fun k c u hk=>by simp at hk⟩
 | p::ps,us,h,hi=>by
   simp only [PV.renL] at h
   obtain ⟨u,us',rfl,h1,h2⟩:=h.cons_inv
   exact RepL.cons_ (Rep.unren ho p u h1 (fun r hr=>hi r (by simp [PV.idsL,hr]))) (RepL.unren ho ps us' h2 (fun r hr=>hi r (by simp [PV.idsL,hr])))
end
end
open Go.RowKit
def SE.ids:SE→List Nat
 | .box l=>PV.idsL l
 | .bld _ _ _=> []
 | .row .. => []
section
variable {P:Program} {X:Cx} {γ:Gh} {w w0:World} {may:Nat→Prop} {a:Act} {s s':PS}
def reG (γ:Gh) (st':Nat→Option SE) (ρ:Nat→Nat):Gh:=fun r=>if (st' r).isSome then γ (ρ r) else none
theorem mpv_le {st:Nat→Option SE} {kp:Nat→Bool} {ρ:Nat→Nat} {ks vks:List KK} {ka va:Bool} {hh:List PC→Bool} {f:List PC→List PC} {l':List PV} (h:PLeL st kp [.mpv ks vks ka va hh f] (PV.renL ρ l')):
  ∃hh' f',l'= [.mpv ks vks ka va hh' f']∧MpEq ks hh f hh' f':=by
 match l' with
 | []=>simp [PV.renL,PLeL] at h
 | [p]=>
   simp only [PV.renL,PLeL] at h
   cases p<;>simp only [PV.ren,PLe,false_and] at h
   obtain ⟨⟨rfl,rfl,rfl,rfl,h5⟩,_⟩:=h
   exact ⟨_,_,rfl,h5⟩
 | _::_::_=>simp [PV.renL,PLeL] at h
theorem MapRel.eq {ks vks:List KK} {ka va:Bool} {h h':List PC→Bool} {f f':List PC→List PC} {es:List MapEntry} (m:MapRel ks vks ka va h f es) (e:MpEq ks h f h' f'):MapRel ks vks ka va h' f' es:=by
 refine ⟨fun x hx=> ?_,fun kl hk hh=>m.has kl hk (by rw [(e kl hk).1];exact hh),fun kl hk=>by rw [←(e kl hk).2];exact m.val kl hk,fun kl hk hh=>by rw [←(e kl hk).2];exact m.zero kl hk (by rw [(e kl hk).1];exact hh),m.dis,m.one⟩
 obtain ⟨kl,h1,h2,h3,h4⟩:=m.ent x hx
 exact ⟨kl,h1,h2,by rw [←(e kl h1).1];exact h3,by rw [←(e kl h1).2];exact h4⟩
theorem RepSt.ent {st st':Nat→Option SE} {ρ:Nat→Nat} {kp:Nat→Bool} (h:RepSt X γ w st) (hlo:∀r ge b,γ r=some ge→kp r=false→ge.has b→X.my b)
  (hst:∀r e',st' r=some e'→∃e,st (ρ r)=some e∧SLe st kp e (e'.ren ρ)∧kp (ρ r)=true∧∀q∈e'.ids,∃e2,st' q=some e2)
  (hinj:∀r r' e e',st' r=some e→st' r'=some e'→ρ r=ρ r'→r=r'):
  RepSt X (reG γ st' ρ) w st'∧(∀b,(reG γ st' ρ).own b→γ.own b)∧
   ∀p q v,Rep X γ w p v→PLe st kp p (PV.ren ρ q)→(∀r∈q.ids,∃e,st' r=some e)→Rep X (reG γ st' ρ) w q v:=by
 let γk:Gh:=fun r=>if kp r then γ r else none
 have hk1:∀r ge,γ r=some ge→kp r=true→γk r=some ge:=fun r ge hr hk=>by simp only [γk,hk,if_true];exact hr
 have hk2:∀r ge,γk r=some ge→γ r=some ge∧kp r=true:=fun r ge hr=>by
  simp only [γk] at hr
  split at hr
  ·rename_i hk;exact ⟨hr,hk⟩
  ·cases hr
 have hinv:∀r ge,reG γ st' ρ r=some ge→∃e',st' r=some e'∧γ (ρ r)=some ge∧kp (ρ r)=true:=fun r ge hr=>by
  unfold reG at hr
  split at hr
  ·rename_i hs
   obtain ⟨e',he'⟩:=Option.isSome_iff_exists.1 hs
   obtain ⟨_,_,_,hk,_⟩:=hst r e' he'
   exact ⟨e',he',hr,hk⟩
  ·cases hr
 have ho:∀b,(reG γ st' ρ).own b→γk.own b:=fun b ⟨r,ge,hr,hb⟩=>by
  obtain ⟨e',_,h2,h3⟩:=hinv r ge hr
  exact ⟨ρ r,ge,hk1 _ _ h2 h3,hb⟩
 have hok:∀b,γk.own b→γ.own b:=fun b ⟨r,ge,hr,hb⟩=>⟨r,ge,(hk2 _ _ hr).1,hb⟩
 have hid:∀r e',st' r=some e'→∀ge,γk (ρ r)=some ge→reG γ st' ρ r=some ge:=fun r e' he ge hg=>by
  unfold reG;rw [he];simp only [Option.isSome_some,if_true];exact (hk2 _ _ hg).1
 have hrep:∀p q v,Rep X γ w p v→PLe st kp p (PV.ren ρ q)→(∀r∈q.ids,∃e,st' r=some e)→Rep X (reG γ st' ρ) w q v:=fun p q v hp hle hi=>
  Rep.unren ho q v (hp.le h hlo hk1 hk2 _ hle) fun r hr ge hg=>by obtain ⟨e,he⟩:=hi r hr;exact hid r e he ge hg
 refine ⟨⟨fun r=> ?_,fun r ge e' hg he=> ?_,fun r r' ge ge' b hg hg' hb hb'=> ?_,fun b hb=>h.asOff b (hok b (ho b hb)),fun b hb=>h.lt b (hok b (ho b hb)),fun b p hb=>⟨(h.glob b p hb).1,fun hh=>(h.glob b p hb).2.1 (hok b (ho b hh)),(h.glob b p hb).2.2⟩⟩,fun b hb=>hok b (ho b hb),hrep⟩
 ·cases hs:st' r with
  | none=>unfold reG;rw [hs];rfl
  | some e'=>
    obtain ⟨e,he,_⟩:=hst r e' hs
    unfold reG;rw [hs]
    simp only [Option.isSome_some,if_true]
    rw [h.dom,he];rfl
 ·obtain ⟨e1,he1,hg1,hk⟩:=hinv r ge hg
  obtain ⟨e,hes,hle,_,hi⟩:=hst r e' he
  have hold:=h.at_ _ ge e hg1 hes
  cases e with
  | box l=>
    cases e' with
    | row _ _ _ _ _=>simp [SLe,SE.ren] at hle
    | bld _ _ _=>simp [SLe,SE.ren] at hle
    | box l'=>
      simp only [SLe,SE.ren] at hle
      obtain ⟨b,h1,⟨T,vs,h2,h3,h4⟩ | ⟨ks,vks,ka,va,hh,f,es,clock,h2,h3,h4⟩⟩:=hold
      ·refine ⟨b,h1, .inl ⟨T,vs,h2,h3,RepL.unren ho l' _ (h4.le h hlo hk1 hk2 hle) fun q hq ge hg=> ?_⟩⟩
       obtain ⟨e2,he2⟩:=hi q hq
       exact hid q e2 he2 ge hg
      ·subst h2
       obtain ⟨hh',f',rfl,hq⟩:=mpv_le hle
       exact ⟨b,h1, .inr ⟨ks,vks,ka,va,hh',f',es,clock,rfl,h3,h4.eq hq⟩⟩
  | row τ e z n f=>
    cases e' with
    | box _=>simp [SLe,SE.ren] at hle
    | bld _ _ _=>simp [SLe,SE.ren] at hle
    | row τ' e' z' n' f'=>
      simp only [SLe,SE.ren] at hle
      obtain ⟨ht,rfl,rfl,rfl,hrw,_⟩:=hle
      obtain ⟨vs,h1,h2,h2',h3,h4,h5,h6,h7⟩:=hold
      refine ⟨vs,h1,h2,h2',h3,h4,fun i hi=>by rw [←hrw i hi];exact h5 i hi,fun i hi c hc=>h6 i hi c (by rw [hrw i hi];exact hc),fun i j c u hi hc hu=> ?_⟩
      rw [←hrw i hi] at hc
      have hfl:=h6 i hi c (List.mem_of_getElem? hc)
      have h8:=(h7 i j c u hi hc hu).mark_up τ' (Nat.le_trans (tau_mark c _) ht)
      rw [mark_mark] at h8
      exact h8.own_less (fun b hb=>hok b (ho b hb)) (flat_mark hfl _)
  | bld T t x=>
    cases e' with
    | box _=>simp [SLe,SE.ren] at hle
    | row _ _ _ _ _=>simp [SLe,SE.ren] at hle
    | bld T' t' x'=>
      simp only [SLe,SE.ren] at hle
      obtain ⟨rfl,rfl,rfl⟩:=hle
      exact hold
 ·obtain ⟨e1,he1,hg1,hk⟩:=hinv r ge hg
  obtain ⟨e2,he2,hg2,hk'⟩:=hinv r' ge' hg'
  exact hinj r r' e1 e2 he1 he2 (h.inj _ _ ge ge' b hg1 hg2 hb hb')
theorem Rel.ent {ρ:Nat→Nat} {kp:Nat→Bool} (h:Rel X w0 may a w s γ) (hn:s'.n=s.n)
  (hfr:∀t p',s'.fr t=some p'→(∃p,s.fr t=some p∧PLe s.st kp p (p'.ren ρ))∧∀r∈p'.ids,∃e,s'.st r=some e)
  (hst:∀r e',s'.st r=some e'→∃e,s.st (ρ r)=some e∧SLe s.st kp e (e'.ren ρ)∧kp (ρ r)=true∧∀q∈e'.ids,∃e2,s'.st q=some e2)
  (hinj:∀r r' e e',s'.st r=some e→s'.st r'=some e'→ρ r=ρ r'→r=r') (hpar:∀r,r<X.np→ρ r=r∧∃e,s'.st r=some e) (hρ:∀r e',s'.st r=some e'→fixR e'=true→ρ r=r):∃γ',Rel X w0 may a w s' γ':=by
 obtain ⟨h1,h2,h3⟩:=h.st.ent (fun r ge b hg hk hb=>by
  rcases h.own r ge b hg hb with h4 | ⟨h4,_⟩
  ·exact h4
  ·obtain ⟨g1,e',g2⟩:=hpar r h4
   obtain ⟨_,_,_,g3,_⟩:=hst r e' g2
   rw [g1,hk] at g3;cases g3) hst hinj
 refine ⟨_,by rw [hn];exact h.size,h.defers,fun t p' hp=> ?_,h1,h.keeps,h.lo,fun r ge b hg hb=> ?_,h.asLt,fun r hr=> ?_,h.mayP,fun r e' hr hf=> ?_,fun r τ e z n f hr hs'=> ?_⟩
 rotate_right
 ·obtain ⟨g1,_⟩:=hpar r hr
  obtain ⟨e0,hes,hle,_⟩:=hst r _ hs'
  rw [g1] at hes
  cases e0 with
  | row _ _ _ _ _=>exact h.pr r _ _ _ _ _ hr hes
  | box _=>simp [SLe,SE.ren] at hle
  | bld _ _ _=>simp [SLe,SE.ren] at hle
 rotate_right
 ·have hr0:=hρ r e' hr hf
  obtain ⟨e,hes,hle,_,_⟩:=hst r e' hr
  rw [hr0] at hes
  have hfe:fixR e=true:=by
   cases e' with
   | row τ' e' z' n' f'=>
     cases e with
     | row τ e z n f=>
       simp only [SLe,SE.ren] at hle
       obtain ⟨_,_,_,_,_,hb⟩:=hle
       show Nat.ble 3 τ=true
       rw [hb];exact hf
     | box _=>simp [SLe,SE.ren] at hle
     | bld _ _ _=>simp [SLe,SE.ren] at hle
   | box _=>cases hf
   | bld _ _ _=>cases hf
  obtain ⟨ge,ge0,g1,g2,g3⟩:=h.fx r e hes hfe
  refine ⟨ge,ge0, ?_,g2,g3⟩
  unfold reG
  rw [hr,hr0]
  exact g1
 ·obtain ⟨⟨p,hp1,hle⟩,hi⟩:=hfr t p' hp
  obtain ⟨g1,g2⟩:=h.fr t p hp1
  exact ⟨by rw [hn];exact g1,h3 _ _ _ g2 hle hi⟩
 ·have hsome:(s'.st r).isSome=true∧γ (ρ r)=some ge:=by
    unfold reG at hg
    split at hg
    ·rename_i hs;exact ⟨hs,hg⟩
    ·cases hg
  obtain ⟨hs,hg2⟩:=hsome
  rcases h.own (ρ r) ge b hg2 hb with h4 | ⟨h4,ge0,h5,h6⟩
  ·exact .inl h4
  ·obtain ⟨k1,e1,k2⟩:=hpar (ρ r) h4
   obtain ⟨e2,he2⟩:=Option.isSome_iff_exists.1 hs
   have:=hinj r (ρ r) e2 e1 he2 k2 k1.symm
   rw [←this] at h4 h5
   exact .inr ⟨h4,ge0,h5,h6⟩
 ·obtain ⟨g1,g2⟩:=hpar r hr
  obtain ⟨e',he'⟩:=g2
  obtain ⟨e,hes,hle,_⟩:=hst r e' he'
  have hp:=h.par r hr
  rw [g1] at hes
  rw [hes] at hp
  have hre:reG γ s'.st ρ r=γ r:=by unfold reG;rw [he',g1];rfl
  rw [he',hre]
  cases e with
  | box l=>
    cases e' with
    | box l'=>exact hp
    | row _ _ _ _ _=>simp [SLe,SE.ren] at hle
    | bld _ _ _=>simp [SLe,SE.ren] at hle
  | row _ _ _ _ _=>
    cases e' with
    | box l'=>simp [SLe,SE.ren] at hle
    | row _ _ _ _ _=>exact hp
    | bld _ _ _=>simp [SLe,SE.ren] at hle
  | bld _ _ _=>
    cases e' with
    | box l'=>simp [SLe,SE.ren] at hle
    | row _ _ _ _ _=>simp [SLe,SE.ren] at hle
    | bld _ _ _=>exact hp
mutual
theorem ren_id:∀(p:PV),p.ren (fun r=>r)=p
 | .agg cs=>by simp [PV.ren,ren_idL cs]
 | .tup cs=>by simp [PV.ren,ren_idL cs]
 | .fn f a b=>by simp [PV.ren,ren_idL a,ren_idL b]
 | .cnd g p=>by simp [PV.ren,ren_id p]
 | .rp τ cs=>rfl
 | .int k n=>rfl
 | .bool b=>rfl
 | .str s=>rfl
 | .sl o z n f=>rfl
 | .nil z=>rfl
 | .os r=>rfl
 | .vw h r lo n=>rfl
 | .rf m r=>rfl
 | .mpv _ _ _ _ _ _=>rfl
 | .pt r i j=>rfl
 | .raw v=>rfl
 | .junk=>rfl
theorem ren_idL:∀(l:List PV),PV.renL (fun r=>r) l=l
 | []=>rfl
 | p::ps=>by simp [PV.renL,ren_id p,ren_idL ps]
end
theorem sren_id (e:SE):e.ren (fun r=>r)=e:=by cases e<;>simp [SE.ren,ren_idL]
def frL:List (Nat×PV)→Nat→Option PV
 | []=>fun _=>none
 | (t,p)::l=>upd (frL l) t p
def stL:List (Nat×SE)→Nat→Option SE
 | []=>fun _=>none
 | (t,p)::l=>upd (stL l) t p
def St (n:Nat) (fl:List (Nat×PV)) (sl:List (Nat×SE)):PS:=⟨n,frL fl,stL sl,True,fun _=>none⟩
def keysB:List (Nat×SE)→Nat→Bool
 | [],_=>false
 | (k,_)::l,r=>match Nat.beq r k with
   | true=>true
   | false=>keysB l r
def keysAll (sl:List (Nat×SE)):List Nat→Bool
 | []=>true
 | r::rs=>match keysB sl r with
   | true=>keysAll sl rs
   | false=>false
def idsF (sl:List (Nat×SE)):List (Nat×PV)→Bool
 | []=>true
 | (_,p)::l=>match keysAll sl p.ids with
   | true=>idsF sl l
   | false=>false
def idsS (sl:List (Nat×SE)):List (Nat×SE)→Bool
 | []=>true
 | (_,e)::l=>match keysAll sl e.ids with
   | true=>idsS sl l
   | false=>false
def parB (sl:List (Nat×SE)):Nat→Bool
 | 0=>true
 | n+1=>match keysB sl n with
   | true=>parB sl n
   | false=>false
def leF (fr:Nat→Option PV) (st:Nat→Option SE) (kp:Nat→Bool):List (Nat×PV)→Prop
 | []=>True
 | (t,p')::l=>(match fr t with
   | some p=>PLe st kp p p'
   | none=>False)∧leF fr st kp l
def leS (st:Nat→Option SE) (kp:Nat→Bool):List (Nat×SE)→Prop
 | []=>True
 | (r,e')::l=>(match st r with
   | some e=>SLe st kp e e'
   | none=>False)∧leS st kp l
def Ent (np:Nat) (s:PS) (n:Nat) (fl:List (Nat×PV)) (sl:List (Nat×SE)):Prop:=match s with
 | ⟨n',fr,st,_,_⟩=>n'=n∧(idsF sl fl&&idsS sl sl&&parB sl np)=true∧leF fr st (keysB sl) fl∧leS st (keysB sl) sl
theorem keysB_some:∀{sl:List (Nat×SE)} {r:Nat},keysB sl r=true↔∃e,stL sl r=some e
 | [],r=>by simp [keysB,stL]
 | (k,e)::l,r=>by
   simp only [keysB,stL,upd_eq]
   by_cases h:r=k
   ·subst h;simp
   ·have:Nat.beq r k=false:=by rw [Bool.eq_false_iff];intro hh;exact h (Nat.eq_of_beq_eq_true hh)
    rw [this];simp only [if_neg h];exact keysB_some
theorem keysAll_mem {sl:List (Nat×SE)}:∀{l:List Nat},keysAll sl l=true→∀r∈l,∃e,stL sl r=some e
 | [],h,r,hr=>by simp at hr
 | x::l,h,r,hr=>by
   simp only [keysAll] at h
   split at h
   ·rename_i hx
    rcases List.mem_cons.1 hr with rfl | hr
    ·exact keysB_some.1 hx
    ·exact keysAll_mem h r hr
   ·cases h
theorem frL_mem:∀{fl:List (Nat×PV)} {t:Nat} {p:PV},frL fl t=some p→(t,p)∈fl
 | [],t,p,h=>by simp [frL] at h
 | (k,q)::l,t,p,h=>by
   simp only [frL,upd_eq] at h
   split at h
   ·rename_i hk;subst hk;injection h with h;subst h;simp
   ·exact List.mem_cons_of_mem _ (frL_mem h)
theorem stL_mem:∀{fl:List (Nat×SE)} {t:Nat} {p:SE},stL fl t=some p→(t,p)∈fl
 | [],t,p,h=>by simp [stL] at h
 | (k,q)::l,t,p,h=>by
   simp only [stL,upd_eq] at h
   split at h
   ·rename_i hk;subst hk;injection h with h;subst h;simp
   ·exact List.mem_cons_of_mem _ (stL_mem h)
theorem idsF_mem {sl:List (Nat×SE)}:∀{l:List (Nat×PV)},idsF sl l=true→∀x∈l,∀r∈x.2.ids,∃e,stL sl r=some e
 | [],h,x,hx=>by simp at hx
 | (k,p)::l,h,x,hx=>by
   simp only [idsF] at h
   split at h
   ·rename_i hk
    rcases List.mem_cons.1 hx with rfl | hx
    ·exact keysAll_mem hk
    ·exact idsF_mem h x hx
   ·cases h
theorem idsS_mem {sl:List (Nat×SE)}:∀{l:List (Nat×SE)},idsS sl l=true→∀x∈l,∀r∈x.2.ids,∃e,stL sl r=some e
 | [],h,x,hx=>by simp at hx
 | (k,p)::l,h,x,hx=>by
   simp only [idsS] at h
   split at h
   ·rename_i hk
    rcases List.mem_cons.1 hx with rfl | hx
    ·exact keysAll_mem hk
    ·exact idsS_mem h x hx
   ·cases h
theorem parB_lt {sl:List (Nat×SE)}:∀{n:Nat},parB sl n=true→∀r,r<n→∃e,stL sl r=some e
 | 0,h,r,hr=>by omega
 | n+1,h,r,hr=>by
   simp only [parB] at h
   split at h
   ·rename_i hk
    by_cases hrn:r=n
    ·subst hrn;exact keysB_some.1 hk
    ·exact parB_lt h r (by omega)
   ·cases h
theorem leF_mem {fr:Nat→Option PV} {st:Nat→Option SE} {kp:Nat→Bool}:∀{l:List (Nat×PV)},leF fr st kp l→∀x∈l,∃p,fr x.1=some p∧PLe st kp p x.2
 | [],h,x,hx=>by simp at hx
 | (t,p')::l,h,x,hx=>by
   obtain ⟨h1,h2⟩:=h
   rcases List.mem_cons.1 hx with rfl | hx
   ·split at h1
    ·rename_i p hp;exact ⟨p,hp,h1⟩
    ·exact h1.elim
   ·exact leF_mem h2 x hx
theorem leS_mem {st:Nat→Option SE} {kp:Nat→Bool}:∀{l:List (Nat×SE)},leS st kp l→∀x∈l,∃p,st x.1=some p∧SLe st kp p x.2
 | [],h,x,hx=>by simp at hx
 | (t,p')::l,h,x,hx=>by
   obtain ⟨h1,h2⟩:=h
   rcases List.mem_cons.1 hx with rfl | hx
   ·split at h1
    ·rename_i p hp;exact ⟨p,hp,h1⟩
    ·exact h1.elim
   ·exact leS_mem h2 x hx
theorem Ent.rel {n:Nat} {fl:List (Nat×PV)} {sl:List (Nat×SE)} {np:Nat} (he:Ent np s n fl sl) (hnp:X.np=np) (h:Rel X w0 may a w s γ):∃γ',Rel X w0 may a w (St n fl sl) γ':=by
 obtain ⟨n',fr,st,ok,log⟩:=s
 obtain ⟨rfl,hb,hf,hs⟩:=he
 simp only [Bool.and_eq_true] at hb
 obtain ⟨⟨hb1,hb2⟩,hb3⟩:=hb
 refine Rel.ent (s':=St n' fl sl) (ρ:=fun r=>r) (kp:=keysB sl) h rfl (fun t p' hp=> ?_) (fun r e' hr=> ?_) (fun r r' e e' _ _ hh=>hh) (fun r hr=>⟨rfl,parB_lt hb3 r (by omega)⟩) (fun _ _ _ _=>rfl)
 ·have hm:=frL_mem hp
  obtain ⟨p,hp1,hle⟩:=leF_mem hf _ hm
  exact ⟨⟨p,hp1,by rw [ren_id];exact hle⟩,idsF_mem hb1 _ hm⟩
 ·have hm:=stL_mem hr
  obtain ⟨e,he1,hle⟩:=leS_mem hs _ hm
  exact ⟨e,he1,by rw [sren_id];exact hle,keysB_some.2 ⟨_,hr⟩,idsS_mem hb2 _ hm⟩
variable {wr:Bool} {np n:Nat} {Q:Lv→PS→Prop} {c b:C}
theorem LSem.weak {fl:List (Nat×PV)} {sl:List (Nat×SE)} (hE:Ent np s n fl sl) (h:LSem P wr np c Q (St n fl sl)):LSem P wr np c Q s:=by
 intro hQ code hc X w0 may a w γ hX hR
 obtain ⟨γ',hR'⟩:=hE.rel hX hR
 exact h hQ code hc X w0 may a w γ' hX hR'
theorem LSem.of_vc (hmix:P.follows .mixedOrders=true) (h:vc (PureCall P) (LSem P wr np) c Q s):LSem P wr np c Q s:=
 fun hQ code hc=>(vc_sound hmix c code Q s hQ hc h).2
theorem LSem.cut (hmix:P.follows .mixedOrders=true) {fl:List (Nat×PV)} {sl:List (Nat×SE)} (hE:Ent np s n fl sl) (h:vc (PureCall P) (LSem P wr np) c Q (St n fl sl)):LSem P wr np c Q s:=
 LSem.weak hE (LSem.of_vc hmix h)
theorem LSem.meet (hmix:P.follows .mixedOrders=true) {α:Type} (I:α→Prop) (fl:α→List (Nat×PV)) (sl:α→List (Nat×SE))
  (h:vc (PureCall P) (LSem P wr np) c (fun lv s'=>match lv with
   | .nrm=>s'.ok∧∃x,I x∧Ent np s' n (fl x) (sl x)
   | .ex i=>Q (.ex i) s'
   | .ret=>Q .ret s') s)
  (h':∀x,I x→vc (PureCall P) (LSem P wr np) b Q (St n (fl x) (sl x))):LSem P wr np (.seq c b) Q s:=by
 intro hQ code hc X w0 may a w γ hX hR
 have:∃p q,code= .seq p q∧comp P wr p=some c.er∧comp P wr q=some b.er:=by
  cases code with
  | seq p q=>
    simp only [comp,C.er] at hc
    split at hc
    ·rename_i a b ha hb
     simp only [Option.some.injEq,C.seq.injEq] at hc
     obtain ⟨rfl,rfl⟩:=hc
     exact ⟨p,q,rfl,ha,hb⟩
    ·cases hc
  | region id ops dr=>cases dr<;>simp only [comp,C.er] at hc<;>(repeat' (split at hc))<;>simp_all
  | _=>simp only [comp,C.er] at hc<;>(repeat' (split at hc))<;>simp_all
 obtain ⟨p,q,rfl,hp,hq⟩:=this
 have h1:=(vc_sound hmix c p _ s (fun lv s' hs=>by
  cases lv with
  | nrm=>exact hs.1
  | ex i=>exact hQ _ _ hs
  | ret=>exact hQ _ _ hs) hp h).2 X w0 may a w γ hX hR
 refine wp_seq (wp_mono h1 ?_)
 rintro e a' w' ⟨lv,s',γ',he,hq',hR'⟩
 cases e
 ·cases he
  obtain ⟨_,x,hx,hE⟩:=hq'
  obtain ⟨γ2,hR2⟩:=hE.rel hX hR'
  exact LSem.of_vc hmix (h' x hx) hQ q hq X w0 may a' w' γ2 hX hR2
 ·obtain ⟨hb,rfl⟩:=lvOf_exit he;exact ⟨_,_,_,he,hq',hR'⟩
 ·cases he;exact ⟨_,_,_,rfl,hq',hR'⟩
 ·cases he;exact ⟨_,_,_,rfl,hq',hR'⟩
 ·cases he
 ·cases he
theorem wp_loop_by {α:Type} {c:Code} {Q:Exit→Act→World→Prop} (J:α→Act→World→Prop) (μ:α→Nat) (x0:α) (h₀:J x0 a w)
  (round:∀x a w,J x a w→c.wp P (Exit.then (fun a' w'=>∃x',J x' a' w'∧μ x'<μ x) Q) a w):(Code.loop c).wp P Q a w:=by
 intro b k cs
 have key:∀n x a w,μ x=n→J x a w→
   ∃e a' w',Q e a' w'∧Arrives P (lone (b.at a (.code c:: .inLoop c::k)) cs w) b k cs e a' w':=by
  intro n
  induction n using Nat.strongRecOn with
  | _ n ih=>
    intro x a w hn hI
    obtain ⟨e,a₁,w₁,hq,harr⟩:=round x a w hI b (.inLoop c::k) cs
    cases e with
    | normal=>
      obtain ⟨x',hI₁,hlt⟩:=hq
      obtain ⟨e₂,a₂,w₂,hq₂,harr₂⟩:=ih (μ x') (hn▸hlt) x' a₁ w₁ rfl hI₁
      exact ⟨e₂,a₂,w₂,hq₂, .of_steps (Steps.trans harr (.one step_inLoop)) harr₂⟩
    | exit id=>exact ⟨_,a₁,w₁,hq, .pass (x:= .inLoop c) rfl (fun _ _=> .inl (by simp)) harr⟩
    | goto l=>exact ⟨_,a₁,w₁,hq, .pass (x:= .inLoop c) rfl (fun _ _=> .inl (by simp)) harr⟩
    | ret=>exact ⟨_,a₁,w₁,hq, .pass (x:= .inLoop c) rfl (fun _ _=> .inl (by simp)) harr⟩
    | panic ch=>exact ⟨_,a₁,w₁,hq, .pass (x:= .inLoop c) rfl (fun _ _=> .inl (by simp)) harr⟩
    | outgrown=>exact ⟨_,a₁,w₁,hq, .pass (x:= .inLoop c) rfl (fun _ _=> .inl (by simp)) harr⟩
 obtain ⟨e,a',w',hq,harr⟩:=key _ x0 a w rfl h₀
 exact ⟨e,a',w',hq, .of_steps (.one step_loop) harr⟩
theorem LSem.loop (hmix:P.follows .mixedOrders=true) {α:Type} (I:α→Prop) (fl:α→List (Nat×PV)) (sl:α→List (Nat×SE)) (μ:α→Nat) (x0:α) (h0:I x0) (hE:Ent np s n (fl x0) (sl x0))
  (hr:∀x,I x→vc (PureCall P) (LSem P wr np) b (fun lv s'=>match lv with
   | .nrm=>s'.ok∧∃x',I x'∧μ x'<μ x∧Ent np s' n (fl x') (sl x')
   | .ex i=>Q (.ex i) s'
   | .ret=>Q .ret s') (St n (fl x) (sl x))):LSem P wr np (.loop b) Q s:=by
 intro hQ code hc X w0 may a w γ hX hR
 have:∃p,code= .loop p∧comp P wr p=some b.er:=by
  cases code with
  | loop p=>
    simp only [comp,C.er,Option.map_eq_some_iff,C.loop.injEq] at hc
    obtain ⟨b',hb,rfl⟩:=hc
    exact ⟨p,rfl,hb⟩
  | region id ops dr=>cases dr<;>simp only [comp,C.er] at hc<;>(repeat' (split at hc))<;>simp_all
  | _=>simp only [comp,C.er] at hc<;>(repeat' (split at hc))<;>simp_all
 obtain ⟨p,rfl,hp⟩:=this
 obtain ⟨γ0,hR0⟩:=hE.rel hX hR
 refine wp_loop_by (fun x a w=>I x∧∃γ,Rel X w0 may a w (St n (fl x) (sl x)) γ) μ x0 ⟨h0,γ0,hR0⟩ ?_
 rintro x a w ⟨hI,γ,hR⟩
 have h1:=(vc_sound hmix b p _ _ (fun lv s' hs=>by
  cases lv with
  | nrm=>exact hs.1
  | ex i=>exact hQ _ _ hs
  | ret=>exact hQ _ _ hs) hp (hr x hI)).2 X w0 may a w γ hX hR
 refine wp_mono h1 ?_
 rintro e a' w' ⟨lv,s',γ',he,hq',hR'⟩
 cases e
 ·cases he
  obtain ⟨_,x',hx',hlt,hE'⟩:=hq'
  obtain ⟨γ2,hR2⟩:=hE'.rel hX hR'
  exact ⟨x',⟨hx',γ2,hR2⟩,hlt⟩
 ·obtain ⟨hb,rfl⟩:=lvOf_exit he;exact ⟨_,_,_,he,hq',hR'⟩
 ·cases he;exact ⟨_,_,_,rfl,hq',hR'⟩
 ·cases he;exact ⟨_,_,_,rfl,hq',hR'⟩
 ·cases he
 ·cases he
theorem C.from_none (l:Nat):∀(b:C),C.from l b=none→C.from l b.er=none:=by
 intro b
 induction b with
 | seq x y ihx ihy=>
   intro h
   simp only [C.from] at h
   simp only [C.er,C.from]
   split at h
   ·cases h
   ·rename_i h1
    rw [ihx h1]
    exact ihy h
 | lab l'=>exact fun h=>h
 | cut b ih=>
   intro h
   simp only [C.from] at h
   simp only [C.er]
   exact ih h
 | _=>intro h;simp only [C.er,C.from]
theorem C.from_er (l:Nat):∀(b r:C),C.from l b=some r→C.from l b.er=some r.er:=by
 intro b
 induction b with
 | seq x y ihx ihy=>
   intro r h
   simp only [C.from] at h
   simp only [C.er,C.from]
   split at h
   ·rename_i r1 h1
    cases h
    rw [ihx _ h1]
    rfl
   ·rename_i h1
    have h2:C.from l x.er=none:=C.from_none l x h1
    rw [h2]
    exact ihy _ h
 | lab l'=>
   intro r h
   simp only [C.from] at h
   simp only [C.er,C.from]
   split at h
   ·cases h
    rfl
   ·cases h
 | cut b ih=>
   intro r h
   simp only [C.from] at h
   simp only [C.er]
   exact ih r h
 | _=>intro r h;simp only [C.from,reduceCtorEq] at h
theorem from_comp {wr:Bool} (l:Nat):∀(p:Code) (c:C),comp P wr p=some c→(∀r,C.from l c=some r→∃q,findLabel p l=some q∧comp P wr q=some r)∧(C.from l c=none→findLabel p l=none):=by
 intro p
 induction p with
 | seq x y ihx ihy=>
   intro c hc
   simp only [comp] at hc
   split at hc
   ·rename_i cx cy hx hy
    cases hc
    refine ⟨fun r h=> ?_,fun h=> ?_⟩
    ·simp only [C.from] at h
     split at h
     ·rename_i r1 h1
      cases h
      obtain ⟨q,hq,hcq⟩:=(ihx _ hx).1 _ h1
      exact ⟨.seq q y,by simp only [findLabel,hq],by simp only [comp,hcq,hy]⟩
     ·rename_i h1
      obtain ⟨q,hq,hcq⟩:=(ihy _ hy).1 _ h
      exact ⟨q,by simp only [findLabel,(ihx _ hx).2 h1,hq],hcq⟩
    ·simp only [C.from] at h
     split at h
     ·cases h
     ·rename_i h1
      simp only [findLabel,(ihx _ hx).2 h1,(ihy _ hy).2 h]
   ·cases hc
 | label l'=>
   intro c hc
   simp only [comp,Option.some.injEq] at hc
   subst hc
   refine ⟨fun r h=> ?_,fun h=> ?_⟩
   ·simp only [C.from] at h
    split at h
    ·rename_i hl
     cases h
     refine ⟨.skip, ?_,rfl⟩
     simp only [findLabel]
     rw [if_pos (by simpa using Nat.eq_of_beq_eq_true hl)]
    ·cases h
   ·simp only [C.from] at h
    split at h
    ·cases h
    ·rename_i hl
     simp only [findLabel]
     rw [if_neg (by intro e;simp only [beq_iff_eq] at e;rw [e,Nat.beq_refl] at hl;cases hl)]
 | region id ops dr=>
   intro c hc
   refine ⟨fun r h=> ?_,fun _=>by simp only [findLabel]⟩
   cases dr<;>simp only [comp] at hc<;>(repeat' (split at hc))<;>cases hc<;>simp only [C.from,reduceCtorEq] at h
 | block id b ih=>
   intro c hc
   refine ⟨fun r h=> ?_,fun _=>by simp only [findLabel]⟩
   simp only [comp] at hc
   split at hc
   ·cases hc;simp only [C.from,reduceCtorEq] at h
   ·obtain ⟨b',_,rfl⟩:=Option.map_eq_some_iff.1 hc;simp only [C.from,reduceCtorEq] at h
 | loop b ih=>
   intro c hc
   refine ⟨fun r h=> ?_,fun _=>by simp only [findLabel]⟩
   simp only [comp] at hc
   obtain ⟨b',_,rfl⟩:=Option.map_eq_some_iff.1 hc;simp only [C.from,reduceCtorEq] at h
 | scope b ih=>
   intro c hc
   refine ⟨fun r h=> ?_,fun _=>by simp only [findLabel]⟩
   simp only [comp] at hc
   obtain ⟨b',_,rfl⟩:=Option.map_eq_some_iff.1 hc;simp only [C.from,reduceCtorEq] at h
 | _=>
   intro c hc
   refine ⟨fun r h=> ?_,fun _=>by simp only [findLabel]⟩
   simp only [comp] at hc
   (repeat' (split at hc))<;>cases hc<;>simp only [C.from,reduceCtorEq] at h
theorem wp_jumps_by {α:Type} {c rest:Code} {Q:Exit→Act→World→Prop} {a:Act} {w:World} (l:Nat) (J:α→Act→World→Prop) (μ:α→Nat) (hf:findLabel c l=some rest)
  (first:c.wp P (Exit.jump l (fun a' w'=>∃x,J x a' w') Q) a w)
  (pass:∀x a w,J x a w→rest.wp P (Exit.jump l (fun a' w'=>∃x',J x' a' w'∧μ x'<μ x) Q) a w):(Code.scope c).wp P Q a w:=by
 intro b k cs
 have hg:gotoIn l (.inScope c::k)=some (.code rest:: .inScope c::k):=by simp [gotoIn,hf]
 have key:∀n x a w,μ x=n→J x a w→∃e a' w',Q e a' w'∧Arrives P (lone (b.at a (.code rest:: .inScope c::k)) cs w) b k cs e a' w':=by
  intro n
  induction n using Nat.strongRecOn with
  | _ n ih=>
    intro x a w hn hJ
    obtain ⟨e,a₁,w₁,hq,harr⟩:=pass x a w hJ b (.inScope c::k) cs
    cases e with
    | normal=>exact ⟨.normal,a₁,w₁,hq,Steps.trans harr (.one step_inScope)⟩
    | exit id=>exact ⟨.exit id,a₁,w₁,hq,fun k' hk=>harr k' (by simp [exitTo,hk])⟩
    | goto l'=>
      obtain ⟨rfl,x',hJ',hlt⟩:=hq
      obtain ⟨e₂,a₂,w₂,hq₂,harr₂⟩:=ih _ (hn▸hlt) x' a₁ w₁ rfl hJ'
      exact ⟨e₂,a₂,w₂,hq₂, .of_steps (harr _ hg) harr₂⟩
    | ret=>exact ⟨_,a₁,w₁,hq,harr⟩
    | panic ch=>exact ⟨_,a₁,w₁,hq,harr⟩
    | outgrown=>exact ⟨_,a₁,w₁,hq,harr⟩
 obtain ⟨e,a₁,w₁,hq,harr⟩:=first b (.inScope c::k) cs
 cases e with
 | normal=>exact ⟨.normal,a₁,w₁,hq, .head step_scope (Steps.trans harr (.one step_inScope))⟩
 | exit id=>exact ⟨.exit id,a₁,w₁,hq,fun k' hk=> .head step_scope (harr k' (by simp [exitTo,hk]))⟩
 | goto l'=>
   obtain ⟨rfl,x',hJ'⟩:=hq
   obtain ⟨e₂,a₂,w₂,hq₂,harr₂⟩:=key _ x' a₁ w₁ rfl hJ'
   exact ⟨e₂,a₂,w₂,hq₂, .of_steps (.head step_scope (harr _ hg)) harr₂⟩
 | ret=>exact ⟨_,a₁,w₁,hq, .of_steps (.one step_scope) harr⟩
 | panic ch=>exact ⟨_,a₁,w₁,hq, .of_steps (.one step_scope) harr⟩
 | outgrown=>exact ⟨_,a₁,w₁,hq, .of_steps (.one step_scope) harr⟩
theorem post_jumps {Q:Lv→PS→Prop} {J:PS→Prop} {K:Act→World→Prop} {l:Nat} {X:Cx} {w0:World} {may:Nat→Prop} {e:Exit} {a':Act} {w':World}
  (hJ:∀s' γ,J s'→Rel X w0 may a' w' s' γ→K a' w') (h:post X w0 may (jmps l J Q) e a' w'):Exit.jump l K (post X w0 may Q) e a' w':=by
 obtain ⟨lv,s',γ',he,hq',hR'⟩:=h
 cases e
 ·cases he;exact ⟨_,_,_,rfl,hq',hR'⟩
 ·obtain ⟨hb,rfl⟩:=lvOf_exit he
  simp only [jmps,hb] at hq'
  exact ⟨_,_,_,he,hq',hR'⟩
 ·rename_i l'
  cases he
  simp only [jmps,ble_add] at hq'
  split at hq'
  ·rename_i hl
   have hl:=Nat.eq_of_beq_eq_true hl
   exact ⟨by omega,hJ _ _ hq' hR'⟩
  ·exact hq'.elim
 ·cases he;exact ⟨_,_,_,rfl,hq',hR'⟩
 ·cases he
 ·cases he
theorem LSem.jumps (hmix:P.follows .mixedOrders=true) {α:Type} (l:Nat) (r:C) (hr:C.from l b=some r) (I:α→Prop) (fl:α→List (Nat×PV)) (sl:α→List (Nat×SE)) (μ:α→Nat)
  (first:vc (PureCall P) (LSem P wr np) b (jmps l (fun s'=>s'.ok∧∃x,I x∧Ent np s' n (fl x) (sl x)) Q) s)
  (pass:∀x,I x→vc (PureCall P) (LSem P wr np) r (jmps l (fun s'=>s'.ok∧∃x',I x'∧μ x'<μ x∧Ent np s' n (fl x') (sl x')) Q) (St n (fl x) (sl x))):LSem P wr np (.scope b) Q s:=by
 intro hQ code hc X w0 may a w γ hX hR
 have:∃p,code= .scope p∧comp P wr p=some b.er:=by
  cases code with
  | scope p=>
    simp only [comp,C.er,Option.map_eq_some_iff,C.scope.injEq] at hc
    obtain ⟨b',hb,rfl⟩:=hc
    exact ⟨p,rfl,hb⟩
  | region id ops dr=>cases dr<;>simp only [comp,C.er] at hc<;>(repeat' (split at hc))<;>simp_all
  | _=>simp only [comp,C.er] at hc<;>(repeat' (split at hc))<;>simp_all
 obtain ⟨p,rfl,hp⟩:=this
 obtain ⟨q,hq,hcq⟩:=(from_comp l p _ hp).1 _ (C.from_er l b r hr)
 have ok':∀(K:PS→Prop),(∀s,K s→s.ok)→∀lv s',jmps l K Q lv s'→s'.ok:=fun K hK lv s' hs=>by
  cases lv with
  | nrm=>exact hQ _ _ hs
  | ex i=>
    simp only [jmps] at hs
    split at hs
    ·split at hs
     ·exact hK _ hs
     ·exact hs.elim
    ·exact hQ _ _ hs
  | ret=>exact hQ _ _ hs
 refine wp_jumps_by l (fun x a w=>I x∧∃γ,Rel X w0 may a w (St n (fl x) (sl x)) γ) μ hq ?_ ?_
 ·refine wp_mono ((vc_sound hmix b p _ s (ok' _ fun _ h=>h.1) hp first).2 X w0 may a w γ hX hR) fun e a' w' h=>post_jumps (fun s' γ' hs hR'=> ?_) h
  obtain ⟨_,x,hx,hE⟩:=hs
  obtain ⟨γ2,hR2⟩:=hE.rel hX hR'
  exact ⟨x,hx,γ2,hR2⟩
 ·rintro x a w ⟨hI,γ,hR⟩
  refine wp_mono ((vc_sound hmix r q _ _ (ok' _ fun _ h=>h.1) hcq (pass x hI)).2 X w0 may a w γ hX hR) fun e a' w' h=>post_jumps (fun s' γ' hs hR'=> ?_) h
  obtain ⟨_,x',hx',hlt,hE⟩:=hs
  obtain ⟨γ2,hR2⟩:=hE.rel hX hR'
  exact ⟨x',⟨hx',γ2,hR2⟩,hlt⟩
theorem LSem.adopt {fr:Nat→Option PV} {st:Nat→Option SE} {ok:Prop} {log:Nat→Option LogE} (t R:Nat) (e:TypeId) (z z':Nat) (h1:fr t=some (.nil z')) (h2:st R=none)
  (h:LSem P wr np c Q ⟨n,upd fr t (.os R),upd st R (.row 0 e z 0 (fun _=> [])),ok,log⟩):LSem P wr np c Q ⟨n,fr,st,ok,log⟩:=by
 intro hQ code hc X w0 may a w γ hX hR
 have hv:=(hR.fr t _ h1).2.nil_inv
 let ge:GE:=⟨none, .slice none 0 0,z⟩
 have hE:EffOK X γ w st (Eff.pure (.os R)) (.slice none 0 0) w (upd γ R ge) (upd st R (.row 0 e z 0 (fun _=> []))):=
  EffOK.add hR.st hR.hX h2 rfl (Keeps.refl _ _) (fun b hb=>by rcases hb with hb | hb<;>cases hb) (fun _=>⟨[],rfl,rfl,rfl,⟨by simp, .inl ⟨rfl,rfl⟩⟩,by simp,fun i hi=>by omega,fun i hi=>by omega,fun i j c u hi=>by omega⟩)
   (fun _=> .os R ge (upd_same _ _ _) rfl rfl)
 have hR2:Rel X w0 may (a.put none (.slice none 0 0)) w ⟨n,fr,upd st R (.row 0 e z 0 (fun _=> [])),ok,log⟩ (upd γ R ge):=
  hR.after (s':=⟨n,fr,upd st R (.row 0 e z 0 (fun _=> [])),ok,log⟩) hE (fun r hr=>by cases hr) rfl fun t p hp=> .inr ⟨by simp,p,hp,(void_nil p).symm⟩
 refine h hQ code hc X w0 may a w (upd γ R ge) hX ⟨hR2.size,hR2.defers,fun t' p hp=> ?_,hR2.st,hR2.keeps,hR2.lo,hR2.own,hR2.asLt,hR2.par,hR2.mayP,hR2.fx,hR2.pr⟩
 simp only at hp
 by_cases ht:t'=t
 ·subst ht
  rw [upd_same] at hp;injection hp with hp;subst hp
  refine ⟨(hR.fr t' _ h1).1, ?_⟩
  rw [hv]
  exact .os R ge (upd_same _ _ _) rfl rfl
 ·rw [upd_ne _ _ ht] at hp;exact hR2.fr t' p hp
end
open Go.RowKit
def argF:Nat→List PV→List (Nat×PV)
 | _, []=> []
 | k,p::ps=>(k,p)::argF (k+1) ps
def boxF:Nat→List SE→List (Nat×SE)
 | _, []=> []
 | k,p::ps=>(k,p)::boxF (k+1) ps
theorem argF_get:∀(l:List PV) (k t:Nat) (p:PV),frL (argF k l) t=some p→k≤t∧l[t - k]? =some p
 | [],k,t,p,h=>by simp [argF,frL] at h
 | q::l,k,t,p,h=>by
   simp only [argF,frL,upd_eq] at h
   split at h
   ·rename_i hk;subst hk;injection h with h;subst h;simp
   ·obtain ⟨h1,h2⟩:=argF_get l (k+1) t p h
    refine ⟨by omega, ?_⟩
    rw [show t - k=(t - (k+1))+1 from by omega];simpa using h2
theorem boxF_get:∀(l:List SE) (k t:Nat),stL (boxF k l) t=if k≤t then l[t - k]? else none
 | [],k,t=>by simp [boxF,stL]
 | q::l,k,t=>by
   simp only [boxF,stL,upd_eq]
   by_cases hk:t=k
   ·subst hk;simp
   ·rw [if_neg hk,boxF_get l (k+1) t]
    by_cases h1:k+1≤t
    ·rw [if_pos h1,if_pos (by omega),show t - k=(t - (k+1))+1 from by omega];simp
    ·rw [if_neg h1,if_neg (by omega)]
def reN (ids:List Nat) (r:Nat):Nat:=match Nat.ble newBase r with
 | true=>ids.getD (r - newBase) 0
 | false=>r
def elemB (r:Nat):List Nat→Bool
 | []=>false
 | x::l=>match Nat.beq r x with
   | true=>true
   | false=>elemB r l
def kpR (np:Nat) (ids:List Nat) (r:Nat):Bool:=match Nat.blt r np with
 | true=>true
 | false=>elemB r ids
def noDup:List Nat→Bool
 | []=>true
 | x::l=>match elemB x l with
   | true=>false
   | false=>noDup l
def allGe (np:Nat):List Nat→Bool
 | []=>true
 | x::l=>match Nat.ble np x with
   | true=>allGe np l
   | false=>false
def inRes (np m:Nat):List Nat→Bool
 | []=>true
 | r::l=>match (Nat.blt r np || (Nat.ble newBase r&&Nat.blt r (newBase+m))) with
   | true=>inRes np m l
   | false=>false
def inResS (np m:Nat):List SE→Bool
 | []=>true
 | e::l=>match inRes np m e.ids with
   | true=>inResS np m l
   | false=>false
def leBox (st:Nat→Option SE) (kp:Nat→Bool) (ids:List Nat):Nat→List SE→Prop
 | _, []=>True
 | k,e'::l=>(match st k with
   | some e=>SLe st kp e (e'.ren (reN ids))
   | none=>False)∧leBox st kp ids (k+1) l
def leNew (st:Nat→Option SE) (kp:Nat→Bool) (all:List Nat):List Nat→List SE→Prop
 | [], []=>True
 | i::is,e'::l=>(match st i with
   | some e=>SLe st kp e (e'.ren (reN all))
   | none=>False)∧leNew st kp all is l
 | _,_=>False
def tupOf:List PV→PV
 | [p]=>p
 | ps=> .tup ps
abbrev RV:=Nat×Option (Nat×Bool)
def rvVal (fr:Nat→Option PV) (st:Nat→Option SE):RV→Option PV
 | (t,none)=>fr t
 | (t,some (n,g))=>match fr t with
   | some (.pt r i j)=>match st r with
     | some (.box cells)=>match i,mpB cells with
       | 0,false=>asV n g ((cells.drop j).take n)
       | _,_=>none
     | _=>none
   | _=>none
def rvL (fr:Nat→Option PV) (st:Nat→Option SE):List RV→Option (List PV)
 | []=>some []
 | a::r=>match rvVal fr st a,rvL fr st r with
   | some p,some ps=>some (p::ps)
   | _,_=>none
def compR (P:Program):ResultVar→Option RV
 | .tmp t=>some (t,none)
 | .cell a t=>match isAggO P t with
   | some g=>some (a,some (P.cellsOf t,g))
   | none=>none
def ResOK (rs:List RV) (np:Nat) (c:CallRes) (ids:List Nat) (s:PS):Prop:=match s with
 | ⟨_,fr,st,_,_⟩=>match rvL fr st rs with
   | none=>False
   | some ps=>(noDup ids&&allGe np ids&&(Nat.beq c.st.length np)&&Nat.ble np newBase&&inRes np c.news.length c.val.ids&&inResS np c.news.length c.st&&inResS np c.news.length c.news)=true∧
     PLe st (kpR np ids) (tupOf ps) (c.val.ren (reN ids))∧leBox st (kpR np ids) ids 0 c.st∧leNew st (kpR np ids) ids ids c.news
def Fin (rs:List RV) (np:Nat) (c:CallRes):Lv→PS→Prop
 | .ex _,_=>False
 | .nrm,s=>s.ok∧∃ids,ResOK rs np c ids s
 | .ret,s=>s.ok∧∃ids,ResOK rs np c ids s
theorem elemB_iff {r:Nat}:∀{l:List Nat},elemB r l=true↔r∈l
 | []=>by simp [elemB]
 | x::l=>by
   simp only [elemB,List.mem_cons]
   by_cases h:r=x
   ·subst h;simp
   ·have:Nat.beq r x=false:=by rw [Bool.eq_false_iff];intro hh;exact h (Nat.eq_of_beq_eq_true hh)
    rw [this];simp only [h,false_or];exact elemB_iff
theorem noDup_iff:∀{l:List Nat},noDup l=true→l.Nodup
 | [],_=>List.nodup_nil
 | x::l,h=>by
   simp only [noDup] at h
   split at h
   ·cases h
   ·rename_i hx
    exact List.nodup_cons.2 ⟨fun hm=>by (rw [elemB_iff.2 hm] at hx;cases hx),noDup_iff h⟩
theorem allGe_iff {np:Nat}:∀{l:List Nat},allGe np l=true→∀r∈l,np≤r
 | [],_,r,hr=>by simp at hr
 | x::l,h,r,hr=>by
   simp only [allGe] at h
   split at h
   ·rename_i hx
    rcases List.mem_cons.1 hr with rfl | hr
    ·exact Nat.le_of_ble_eq_true hx
    ·exact allGe_iff h r hr
   ·cases h
theorem inRes_iff {np m:Nat}:∀{l:List Nat},inRes np m l=true→∀r∈l,r<np∨(newBase≤r∧r<newBase+m)
 | [],_,r,hr=>by simp at hr
 | x::l,h,r,hr=>by
   simp only [inRes] at h
   split at h
   ·rename_i hx
    rcases List.mem_cons.1 hr with rfl | hr
    ·rw [Bool.or_eq_true,Bool.and_eq_true] at hx
     rcases hx with hx | ⟨hx,hx'⟩
     ·exact .inl (by simpa [Nat.blt_eq] using hx)
     ·exact .inr ⟨Nat.le_of_ble_eq_true hx,by simpa [Nat.blt_eq] using hx'⟩
    ·exact inRes_iff h r hr
   ·cases h
theorem inResS_iff {np m:Nat}:∀{l:List SE},inResS np m l=true→∀e∈l,∀r∈e.ids,r<np∨(newBase≤r∧r<newBase+m)
 | [],_,r,hr=>by simp at hr
 | x::l,h,r,hr=>by
   simp only [inResS] at h
   split at h
   ·rename_i hx
    rcases List.mem_cons.1 hr with rfl | hr
    ·exact inRes_iff hx
    ·exact inResS_iff h r hr
   ·cases h
theorem leBox_get {st:Nat→Option SE} {kp:Nat→Bool} {ids:List Nat}:∀{l:List SE} {k:Nat},leBox st kp ids k l→∀(i:Nat) (e':SE),l[i]? =some e'→∃e,st (k+i)=some e∧SLe st kp e (e'.ren (reN ids))
 | [],k,h,i,e',hi=>by simp at hi
 | x::l,k,h,i,e',hi=>by
   obtain ⟨h1,h2⟩:=h
   cases i with
   | zero=>
     simp only [List.getElem?_cons_zero,Option.some.injEq] at hi;subst hi
     split at h1
     ·rename_i e he;exact ⟨e,he,h1⟩
     ·exact h1.elim
   | succ i=>
     obtain ⟨e,he,hle⟩:=leBox_get h2 i e' (by simpa using hi)
     exact ⟨e,by rw [show k+(i+1)=k+1+i from by omega];exact he,hle⟩
theorem leNew_get {st:Nat→Option SE} {kp:Nat→Bool} {all:List Nat}:∀{is:List Nat} {l:List SE},leNew st kp all is l→is.length=l.length∧∀(i:Nat) (e':SE),l[i]? =some e'→∃r e,is[i]? =some r∧st r=some e∧SLe st kp e (e'.ren (reN all))
 | [], [],h=>⟨rfl,fun i e' hi=>by simp at hi⟩
 | [],_::_,h=>by simp [leNew] at h
 | _::_, [],h=>by simp [leNew] at h
 | r::is,x::l,h=>by
   obtain ⟨h1,h2⟩:=h
   obtain ⟨g1,g2⟩:=leNew_get h2
   refine ⟨by simp [g1],fun i e' hi=> ?_⟩
   cases i with
   | zero=>
     simp only [List.getElem?_cons_zero,Option.some.injEq] at hi;subst hi
     split at h1
     ·rename_i e he;exact ⟨r,e,rfl,he,h1⟩
     ·exact h1.elim
   | succ i=>
     obtain ⟨r',e,k1,k2,k3⟩:=g2 i e' (by simpa using hi)
     exact ⟨r',e,by simpa using k1,k2,k3⟩
section
variable {P:Program} {wr:Bool}
def rvRun (tmps:Array Value):ResultVar→Sem Value
 | .tmp t=>pure (tmps.getD t undef)
 | .cell a t=>do loadVar t (←asAddr (tmps.getD a undef))
theorem run_result {X:Cx} {γ:Gh} {w:World} {fr:Nat→Option PV} {st:Nat→Option SE} (hst:RepSt X γ w st) {tmps:Array Value} (hfr:∀t p,fr t=some p→Rep X γ w p (tmps.getD t undef)) {r:ResultVar} {v:RV} {p:PV}
  (hv:compR P r=some v) (hp:rvVal fr st v=some p):
  ∃u,(rvRun tmps r).run P w= .ok u w∧Rep X γ w p u:=by
 cases r with
 | tmp t=>
   simp only [compR,Option.some.injEq] at hv;subst hv
   exact ⟨_,rfl,hfr t p hp⟩
 | cell a t=>
   simp only [compR] at hv
   split at hv
   ·rename_i g hg
    injection hv with hv;subst hv
    simp only [rvVal] at hp
    split at hp
    ·rename_i r i j hr
     split at hp
     ·rename_i cells hc
      split at hp
      ·rename_i hmp
       have hu:=hfr a _ hr
       obtain ⟨v,h1,h2⟩:=ld_box_sound hst hg hu hc ⟨rfl,hmp⟩ hp
       refine ⟨v, ?_,h2⟩
       obtain ⟨ge,b,_,_,he⟩:=pt_inv hu
       show Sem.run P (do loadVar t (←asAddr (tmps.getD a undef))) w=_
       rw [he] at h1⊢
       simpa [Instr.loadAt,Instr.sureAddr,asAddr] using h1
      ·cases hp
     ·cases hp
    ·cases hp
   ·cases hv
theorem mapM_run {α:Type} {w:World} (g:α→Sem Value):∀(l:List α) (us:List Value),us.length=l.length→(∀(k:Nat) (x:α) (u:Value),l[k]? =some x→us[k]? =some u→(g x).run P w= .ok u w)→(List.mapM g l).run P w= .ok us w
 | [],us,hl,h=>by
   have:us= []:=List.eq_nil_of_length_eq_zero hl
   subst this;rfl
 | x::l,us,hl,h=>by
   cases us with
   | nil=>simp at hl
   | cons u us=>
     have h1:=h 0 x u rfl rfl
     have h2:=mapM_run g l us (by simpa using hl) (fun k y v hk hv=>h (k+1) y v (by simpa using hk) (by simpa using hv))
     rw [List.mapM_cons]
     simp [h1,h2]
theorem run_results {X:Cx} {γ:Gh} {w:World} {fr:Nat→Option PV} {st:Nat→Option SE} (hst:RepSt X γ w st) {tmps:Array Value} (hfr:∀t p,fr t=some p→Rep X γ w p (tmps.getD t undef)) {fn:Func} {rs:List RV} {ps:List PV}
  (hv:mapO (compR P) fn.results.toList=some rs) (hp:rvL fr st rs=some ps):∃v,(results fn tmps).run P w= .ok v w∧Rep X γ w (tupOf ps) v:=by
 have hall:∀(l:List ResultVar) (rs:List RV) (ps:List PV),mapO (compR P) l=some rs→rvL fr st rs=some ps→∃us:List Value,RepL X γ w ps us∧us.length=l.length∧∀(k:Nat) (x:ResultVar) (u:Value),l[k]? =some x→us[k]? =some u→(rvRun tmps x).run P w= .ok u w:=by
  intro l
  induction l with
  | nil=>
    intro rs ps h1 h2
    simp only [mapO,Option.some.injEq] at h1;subst h1
    simp only [rvL,Option.some.injEq] at h2;subst h2
    exact ⟨[],RepL.nil_,rfl,fun k x u hk=>by simp at hk⟩
  | cons x l ih=>
    intro rs ps h1 h2
    simp only [mapO] at h1
    split at h1
    ·rename_i b bs hb hbs
     injection h1 with h1;subst h1
     simp only [rvL] at h2
     split at h2
     ·rename_i q qs hq hqs
      injection h2 with h2;subst h2
      obtain ⟨u,hu1,hu2⟩:=run_result (P:=P) hst hfr hb hq
      obtain ⟨us,g1,g2,g3⟩:=ih bs qs hbs hqs
      refine ⟨u::us,RepL.cons_ hu2 g1,by simp [g2],fun k y v hk hv=> ?_⟩
      cases k with
      | zero=>simp only [List.getElem?_cons_zero,Option.some.injEq] at hk hv;subst hk;subst hv;exact hu1
      | succ k=>exact g3 k y v (by simpa using hk) (by simpa using hv)
     ·cases h2
    ·cases h1
 obtain ⟨us,h1,h2,h3⟩:=hall _ rs ps hv hp
 have h4:=mapM_run (P:=P) (w:=w) _ _ us h2 h3
 have hl:=h1.1
 refine ⟨if h:us.toArray.size=1 then us.toArray[0] else .tuple us.toArray, ?_, ?_⟩
 ·have hres:results fn tmps=(do let vs←fn.results.mapM (rvRun tmps);pure (if h:vs.size=1 then vs[0] else .tuple vs)):=by
    unfold results
    have:(fun (x:ResultVar)=>match x with
     | .tmp t=>(pure (tmps.getD t undef):Sem Value)
     | .cell a t=>do loadVar t (←asAddr (tmps.getD a undef)))=rvRun tmps:=by funext x;cases x<;>rfl
    rw [←this]
    rfl
  have e:fn.results=fn.results.toList.toArray:=by simp
  rw [hres,e,List.mapM_toArray]
  simp [h4]
 ·match ps,us,hl,h1 with
  | [], [],_,h1=>exact .tup _ _ h1.1 h1.2
  | [p], [u],_,h1=>
    obtain ⟨_,_,hu,hr,_⟩:=h1.cons_inv
    simp only [List.cons.injEq] at hu
    simp only [tupOf]
    rw [hu.1];exact hr
  | p::q::ps,t::u::us,_,h1=>exact .tup _ _ h1.1 h1.2
def fits (P:Program) (wr:Bool) (fn:Func) (nargs n:Nat) (rs:List RV):Option C:=
 match fn.body,mapO (compR P) fn.results.toList with
 | some code,some rs'=>if rs'=rs∧nargs+(fn.ntmps - nargs)=n∧(fn.name== "runtime.NumGoroutine")=false then comp P wr code else none
 | _,_=>none
def okBs (bs:List SE):Bool:= !(bs.any SE.isRow) || (match Nat.beq (nbx bs) 0 with
 | true=>bs.all SE.isRow
 | false=>Nat.ble bs.length 16)
theorem nbx_or (bs:List SE):nbx bs=bs.length∨nbx bs=0:=by
 cases bs with
 | nil=>exact .inl rfl
 | cons e bs=>cases e with
   | row _ _ _ _ _=>exact .inr rfl
   | _=>exact .inl rfl
theorem okBs_iff {bs:List SE} (h:okBs bs=true):(nbx bs=bs.length∧∀r τ e z n f,bs[r]? =some (.row τ e z n f)→1≤r∧r<16)∨(nbx bs=0∧∀e∈bs,e.isRow=true):=by
 unfold okBs at h
 rw [Bool.or_eq_true] at h
 rcases h with h | h
 ·have h1:bs.any SE.isRow=false:=by simpa using h
  refine .inl ⟨nbx_rows h1,fun r τ e z n f hb=> ?_⟩
  have h2:=List.any_eq_false.1 h1 _ (List.mem_of_getElem? hb)
  exact absurd rfl h2
 ·split at h
  ·rename_i h0
   exact .inr ⟨Nat.eq_of_beq_eq_true h0,fun e he=>List.all_eq_true.1 h e he⟩
  ·rename_i h0
   have h16:=Nat.le_of_ble_eq_true h
   have hne:nbx bs≠0:=fun e=>by rw [e] at h0;cases h0
   refine .inl ⟨(nbx_or bs).resolve_right hne,fun r τ e z n f hb=>⟨?_, ?_⟩⟩
   ·cases r with
    | zero=>
      cases bs with
      | nil=>cases hb
      | cons e0 bs=>
        injection hb with hb
        subst hb
        exact absurd rfl hne
    | succ r=>omega
   ·have:=(List.getElem?_eq_some_iff.1 hb).1
    omega
def BodyC (P:Program) (f:FuncId) (args:Array Value) (w:World) (R:Ending→World→Prop):Prop:=
 ∃fn c,P.funcs[f]? =some fn∧fn.body=some c∧c.wp P (bodyPost P fn R) { tmps:=args++Array.replicate (fn.ntmps - args.size) undef,defers:= [] } w
abbrev PureBody (P:Program):=PureCallC (BodyC P) P
theorem PureBody.call {f:FuncId} {args:List PV} {bs:List SE} {c:CallRes} (h:PureBody P f args bs c):PureCall P f args bs c:=
 ⟨h.1,fun w γ aas ls vals h1 h2 h3=>by
  obtain ⟨fn,cc,hf,hb,hw⟩:=h.2 w γ aas ls vals h1 h2 h3
  exact calls_of_wp hf hb hw⟩
theorem res_key {fn:Func} {rs:List RV} {bs:List SE} {c:CallRes} {w:World} {γ:Gh} {aas ls:Nat→Prop} {df:List Deferred} (hres:mapO (compR P) fn.results.toList=some rs)
  {a':Act} {w':World} {s':PS} {γ':Gh} (hR':Rel ⟨w.heap.size,aas,ls,nbx bs,γ,df⟩ w γ.own a' w' s' γ') (hγ0:∀r ge,γ r=some ge→r<bs.length) (h:∃ids,ResOK rs (nbx bs) c ids s'):
  ∃v,(results fn a'.tmps).run P w'= .ok v w'∧∃v' γ',Ending.returned v= .returned v'∧Rep ⟨w.heap.size,aas,ls,(nbx bs),γ,df⟩ γ' w' c.val v'∧RepSt ⟨w.heap.size,aas,ls,(nbx bs),γ,df⟩ γ' w' (resSt c)∧
   Keeps γ.own w w'∧(∀r,r<parN bs c→ParR r (γ' r) (γ r) (resSt c r))∧(∀r ge b,γ' r=some ge→ge.has b→w.heap.size≤b∨((nbx bs)=0∧γ.own b)∨∃ge0,γ r=some ge0∧ge0.has b):=by
 revert h
 rintro ⟨ids,hro⟩
 obtain ⟨n',fr,st,ok,log⟩:=s'
 simp only [ResOK] at hro
 split at hro
 ·exact hro.elim
 ·rename_i ps hps
  obtain ⟨vv,hrun,hrv⟩:=run_results (P:=P) (tmps:=a'.tmps) hR'.st (fun t p hp=>(hR'.fr t p hp).2) hres hps
  refine ⟨vv,hrun, ?_⟩
  obtain ⟨hbool,hval,hbx,hnw⟩:=hro
  simp only [Bool.and_eq_true] at hbool
  obtain ⟨⟨⟨⟨⟨⟨b1,b2⟩,b3⟩,b4⟩,b5⟩,b6⟩,b7⟩:=hbool
  have d1:=noDup_iff b1
  have d2:=allGe_iff b2
  have d3:=Nat.eq_of_beq_eq_true b3
  have d4:=Nat.le_of_ble_eq_true b4
  obtain ⟨d5,d6⟩:=leNew_get hnw
  have hdom:∀r,(r<(nbx bs)∨(newBase≤r∧r<newBase+c.news.length))→∃e,resSt c r=some e:=fun r hr=>by
   unfold resSt
   rcases hr with hr | ⟨hr,hr'⟩
   ·rw [if_neg (by omega)];exact ⟨_,List.getElem?_eq_getElem (by omega)⟩
   ·rw [if_pos hr];exact ⟨_,List.getElem?_eq_getElem (by omega)⟩
  have hre1:∀r,newBase≤r→reN ids r=ids.getD (r - newBase) 0:=fun r hr=>by unfold reN;rw [Nat.ble_eq_true_of_le hr]
  have hre2:∀r,r<newBase→reN ids r=r:=fun r hr=>by
   unfold reN
   have:Nat.ble newBase r=false:=by rw [Bool.eq_false_iff];intro hh;have:=Nat.le_of_ble_eq_true hh;omega
   rw [this]
  have hcases:∀r e',resSt c r=some e'→(r<(nbx bs)∧c.st[r]? =some e'∧reN ids r=r)∨(newBase≤r∧c.news[r - newBase]? =some e'∧ids[r - newBase]? =some (reN ids r)):=fun r e' hr=>by
   unfold resSt at hr
   split at hr
   ·rename_i hb
    right
    refine ⟨hb,hr, ?_⟩
    have hlt:=(List.getElem?_eq_some_iff.1 hr).1
    rw [hre1 r hb]
    have:r - newBase<ids.length:=by omega
    simp [List.getD_eq_getElem?_getD,this]
   ·rename_i hb
    left
    exact ⟨by rw [←d3];exact (List.getElem?_eq_some_iff.1 hr).1,hr,hre2 r (by omega)⟩
  have hcl:∀e',(e'∈c.st∨e'∈c.news)→∀q∈e'.ids,∃e2,resSt c q=some e2:=fun e' hm q hq=>by
   rcases hm with hm | hm
   ·exact hdom q (inResS_iff b6 e' hm q hq)
   ·exact hdom q (inResS_iff b7 e' hm q hq)
  have hmem:∀k r,ids[k]? =some r→elemB r ids=true:=fun k r hk=>elemB_iff.2 (List.mem_of_getElem? hk)
  obtain ⟨h1,h2,h3⟩:=hR'.st.ent (st':=resSt c) (ρ:=reN ids) (kp:=kpR (nbx bs) ids) (fun r ge b hg hk hb=>by
   rcases hR'.own r ge b hg hb with h4 | ⟨h4,_⟩
   ·exact h4
   ·have h5:Nat.blt r (nbx bs)=true:=by rw [Nat.blt_eq];exact h4
    unfold kpR at hk
    rw [h5] at hk;cases hk) (fun r e' hr=>by
    rcases hcases r e' hr with ⟨k1,k2,k3⟩ | ⟨k1,k2,k3⟩
    ·obtain ⟨e,g1,g2⟩:=leBox_get hbx r e' k2
     rw [Nat.zero_add] at g1
     refine ⟨e,by rw [k3];exact g1,g2, ?_,hcl e' (.inl (List.mem_of_getElem? k2))⟩
     rw [k3];unfold kpR
     have:Nat.blt r (nbx bs)=true:=by rw [Nat.blt_eq];exact k1
     rw [this]
    ·obtain ⟨r',e,g1,g2,g3⟩:=d6 _ e' k2
     rw [k3] at g1;injection g1 with g1;subst g1
     refine ⟨e,g2,g3, ?_,hcl e' (.inr (List.mem_of_getElem? k2))⟩
     unfold kpR
     split
     ·rfl
     ·exact hmem _ _ k3)
   (fun r r' e e' hr hr' hh=>by
    rcases hcases r e hr with ⟨k1,k2,k3⟩ | ⟨k1,k2,k3⟩<;>rcases hcases r' e' hr' with ⟨k1',k2',k3'⟩ | ⟨k1',k2',k3'⟩
    ·omega
    ·have:=d2 _ (List.mem_of_getElem? k3');omega
    ·have:=d2 _ (List.mem_of_getElem? k3);omega
    ·have hi:=(List.getElem?_inj (List.getElem?_eq_some_iff.1 k3).1 d1).1 (k3.trans (by rw [hh];exact k3'.symm))
     omega)
  refine ⟨_,_,rfl,h3 _ _ _ hrv hval (fun r hr=>hdom r (inRes_iff b5 r hr)),h1,hR'.keeps,fun r hr=> ?_,fun r ge b hg hb=> ?_⟩
  ·rw [parN_of d3] at hr
   refine ParOK.r ?_ fun τ e1 z n f hrow=> ?_
   rotate_left
   ·rcases hcases r _ hrow with ⟨k1,k2,k3⟩ | ⟨k1,_,_⟩
    ·obtain ⟨e,g1,g2⟩:=leBox_get hbx r _ k2
     rw [Nat.zero_add] at g1
     cases e with
     | row _ _ _ _ _=>
       have:=(hR'.pr r _ _ _ _ _ hr g1).1
       omega
     | box _=>simp [SLe,SE.ren] at g2
     | bld _ _ _=>simp [SLe,SE.ren] at g2
    ·omega
   obtain ⟨e',he'⟩:=hdom r (.inl hr)
   have hp:=hR'.par r hr
   have hre:reG γ' (resSt c) (reN ids) r=γ' r:=by unfold reG;rw [he',hre2 r (by omega)];rfl
   rw [he',hre]
   rcases hcases r e' he' with ⟨k1,k2,k3⟩ | ⟨k1,_,_⟩
   ·obtain ⟨e,g1,g2⟩:=leBox_get hbx r e' k2
    rw [Nat.zero_add] at g1
    replace hp:ParOK (γ' r) (γ r) (some e):=by rw [←g1];exact hp
    cases e with
    | box l=>
      cases e' with
      | box l'=>exact hp
      | row _ _ _ _ _=>simp [SLe,SE.ren] at g2
      | bld _ _ _=>simp [SLe,SE.ren] at g2
    | row _ _ _ _ _=>
      cases e' with
      | box l'=>simp [SLe,SE.ren] at g2
      | row _ _ _ _ _=>exact hp
      | bld _ _ _=>simp [SLe,SE.ren] at g2
    | bld _ _ _=>
      cases e' with
      | box l'=>simp [SLe,SE.ren] at g2
      | row _ _ _ _ _=>simp [SLe,SE.ren] at g2
      | bld _ _ _=>exact hp
   ·omega
  ·have hsome:(∃e',resSt c r=some e')∧γ' (reN ids r)=some ge:=by
     unfold reG at hg
     split at hg
     ·rename_i hs;exact ⟨Option.isSome_iff_exists.1 hs,hg⟩
     ·cases hg
   obtain ⟨⟨e',he'⟩,hg2⟩:=hsome
   rcases hR'.own (reN ids r) ge b hg2 hb with (h | ⟨r0,g0,h1,h2,_⟩) | ⟨h4,ge0,h5,h6⟩
   ·exact .inl h
   ·rcases nbx_or bs with hn | hn
    ·have hr0:r0<nbx bs:=by rw [hn];exact hγ0 r0 g0 h1
     have hp:=hR'.par r0 hr0
     have hblk:∃ge1,γ' r0=some ge1∧ge1.blk=some b:=by
      have h1':γ r0=some g0:=h1
      simp only at hp
      cases hs:st r0 with
      | none=>rw [hs] at hp;exact hp.elim
      | some e0=>
        rw [hs] at hp
        cases e0 with
        | box l=>
          have hp:γ' r0=γ r0:=hp
          exact ⟨g0,hp.trans h1',h2⟩
        | row _ _ _ _ _=>
          obtain ⟨ge1,ge2,q1,q2,q3,_⟩:=hp
          rw [h1'] at q2;injection q2 with q2;subst q2
          exact ⟨ge1,q1,q3.trans h2⟩
        | bld _ _ _=>
          obtain ⟨ge1,ge2,q1,q2,q3,_⟩:=hp
          rw [h1'] at q2;injection q2 with q2;subst q2
          exact ⟨ge1,q1,q3.trans h2⟩
     obtain ⟨ge1,k1,k2⟩:=hblk
     have hq:=hR'.st.inj (reN ids r) r0 ge ge1 b hg2 k1 hb (.inl k2)
     rcases hcases r e' he' with ⟨q1,q2,q3⟩ | ⟨q1,q2,q3⟩
     ·rw [q3] at hq;subst hq
      exact .inr (.inr ⟨g0,h1, .inl h2⟩)
     ·have:=d2 _ (List.mem_of_getElem? q3)
      omega
    ·exact .inr (.inl ⟨hn,r0,g0,h1, .inl h2⟩)
   ·rcases hcases r e' he' with ⟨k1,k2,k3⟩ | ⟨k1,k2,k3⟩
    ·rw [k3] at h5;exact .inr (.inr ⟨ge0,h5,h6⟩)
    ·have:=d2 _ (List.mem_of_getElem? k3)
     have h4':reN ids r<(nbx bs):=h4
     omega
theorem rel_start {bs:List SE} {args:List PV} {vals:List Value} {w:World} {γ:Gh} {aas ls:Nat→Prop} {n nt:Nat} (hst:RepSt ⟨w.heap.size,aas,ls,nbx bs,γ, []⟩ γ w (fun r=>bs[r]?)) (hX:∀b,aas b∨ls b→b<w.heap.size)
  (hargs:RepL ⟨w.heap.size,aas,ls,nbx bs,γ, []⟩ γ w args vals) (hn:args.length+(nt - args.length)=n) (hbox:okBs bs=true):
  Rel ⟨w.heap.size,aas,ls,(nbx bs),γ, []⟩ w γ.own { tmps:=vals.toArray++Array.replicate (nt - vals.toArray.size) undef,defers:= [] } w (St n (argF 0 args) (boxF 0 bs)) γ:=by
 have hsz:vals.toArray.size=args.length:=by simpa using hargs.1
 have hstf:(fun r=>bs[r]?)=stL (boxF 0 bs):=by funext r;rw [boxF_get];simp
 have hltb:∀r ge,γ r=some ge→r<bs.length:=fun r ge hr=>by
  have hd:=hst.dom r
  rw [hr] at hd
  obtain ⟨e,he⟩:=Option.isSome_iff_exists.1 hd.symm
  exact (List.getElem?_eq_some_iff.1 he).1
 refine ⟨by simp only [Array.size_append,Array.size_replicate,hsz,St];exact hn,rfl,fun t p hp=> ?_,by rw [hstf] at hst;exact hst,Keeps.refl _ _,rfl,fun r ge b hr hb=>(okBs_iff hbox).elim (fun h=> .inr ⟨by rw [h.1];exact hltb r ge hr,ge,hr,hb⟩) (fun h=> .inl (.inr ?_)),fun b hb=>⟨hX b hb,fun ho=> ?_⟩,fun r hr=> ?_,fun r ge b hg hb=>⟨r,ge,hg,hb⟩,fun r e hr hf=> ?_,fun r τ e z n f hr hs=> ?_⟩
 rotate_right
 ·have hs:stL (boxF 0 bs) r=some (.row τ e z n f):=hs
  rw [←hstf] at hs
  rcases okBs_iff hbox with h | h
  ·exact h.2 r τ e z n f hs
  ·have hr':r<nbx bs:=hr
   omega
 rotate_right
 ·have hd:=hst.dom r
  have hr2:stL (boxF 0 bs) r=some e:=hr
  rw [←hstf] at hr2
  simp only at hr2 hd
  rw [hr2] at hd
  obtain ⟨ge,hge⟩:=Option.isSome_iff_exists.1 hd
  exact ⟨ge,ge,hge,hge,rfl⟩
 ·obtain ⟨_,h1⟩:=argF_get args 0 t p hp
  rw [Nat.sub_zero] at h1
  have hlt:=(List.getElem?_eq_some_iff.1 h1).1
  obtain ⟨u,hu,hr⟩:=hargs.at h1
  refine ⟨by simp only [St];omega, ?_⟩
  have:(vals.toArray++Array.replicate (nt - vals.toArray.size) undef).getD t undef=u:=by
   have ht:t<vals.length:=by rw [hargs.1];exact hlt
   rw [Array.getD_eq_getD_getElem?,Array.getElem?_append_left (by simpa using ht)]
   simp [hu]
  simp only [this];exact hr
 ·have hd:=hst.dom r
  have hr1:=hltb r ge hr
  have h1:bs[r]? =some (bs[r]'hr1):=List.getElem?_eq_getElem hr1
  have h2:=h.2 _ (List.getElem_mem hr1)
  have h3:=hst.at_ r ge _ hr h1
  refine ⟨r,ge,hr, ?_⟩
  cases hc:bs[r] with
  | box l=>rw [hc] at h2;cases h2
  | bld _ _ _=>rw [hc] at h2;cases h2
  | row _ _ _ _ _=>
    rw [hc] at h3
    obtain ⟨_,_,hbl,_⟩:=h3
    have:=(GE.has_row hbl).1 hb
    exact ⟨this,by rw [←hbl];exact this⟩
 ·obtain ⟨h1,h2⟩:=hst.asOff b ho
  exact hb.elim h1 h2
 ·have hr:r<bs.length:=by
    have hr':r<(nbx bs):=hr
    rcases nbx_or bs with h | h<;>omega
  have h1:bs[r]? =some (bs[r]'hr):=List.getElem?_eq_getElem hr
  simp only [St,boxF_get,Nat.zero_le,if_true,Nat.sub_zero,h1]
  cases hc:bs[r] with
  | box l=>rfl
  | row _ _ _ _ _=>
    have hd:=hst.dom r
    rw [h1] at hd
    obtain ⟨ge,hge⟩:=Option.isSome_iff_exists.1 hd
    exact ⟨ge,ge,hge,hge,rfl,rfl⟩
  | bld _ _ _=>
    have hd:=hst.dom r
    rw [h1] at hd
    obtain ⟨ge,hge⟩:=Option.isSome_iff_exists.1 hd
    exact ⟨ge,ge,hge,hge,rfl,rfl⟩
theorem pure_body {f:FuncId} {fn:Func} {cc:C} {args:List PV} {bs:List SE} {c:CallRes} {rs:List RV} {n:Nat} (hmix:P.follows .mixedOrders=true)
  (hf:P.funcs[f]? =some fn) (hfits:fits P wr fn args.length n rs=some cc.er) (hbox:okBs bs=true)
  (h:vc (PureCall P) (LSem P wr (nbx bs)) cc (Fin rs (nbx bs) c) (St n (argF 0 args) (boxF 0 bs))):PureBody P f args bs c:=by
 have hparts:∃code,fn.body=some code∧mapO (compR P) fn.results.toList=some rs∧args.length+(fn.ntmps - args.length)=n∧(fn.name== "runtime.NumGoroutine")=false∧comp P wr code=some cc.er:=by
  unfold fits at hfits
  split at hfits
  ·rename_i code rs' h1 h2
   split at hfits
   ·rename_i hc
    obtain ⟨rfl,hc2,hc3⟩:=hc
    exact ⟨code,h1,h2,hc2,hc3,hfits⟩
   ·cases hfits
  ·cases hfits
 obtain ⟨code,hb,hres,hn,hnm,hcomp⟩:=hparts
 refine ⟨⟨fn,hf,by rw [hb];rfl,hnm⟩, ?_⟩
 intro w γ aas ls vals hst hX hargs
 refine ⟨fn,code,hf,hb, ?_⟩
 have hR:=rel_start (n:=n) hst hX hargs hn hbox
 have hγ0:∀r ge,γ r=some ge→r<bs.length:=fun r ge hr=>by
  have hd:=hst.dom r
  rw [hr] at hd
  obtain ⟨e,he⟩:=Option.isSome_iff_exists.1 hd.symm
  exact (List.getElem?_eq_some_iff.1 he).1
 have hfinOk:∀lv s,Fin rs (nbx bs) c lv s→s.ok:=fun lv s hs=>by cases lv<;>first | exact hs.1 | exact hs.elim
 refine wp_mono ((vc_sound hmix cc code _ _ hfinOk hcomp h).2 _ _ _ _ _ _ rfl hR) ?_
 rintro e a' w' ⟨lv,s',γ',he,hq,hR'⟩
 cases e
 ·cases he;exact ⟨hR'.defers,res_key hres hR' hγ0 hq.2⟩
 ·obtain ⟨hb,rfl⟩:=lvOf_exit he;exact hq.elim
 ·cases he;exact hq.elim
 ·cases he;exact ⟨hR'.defers,res_key hres hR' hγ0 hq.2⟩
 ·cases he
 ·cases he
theorem pure_call {f:FuncId} {fn:Func} {cc:C} {args:List PV} {bs:List SE} {c:CallRes} {rs:List RV} {n:Nat} (hmix:P.follows .mixedOrders=true)
  (hf:P.funcs[f]? =some fn) (hfits:fits P wr fn args.length n rs=some cc.er) (hbox:okBs bs=true)
  (h:vc (PureCall P) (LSem P wr (nbx bs)) cc (Fin rs (nbx bs) c) (St n (argF 0 args) (boxF 0 bs))):PureCall P f args bs c:=
 (pure_body hmix hf hfits hbox h).call
theorem Rep.to2A {X:Cx} {γ γ':Gh} {w:World} {p:PV} {v:Value} (h:Rep X γ w p v) (ho:∀b,γ'.own b→γ.own b):(p.flat=true∨∃τ cs,p= .rp τ cs)→Rep X γ' w (p.mark 2) v:=by
 have hlie:∀τ b,mayLie X γ τ b→mayLie X γ' 2 b:=fun τ b hm=>⟨fun hb=>hm.1 (ho b hb),hm.2.imp id (Or.imp (fun h=>⟨by omega,h.2⟩) (fun h=>⟨Nat.le_refl _,h.2⟩))⟩
 induction h with
 | int k n=>intro _;exact .int k n
 | bool b=>intro _;exact .bool b
 | str s=>intro _;exact .str s
 | sl τ z n f ad cap vs hcap hz hf hb h ih=>
   intro _
   refine .sl 2 z n f ad cap vs hcap hz hf (fun hn=> ?_) (fun i j c hi hc=> ?_)
   ·obtain ⟨a,rfl,hm,hlt,hc⟩:=hb hn
    exact ⟨a,rfl,hlie _ _ hm,hlt,fun k hk=>cellT_pos (by decide) (cellT_cell (hc k hk))⟩
   ·have:=ih i j c hi hc (.inl (flat_mark (hf i hi c (List.mem_of_getElem? hc)) τ))
    rwa [mark_mark] at this
 | rp τ cs a vs hf hb hc h ih=>
   intro _
   refine .rp 2 cs a vs hf (fun hn=> ?_) (fun k hk=>cellT_pos (by decide) (cellT_cell (hc k hk))) (fun k c hk=> ?_)
   ·obtain ⟨h1,h2⟩:=hb hn
    exact ⟨hlie _ _ h1,h2⟩
   ·have:=ih k c hk (.inl (flat_mark (hf c (List.mem_of_getElem? hk)) τ))
    rwa [mark_mark] at this
 | fn f first caps vs us hl hl' h h' ih ih'=>
   intro hf
   have hf:(PV.fn f first caps).flat=true:=by
    rcases hf with hf | ⟨_,_,hf⟩
    ·exact hf
    ·cases hf
   obtain ⟨rfl,hb⟩:=flat_fn hf
   refine .fn f [] _ vs us hl (by rw [rpMarks_len];exact hl') (fun k c u hk=>by simp at hk) fun k c u hk hu=> ?_
   rw [rpMarks_get] at hk
   obtain ⟨c0,h0,rfl⟩:=Option.map_eq_some_iff.1 hk
   obtain ⟨τ0,cs0,rfl⟩:=allRp_get hb k c0 h0
   exact ih' k _ u h0 hu (.inr ⟨_,_,rfl⟩)
 | _=>
   intro hf
   rcases hf with hf | ⟨_,_,hf⟩
   ·simp [PV.flat] at hf
   ·cases hf
theorem plain_mark {c:PV} (h:c.plain=true) (τ:Nat):c.mark τ=c:=by cases c<;>first | rfl | simp [PV.plain] at h
def FinW (e:TypeId) (z n:Nat) (f':Nat→List PV) (lv:Lv) (s:PS):Prop:=match lv with
 | .ex _=>False
 | _=>s.ok∧match s with
   | ⟨_,_,st,_,_⟩=>match st 0 with
     | some (.row τ e2 z2 n2 f2)=>Nat.ble 3 τ=true∧e2=e∧z2=z∧n2=n∧RowEq n f2 f'
     | _=>False
theorem pure_write {f:FuncId} {fn:Func} {cc:C} {args:List PV} {n e z m τ':Nat} {f0 f':Nat→List PV} (hmix:P.follows .mixedOrders=true)
  (hf:P.funcs[f]? =some fn) (hfits:fits P wr fn args.length n []=some cc.er) (hτ:τ'=2∨∀i,i<m→∀c∈f' i,PV.plain c=true)
  (h:vc (PureCall P) (LSem P wr 0) cc (FinW e z m f') (St n (argF 0 args) [(0, .row 3 e z m f0)])):PureCall P f args [.row 3 e z m f0] ⟨.tup [], [.row τ' e z m f'], []⟩:=by
 have hparts:∃code,fn.body=some code∧mapO (compR P) fn.results.toList=some []∧args.length+(fn.ntmps - args.length)=n∧(fn.name== "runtime.NumGoroutine")=false∧comp P wr code=some cc.er:=by
  unfold fits at hfits
  split at hfits
  ·rename_i code rs' h1 h2
   split at hfits
   ·rename_i hc
    obtain ⟨rfl,hc2,hc3⟩:=hc
    exact ⟨code,h1,h2,hc2,hc3,hfits⟩
   ·cases hfits
  ·cases hfits
 obtain ⟨code,hb,hres,hn,hnm,hcomp⟩:=hparts
 refine ⟨⟨fn,hf,by rw [hb];rfl,hnm⟩, ?_⟩
 intro w γ aas ls vals hst hX hargs
 refine calls_of_wp hf hb ?_
 have hR:=rel_start (bs:= [.row 3 e z m f0]) (n:=n) hst hX hargs hn rfl
 have hfinOk:∀lv s,FinW e z m f' lv s→s.ok:=fun lv s hs=>by cases lv<;>first | exact hs.1 | exact hs.elim
 have key:∀(a':Act) (w':World) (s':PS) (γ':Gh) (lv:Lv),FinW e z m f' lv s'→Rel ⟨w.heap.size,aas,ls,nbx [.row 3 e z m f0],γ, []⟩ w γ.own a' w' s' γ'→
   ∃v,(results fn a'.tmps).run P w'= .ok v w'∧∃v' γ'',Ending.returned v= .returned v'∧Rep ⟨w.heap.size,aas,ls,nbx [SE.row 3 e z m f0],γ, []⟩ γ'' w' (.tup []) v'∧RepSt ⟨w.heap.size,aas,ls,nbx [SE.row 3 e z m f0],γ, []⟩ γ'' w' (resSt ⟨.tup [], [.row τ' e z m f'], []⟩)∧
    Keeps γ.own w w'∧(∀r,r<parN [SE.row 3 e z m f0] ⟨.tup [], [.row τ' e z m f'], []⟩→ParR r (γ'' r) (γ r) (resSt ⟨.tup [], [.row τ' e z m f'], []⟩ r))∧
    (∀r ge b,γ'' r=some ge→ge.has b→w.heap.size≤b∨(nbx [SE.row 3 e z m f0]=0∧γ.own b)∨∃ge0,γ r=some ge0∧ge0.has b):=by
  intro a' w' s' γ' lv hfin hR'
  obtain ⟨n',fr,st,ok,log⟩:=s'
  have hfin2:∃τ1 f2,st 0=some (.row τ1 e z m f2)∧3≤τ1∧RowEq m f2 f':=by
   have h2:match st 0 with
     | some (.row τ e2 z2 n2 f2)=>Nat.ble 3 τ=true∧e2=e∧z2=z∧n2=m∧RowEq m f2 f'
     | _=>False:=by
    cases lv<;>first | exact hfin.2 | exact hfin.elim
   split at h2
   ·rename_i τ1 e2 z2 n2 f2 hs
    obtain ⟨k1,rfl,rfl,rfl,k2⟩:=h2
    exact ⟨τ1,f2,hs,Nat.le_of_ble_eq_true k1,k2⟩
   ·exact h2.elim
  obtain ⟨τ1,f2,hs0,h3,hrw⟩:=hfin2
  obtain ⟨v,hrun,hrv⟩:=run_results (P:=P) (tmps:=a'.tmps) (fn:=fn) (ps:= []) hR'.st (fun t p hp=>(hR'.fr t p hp).2) hres rfl
  obtain ⟨ge,ge0,q1,q2,q3⟩:=hR'.fx 0 _ hs0 (Nat.ble_eq_true_of_le h3)
  have q2:γ 0=some ge0:=q2
  obtain ⟨vs1,k1,k2,k3,k4,k5,k6,k7,k8⟩:=hR'.st.at_ 0 ge _ q1 hs0
  obtain ⟨vs0,m1,m2,_⟩:=hst.at_ 0 ge0 _ q2 rfl
  have hgg:ge=ge0:=by
   have hb1:ge.blk=ge0.blk:=by rw [k2,m2,q3]
   have hz1:ge.z=ge0.z:=by rw [k1,m1]
   cases ge;cases ge0
   simp only at hb1 hz1 q3
   subst hb1 hz1 q3;rfl
  subst hgg
  let γ'':Gh:=fun k=>if k=0 then some ge else none
  have hγ'':∀k g,γ'' k=some g→k=0∧g=ge:=fun k g hk=>by
   by_cases h0:k=0
   ·refine ⟨h0, ?_⟩;simp [γ'',h0] at hk;exact hk.symm
   ·simp [γ'',h0] at hk
  have hown:∀b,γ''.own b→γ'.own b:=fun b ⟨k,g,hk,hb⟩=>by
   obtain ⟨_,rfl⟩:=hγ'' k g hk;exact ⟨0,g,q1,hb⟩
  have hrs:∀k e',resSt ⟨.tup [], [.row τ' e z m f'], []⟩ k=some e'→k=0∧e'= .row τ' e z m f':=fun k e' hk=>by
   unfold resSt at hk
   split at hk
   ·simp at hk
   ·cases k with
    | zero=>simp only [List.getElem?_cons_zero,Option.some.injEq] at hk;exact ⟨rfl,hk.symm⟩
    | succ k=>simp at hk
  refine ⟨v,hrun,v,γ'',rfl, ?_,⟨fun k=> ?_,fun k g e' hg he=> ?_,fun k k' g g' b hg hg' _ _=> ?_,fun b hb=>hR'.st.asOff b (hown b hb),fun b hb=>hR'.st.lt b (hown b hb),fun b p hp=>⟨(hR'.st.glob b p hp).1,fun hb=>(hR'.st.glob b p hp).2.1 (hown b hb),(hR'.st.glob b p hp).2.2⟩⟩,hR'.keeps,fun r hr=> ?_,fun r g b hg hb=> ?_⟩
  ·obtain ⟨us,e1,e2⟩:=Rep.tup_inv (cs:= []) hrv
   rw [e1,e2.nil_inv]
   exact .tup [] [] rfl (fun k c u h=>by simp at h)
  ·by_cases h0:k=0
   ·subst h0;rfl
   ·have:resSt ⟨.tup [], [.row τ' e z m f'], []⟩ k=none:=by
      cases hh:resSt ⟨.tup [], [.row τ' e z m f'], []⟩ k with
      | none=>rfl
      | some e'=>exact absurd (hrs k e' hh).1 h0
    rw [this];simp [γ'',h0]
  ·obtain ⟨rfl,rfl⟩:=hγ'' k g hg
   obtain ⟨_,rfl⟩:=hrs 0 e' he
   refine ⟨vs1,k1,k2,k3,k4,k5,fun i hi=>by rw [←hrw i hi];exact k6 i hi,fun i hi c hc=>k7 i hi c (by rw [hrw i hi];exact hc),fun i j c u hi hc hu=> ?_⟩
   have hc0:=hc
   rw [←hrw i hi] at hc
   have hfl:=k7 i hi c (List.mem_of_getElem? hc)
   have h9:=k8 i j c u hi hc hu
   rcases hτ with rfl | hpl
   ·have:=h9.to2A hown (.inl (flat_mark hfl τ1))
    rwa [mark_mark] at this
   ·have hp:=hpl i hi c (List.mem_of_getElem? hc0)
    rw [plain_mark hp] at h9⊢
    exact h9.own_less hown hfl
  ·rw [(hγ'' k g hg).1,(hγ'' k' g' hg').1]
  ·have hr0:r=0:=by
     have:r<1:=hr
     omega
   subst hr0
   exact ⟨fun _=>by rw [q2];rfl,ge,ge,rfl,q2,rfl,rfl⟩
  ·obtain ⟨rfl,rfl⟩:=hγ'' r g hg
   exact .inr (.inl ⟨rfl,0,g,q2,hb⟩)
 refine wp_mono ((vc_sound hmix cc code _ _ hfinOk hcomp h).2 _ _ _ _ _ _ rfl hR) ?_
 rintro e1 a' w' ⟨lv,s',γ',he,hq,hR'⟩
 cases e1
 ·cases he;exact ⟨hR'.defers,key a' w' s' γ' _ hq hR'⟩
 ·obtain ⟨hb,rfl⟩:=lvOf_exit he;exact hq.elim
 ·cases he;exact hq.elim
 ·cases he;exact ⟨hR'.defers,key a' w' s' γ' _ hq hR'⟩
 ·cases he
 ·cases he
end
def mx (a b:Int):Int:=if b>a then b else a
def mn (a b:Int):Int:=if b<a then b else a
theorem inR64 (n:Int):inR .i64 n↔ -9223372036854775808≤n∧n≤9223372036854775807:=by
 unfold inR;simp [IntKind.min,IntKind.max,IntKind.signed,IntKind.bits]
theorem inR64_of {n:Int} (h1: -9223372036854775808≤n) (h2:n≤9223372036854775807):inR .i64 n:=(inR64 n).2 ⟨h1,h2⟩
theorem mul_rng {a b A B:Int} (h0:0≤a) (h1:a≤A) (h2:0≤b) (h3:b≤B):0≤a*b∧a*b≤A*B:=
 ⟨Int.mul_nonneg h0 h2,Int.mul_le_mul h1 h3 h2 (by omega)⟩
def fl {α:Type} [Inhabited α] (e:α→List PV) (l:List α):Nat→List PV:=fun i=>e (l.getD i default)
theorem fl_append {α:Type} [Inhabited α] (e:α→List PV) (l l':List α):RowEq (l.length+l'.length) (appF l.length (fl e l) (fl e l')) (fl e (l++l')):=fun i hi=>by
 unfold appF fl
 split
 ·rename_i h;rw [List.getD_eq_getElem?_getD,List.getD_eq_getElem?_getD,List.getElem?_append_left h]
 ·rename_i h;rw [List.getD_eq_getElem?_getD,List.getD_eq_getElem?_getD,List.getElem?_append_right (by omega)]
theorem fl_push {α:Type} [Inhabited α] (e:α→List PV) (l:List α) (x:α):RowEq (l.length+1) (appF l.length (fl e l) (fun i=> [e x].getD i [])) (fl e (l++ [x])):=fun i hi=>by
 have:=fl_append e l [x] i (by simpa using hi)
 rw [←this]
 unfold appF
 split
 ·rfl
 ·rename_i h
  have:i - l.length=0:=by omega
  simp [this,fl]
theorem leF_cons {fr:Nat→Option PV} {st:Nat→Option SE} {kp:Nat→Bool} {t:Nat} {p p':PV} {l:List (Nat×PV)} (h:fr t=some p) (h1:PLe st kp p p') (h2:leF fr st kp l):leF fr st kp ((t,p')::l):=
 ⟨by rw [h];exact h1,h2⟩
theorem leS_cons {st:Nat→Option SE} {kp:Nat→Bool} {t:Nat} {p p':SE} {l:List (Nat×SE)} (h:st t=some p) (h1:SLe st kp p p') (h2:leS st kp l):leS st kp ((t,p')::l):=
 ⟨by rw [h];exact h1,h2⟩
theorem getD_mem {α:Type} [Inhabited α] {l:List α} {i:Nat} (h:i<l.length):l.getD i default∈l:=by
 rw [List.getD_eq_getElem?_getD,List.getElem?_eq_getElem h];exact List.getElem_mem h
theorem getD_some {α:Type} [Inhabited α] {l:List α} {i:Nat} (h:i<l.length):l[i]? =some (l.getD i default):=by
 rw [List.getD_eq_getElem?_getD,List.getElem?_eq_getElem h];rfl
theorem PureCall.arg_le {P:Program} {f:FuncId} {args args':List PV} {bs:List SE} {c:CallRes} (h:PureCall P f args' bs c) (hb:bs.any SE.isRow=false) (hl:PLeL (fun r=>bs[r]?) (fun _=>true) args args'):PureCall P f args bs c:=by
 refine ⟨h.1,fun w γ aas ls vals hst hX ha=>h.2 w γ aas ls vals hst hX ?_⟩
 exact ha.le hst (fun r ge b _ hk _=>by cases hk) (fun r ge hr _=>hr) (fun r ge hr=>⟨hr,rfl⟩) hl
def scan (f:Nat→Int):Nat→Nat→Int
 | _,0=>0
 | i,n+1=>if f i≠0 then f i else scan f (i+1) n
theorem scan_zero {f:Nat→Int}:∀{i n:Nat},scan f i n=0→∀k,i≤k→k<i+n→f k=0
 | i,0,_,k,h1,h2=>by omega
 | i,n+1,h,k,h1,h2=>by
   simp only [scan] at h
   split at h
   ·rename_i hf;exact absurd h hf
   ·rename_i hf
    by_cases hk:k=i
    ·subst hk;exact Classical.not_not.1 hf
    ·exact scan_zero h k (by omega) (by omega)
theorem scan_hit {f:Nat→Int} {i n:Nat} (hn:0<n) (h:f i≠0):scan f i n=f i:=by
 cases n with
 | zero=>omega
 | succ n=>simp [scan,h]
theorem scan_step {f:Nat→Int} {i n:Nat} (hn:0<n) (h:f i=0):scan f i n=scan f (i+1) (n - 1):=by
 cases n with
 | zero=>omega
 | succ n=>simp [scan,h]
theorem rowEq0 (f f':Nat→List PV):RowEq 0 f f':=fun i hi=>absurd hi (Nat.not_lt_zero i)
theorem maxLen_ge {n:Nat} (h:n≤4611686018427387904):n≤maxLen:=Nat.le_trans h (by decide)
theorem g0 {P:Prop} (h:P:=by
 (try conv=>whnf)
 (repeat' (first | exact True.intro | exact fun _ h=>h | refine inR64_of ?_ ?_ | apply And.intro | refine maxLen_ge ?_))<;>(first | omega | decide | (dsimp only;omega) | (dsimp only [List.length_cons,List.length_nil];omega) | (intro hg;rw [hg];rfl) | (intro hg hh;rw [hg,hh];rfl) | (intro hg;simp [-List.getD_eq_getElem?_getD, -Int.default_eq_zero] at hg;first | omega | (refine inR64_of ?_ ?_<;>omega) | (constructor<;>omega)) | (simp [-List.getD_eq_getElem?_getD, -Int.default_eq_zero];done))):P:=h
theorem g1 {P:Prop} (h:P:=by
 (repeat' (first | exact True.intro | exact fun _ h=>h | refine inR64_of ?_ ?_ | apply And.intro | refine maxLen_ge ?_))<;>(first | omega | assumption | (intro _;assumption) | (intro _;refine ⟨?_, ?_⟩<;>first | omega | decide | assumption) | decide | (dsimp only;omega) | (dsimp only [List.length_cons,List.length_nil];omega) | (intro _;omega) | (intro hg;simp [-List.getD_eq_getElem?_getD, -Int.default_eq_zero] at hg;first | omega | (refine inR64_of ?_ ?_<;>omega) | (constructor<;>omega)) | (simp [-List.getD_eq_getElem?_getD, -Int.default_eq_zero];done))):P:=h
theorem ent {P:Prop} (h:P:=by
 repeat' (first | exact True.intro | refine leF_cons rfl ?_ ?_ | refine leS_cons rfl ?_ ?_ | (show PLe _ _ _ _;conv=>whnf) | (show SLe _ _ _ _;conv=>whnf) | (show PLeL _ _ _ _;conv=>whnf) | apply And.intro | rfl | exact Nat.le_refl _ | exact fun _ _=>rfl | exact rowEq0 _ _ | exact fun _ _=>⟨rfl,rfl⟩ | assumption | omega | (dsimp only;omega) | (simp only [List.length_append,List.length_cons,List.length_nil];done) | (simp only [List.length_append,List.length_cons,List.length_nil];omega))):P:=h
theorem ret {P:Prop} (h:P:=by
 refine ⟨?_, [], ?_⟩
 ·exact g0
 conv=>whnf
 refine ⟨rfl, ?_,trivial,trivial⟩
 exact ent):P:=h
theorem retB {P:Prop} (h:P:=by
 refine ⟨?_, [], ?_⟩
 ·exact g0
 conv=>whnf
 refine ⟨rfl, ?_, ?_,trivial⟩<;>exact ent):P:=h
theorem bp:(∀{a b c:Bool},(bif a then b else c)=true↔(a=true∧b=true)∨(a=false∧c=true))∧(∀{a b c:Bool},(bif a then b else c)=false↔(a=true∧b=false)∨(a=false∧c=false))
  ∧(∀{p:Prop} [Decidable p],(decide p=true)=p)∧(∀{p:Prop} [Decidable p],(decide p=false)=¬p)∧(∀{b:Bool},((!b)=true)=(b=false))∧(∀{b:Bool},((!b)=false)=(b=true))
  ∧(∀{a b:Bool},((a&&b)=true)=(a=true∧b=true))∧(∀{a b:Bool},((a || b)=true)=(a=true∨b=true))∧(∀{a b:Bool},((a&&b)=false)=(a=false∨b=false))∧(∀{a b:Bool},((a || b)=false)=(a=false∧b=false))
  ∧(∀{a b:Int},((a==b)=true)=(a=b))∧(∀{a b:Int},((a != b)=true)=(a≠b))∧(∀{a b:Int},((a==b)=false)=(a≠b))∧(∀{a b:Int},((a != b)=false)=(a=b))
  ∧(∀{a b:List UInt8},((a==b)=true)=(a=b))∧(∀{a b:List UInt8},((a != b)=true)=(a≠b))∧(∀{a b:List UInt8},((a==b)=false)=(a≠b))∧(∀{a b:List UInt8},((a != b)=false)=(a=b))
  ∧((true=false)=False)∧((false=true)=False)∧((true=true)=True)∧((false=false)=True)∧(∀p:Prop,(False∧p)=False)∧(∀p:Prop,(p∧False)=False)∧(∀p:Prop,(True∧p)=p)∧(∀p:Prop,(p∧True)=p)
  ∧(∀p:Prop,(p∨False)=p)∧(∀p:Prop,(False∨p)=p)∧(∀p:Prop,(p∨True)=True)∧(∀p:Prop,(True∨p)=True)∧((¬True)=False)∧((¬False)=True)∧Int.toNat 0=0:=by
 refine ⟨?_, ?_, ?_, ?_, ?_, ?_, ?_, ?_, ?_, ?_, ?_, ?_, ?_, ?_, ?_, ?_, ?_, ?_, ?_, ?_, ?_, ?_, ?_, ?_, ?_, ?_, ?_, ?_, ?_, ?_, ?_, ?_,rfl⟩<;>intros<;>simp
 ·rename_i a b c;cases a<;>simp
 ·rename_i a b c;cases a<;>simp
 ·rename_i a b;cases a<;>cases b<;>simp
theorem mix:Tryz.prog.follows .mixedOrders=true:=by kernel_rfl
def c58:C:=(sr [kk 4 (.mv (cn 0))] (sr [km 5 0,km 6 1,kb 7 .rem 5 6,km 8 1,kb 9 .add 7 8,km 10 1,kb 11 .rem 9 10,km 4 11] .ret))
def c12:C:=(sr [kk 4 (.mv (cn 0))] (.seq (.seq (.drw [km 6 1,kb 7 .lss 6 (cn 1),km 8 7,kg 9 8 false (.mv 0),kg 10 8 false (.nc 9),kg 11 8 false (.fa 1 10),kg 12 8 false (.ld 1 false 11),kg 13 8 false (.mv 0),kg 14 8 false (.nc 13),kg 15 8 false (.fa 0 14),kg 16 8 false (.ld 1 false 15),kg 17 8 false (.len 16),kg 18 8 false (.bi false .geq 12 17),kk 19 (.pick 8 ct 18)] (pl [(3,[7,8,9,10,11],9),(4,[7,8,9,10,11],10),(5,[7,8,9,10,11],11),(6,[7,8,9,10,11],12)])) (.cond 19 (sr [kk 4 (.mv (cn 0))] .ret) .skip)) (.seq (.drw [km 20 0,kk 21 (.nc 20),kf 22 0 21,kl 23 22,km 24 0,kk 25 (.nc 24),kf 26 1 25,kl 27 26,ki 28 1 23 27,kl 29 28,km 5 29] (pl [(0,[4,5,6,7],20),(1,[4,5,6,7],21),(2,[4,5,6,7],22),(3,[4,5,6,7],23)])) (sr [km 30 0,kk 31 (.nc 30),kf 32 1 31,kl 33 32,kb 34 .add 33 (cn 1),kk 35 (.nc 30),kf 36 1 35,kx 1 36 34] (sr [km 37 5,km 38 1,kc 39 58 [37,38],km 4 39] .ret)))))
def c7:C:=(sr [kk 2 (.mv (.c (.raw (.pointer none))))] (sr [km 3 0,kk 4 (.bd [(.nil 1),z0] [(0,1,3)]),kk 5 (.bx 2 4),km 2 5] .ret))
theorem fits58:fits Tryz.prog false Tryz.f58 2 12 [(4,none)]=some c58.er:=by kernel_rfl
theorem fits12:fits Tryz.prog false Tryz.f12 2 40 [(4,none)]=some c12.er:=by kernel_rfl
theorem fits7:fits Tryz.prog false Tryz.f7 1 6 [(2,none)]=some c7.er:=by kernel_rfl
theorem bif_t {a b c:Bool}:(bif a then b else c)=true↔(a=true∧b=true)∨(a=false∧c=true):=by cases a<;>simp
theorem bif_f {a b c:Bool}:(bif a then b else c)=false↔(a=true∧b=false)∨(a=false∧c=false):=by cases a<;>simp
def eInt (n:Int):List PV:= [.int .i64 n]
theorem mod_mod (n k:Int) (hk:0<k):(n.tmod k+k).tmod k=n % k:=by
 have h1: -k<n.tmod k:=by
  have:=Int.lt_tmod_of_pos n hk;omega
 have h2:n.tmod k<k:=Int.tmod_lt_of_pos n hk
 rw [Int.tmod_eq_emod_of_nonneg (by omega),Int.add_emod_right]
 have:=Int.mul_tdiv_add_tmod n k
 rw [←this]
 rw [Int.add_comm (k*_),Int.add_mul_emod_self_left]
 congr 1
 rw [Int.add_comm,this]
theorem call_mod (n k:Int) (hk:0<k) (hk2:k≤4611686018427387904):PureCall Tryz.prog 58 [.int .i64 n, .int .i64 k] [] ⟨.int .i64 (n % k), [], []⟩:=by
 refine pure_call mix Tryz.func58 fits58 rfl ?_
 conv=>whnf
 have h1:=Int.lt_tmod_of_pos n hk
 have h2:=Int.tmod_lt_of_pos n hk
 refine ⟨?_, [], ?_⟩
 ·exact g0
 conv=>whnf
 refine ⟨rfl, ?_,trivial,trivial⟩
 all_goals repeat' (first | exact True.intro | refine leF_cons rfl ?_ ?_ | refine leS_cons rfl ?_ ?_ | (show PLe _ _ _ _;conv=>whnf) | (show SLe _ _ _ _;conv=>whnf) | (show PLeL _ _ _ _;conv=>whnf) | apply And.intro | rfl | exact Nat.le_refl _ | exact fun _ _=>rfl | exact rowEq0 _ _)
 exact mod_mod n k hk
structure Dk where
 l:List Int
 at_:Nat
 deriving Inhabited
def eDk (τ:Nat) (d:Dk):List PV:= [.sl τ 1 d.l.length (fl eInt d.l), .int .i64 d.at_]
def nxt (d:Dk) (n:Int):Int:=if n<1∨d.l.length≤d.at_ then 0 else d.l.getD d.at_ default % n
def nxtD (d:Dk) (n:Int):Dk:=if n<1∨d.l.length≤d.at_ then d else ⟨d.l,d.at_+1⟩
theorem nxtD_at (d:Dk) (n:Int):(nxtD d n).at_≤d.at_+1:=by unfold nxtD;split<;>simp
theorem nxt_rng (d:Dk) (n:Int):0≤nxt d n∧(nxt d n<n∨nxt d n=0):=by
 unfold nxt;split
 ·omega
 ·rename_i h
  have h1:0<n:=by omega
  exact ⟨Int.emod_nonneg _ (by omega), .inl (Int.emod_lt_of_pos _ h1)⟩
theorem nxt_lt (d:Dk) {n:Int} (h:0<n):0≤nxt d n∧nxt d n<n:=by
 have:=nxt_rng d n;omega
theorem call_next (τ:Nat) (d:Dk) (n:Int) (hd:d.at_≤1000000000) (hn:n≤4611686018427387904):PureCall Tryz.prog 12 [.pt 0 0 0, .int .i64 n] [.box (eDk τ d)] ⟨.int .i64 (nxt d n), [.box (eDk τ (nxtD d n))], []⟩:=by
 refine pure_call mix Tryz.func12 fits12 rfl ?_
 conv=>whnf
 refine ⟨rfl, ?_⟩
 conv=>whnf
 refine ⟨?_,fun hc=> ?_,fun hc=> ?_⟩
 ·exact g0
 ·simp [-List.getD_eq_getElem?_getD, -Int.default_eq_zero] at hc
  have hc':n<1∨d.l.length≤d.at_:=by omega
  rw [show nxt d n=0 from if_pos hc',show nxtD d n=d from if_pos hc']
  conv=>whnf
  refine ⟨?_, [], ?_⟩
  ·exact g0
  conv=>whnf
  refine ⟨rfl, ?_, ?_,trivial⟩
  all_goals exact ent
 ·simp [-List.getD_eq_getElem?_getD, -Int.default_eq_zero] at hc
  have hc':¬(n<1∨d.l.length≤d.at_):=by omega
  rw [show nxt d n=d.l.getD d.at_ default % n from if_neg hc',show nxtD d n=⟨d.l,d.at_+1⟩ from if_neg hc']
  conv=>whnf
  refine ⟨rfl, ?_⟩
  conv=>whnf
  refine ⟨_,fun _=>call_mod (d.l.getD ((d.at_:Int)).toNat default) n (by omega) hn, ?_⟩
  conv=>whnf
  refine ⟨?_, [], ?_⟩
  ·exact g0
  conv=>whnf
  refine ⟨rfl, ?_, ?_,trivial⟩
  all_goals exact ent
theorem call_new (τ:Nat) (l:List Int):PureCall Tryz.prog 7 [.sl τ 1 l.length (fl eInt l)] [] ⟨.pt 1000000000 0 0, [], [.box (eDk τ ⟨l,0⟩)]⟩:=by
 refine pure_call mix Tryz.func7 fits7 rfl ?_
 conv=>whnf
 refine ⟨trivial, [80], ?_⟩
 conv=>whnf
 refine ⟨rfl, ?_,trivial, ?_⟩
 all_goals exact ent
structure Cd where
 r:Int
 k:Int
 v:Int
 f:Int
 u:Int
 a:Int
 b:Int
 deriving DecidableEq
instance:Inhabited Cd:=⟨⟨0,0,0,0,0,0,0⟩⟩
def eCd (r:Cd):List PV:= [.int .i64 r.r, .int .i64 r.k, .int .i64 r.v, .int .i64 r.f, .int .i64 r.u, .int .i64 r.a, .int .i64 r.b]
def it {α:Type} (f:α→α):Nat→α→α
 | 0,s=>s
 | n+1,s=>it f n (f s)
def c216:C:=(sr [kk 4 (.mv cf)] (sr [km 5 0,kb 6 .geq 5 (cn 0),km 7 6,kg 8 7 true (.mv 0),kg 9 7 true (.mv 1),kg 10 7 true (.bi false .leq 8 9),kk 11 (.pick 7 10 cf),km 4 11] .ret))
theorem fits216:fits Tryz.prog false Tryz.f216 2 12 [(4,none)]=some c216.er:=by kernel_rfl
def c172:C:=(sr [kk 4 (.mv cf)] (sr [km 5 0,km 6 1,kc 7 216 [5,6],km 4 7] .ret))
theorem fits172:fits Tryz.prog false Tryz.f172 2 8 [(4,none)]=some c172.er:=by kernel_rfl
def c173L1:C:=(sr [kb 16 .lss 15 14] (.seq (.cond 16 .skip (.exit 0)) (.seq (.block 1 (sr [km 17 15,ki 18 2 13 15,kt 19 2 18,kk 4 (.al [z0,z0]),km 3 17,kx 2 4 19] (.seq (sr [kf 20 0 4,kl 21 20,kc 22 172 [21,(cn 1073741824)],kk 23 (.un false .not 22),km 24 23,kg 25 24 false (.fa 1 4),kg 26 24 false (.ld 1 false 25),kg 27 24 false (cl 172 [26,(cn 274877906944)]),kg 28 24 false (.un false .not 27),kk 29 (.pick 24 ct 28)] (.cond 29 (sr [kk 2 (.mv (cn 1))] .ret) .skip)) (.seq (sr [km 30 3,kb 31 .eql 30 (cn 0)] (.cond 31 (.exit 1) .skip)) (.seq (.drw [kf 32 0 4,kl 33 32,km 34 0,km 35 3,kb 36 .sub 35 (cn 1),ki 37 2 34 36,kf 38 0 37,kl 39 38,kb 40 .sub 33 39,kf 41 1 4,kl 42 41,km 43 0,km 44 3,kb 45 .sub 44 (cn 1),ki 46 2 43 45,kf 47 1 46,kl 48 47,kb 49 .sub 42 48,km 5 40,km 6 49] (pl [(0,[2,3,4,5,6,7,9,10,11,12,13,14,15,16,17],32),(1,[2,3,4,5,6,7,9,10,11,12,13,14,15,16,17],33),(2,[3,4,9,10,11,12,13,14,15,16,17],34),(3,[9,10,11,12,13,14,15,16,17],35),(4,[9,10,11,12,13,14,15,16,17],36),(5,[9,10,11,12,13,14,15,16,17],37),(6,[9,10,11,12,13,14,15,16,17],38),(7,[9,10,11,12,13,14,15,16,17],39),(8,[9,10,11,12,13,14,15,16,17],40),(9,[11,12,13,14,15,16,18],41),(10,[11,12,13,14,15,16,18],42),(11,[12,13,18],43),(12,[18],44),(13,[18],45),(14,[18],46),(15,[18],47),(16,[18],48),(17,[18],49)])) (.seq (sr [km 50 5,kb 51 .leq 50 (cn 0),km 52 51,kg 53 52 false (.mv 6),kg 54 52 false (.bi false .lss 53 (cn 0)),kk 55 (.pick 52 ct 54)] (.cond 55 (sr [kk 2 (.mv (cn 4))] .ret) .skip)) (sr [km 56 6,km 57 5,kb 58 .quo (cn 4611686018427387904) 57,kb 59 .gtr 56 58] (.cond 59 (sr [kk 2 (.mv (cn 1))] .ret) .skip)))))))) (.reg [kb 60 .add 15 (cn 1),km 15 60]))))
def c173:C:=(sr [kk 2 (.mv (cn 0))] (.seq (sr [km 7 0,kk 8 (.len 7),kb 9 .eql 8 (cn 0)] (.cond 9 (sr [kk 2 (.mv (cn 3))] .ret) .skip)) (.seq (sr [km 10 0,kk 11 (.len 10),kb 12 .gtr 11 (cn 100)] (.cond 12 (sr [kk 2 (.mv (cn 10))] .ret) .skip)) (.seq (sr [km 13 0,kk 14 (.len 13),kk 15 (.mv (cn 0))] (.block 0 (.loop c173L1))) (sr [kk 2 (.mv (cn 0))] .ret)))))
theorem fits173:fits Tryz.prog false Tryz.f173 1 61 [(2,none)]=some c173.er:=by kernel_rfl
def c174L1:C:=(.seq (sr [km 18 5,km 19 0,kk 20 (.len 19),kb 21 .lss 18 20] (.cond 21 .skip (.exit 0))) (.seq (.block 1 (sr [km 24 1,km 25 0,km 26 5,ki 27 2 25 26,kf 28 0 27,kl 29 28,kb 30 .lss 24 29] (.cond 30 (.seq (.drw [km 31 0,km 32 5,kb 33 .sub 32 (cn 1),ki 34 2 31 33,kt 35 2 34,km 36 0,km 37 5,ki 38 2 36 37,kt 39 2 38,kk 6 (.al [z0,z0]),kk 7 (.al [z0,z0]),kx 2 6 35,kx 2 7 39] (pl [(0,[1,2,5,6,7,8,9,10],31),(1,[5,6,7,8,9,10],32),(2,[5,6,7,8,9,10],33),(3,[5,6,7,8,9,10],34),(4,[5,6,7,8,9,10],35),(5,[6,9,10,11],36),(6,[9,10,11],37),(7,[9,10,11],38),(8,[9,10,11],39),(9,[10],6)])) (.seq (.drw [kf 40 1 6,kl 41 40,kf 42 1 7,kl 43 42,kf 44 1 6,kl 45 44,kb 46 .sub 43 45,km 47 1,kf 48 0 6,kl 49 48,kb 50 .sub 47 49,kb 51 .mul 46 50,kf 52 0 7,kl 53 52,kf 54 0 6,kl 55 54,kb 56 .sub 53 55,kb 57 .quo 51 56,kb 58 .add 41 57,km 4 58] (pl [(0,[2,3,4,5,6,7,8,9,10,11,12,13,14,15,16,17],40),(1,[2,3,4,5,6,7,8,9,10,11,12,13,14,15,16,17],41),(2,[4,5,7,8,9,10,12,13,14,15,16],42),(3,[4,5,7,8,9,10,12,13,14,15,16],43),(4,[7,8,9,10,12,13,14,15,16],44),(5,[7,8,9,10,12,13,14,15,16],45),(6,[7,8,9,10,12,13,14,15,16],46),(7,[8,9,12,13,14,15,16],47),(8,[12,13,14,15,16],48),(9,[12,13,14,15,16],49),(10,[12,13,14,15,16],50),(11,[12,13,14,15,16],51),(12,[14,15],52),(13,[14,15],53)])) .ret)) .skip))) (.reg [km 22 5,kb 23 .add 22 (cn 1),km 5 23])))
def c174:C:=(sr [kk 4 (.mv (cn 0))] (.seq (sr [km 8 1,km 9 0,ki 10 2 9 (cn 0),kf 11 0 10,kl 12 11,kb 13 .leq 8 12] (.cond 13 (sr [km 14 0,ki 15 2 14 (cn 0),kf 16 1 15,kl 17 16,km 4 17] .ret) .skip)) (.seq (sr [kk 5 (.mv (cn 1))] (.block 0 (.loop c174L1))) (sr [km 59 0,km 60 0,kk 61 (.len 60),kb 62 .sub 61 (cn 1),ki 63 2 59 62,kf 64 1 63,kl 65 64,km 4 65] .ret))))
theorem fits174:fits Tryz.prog false Tryz.f174 2 66 [(4,none)]=some c174.er:=by kernel_rfl
def c117:C:=(sr [kk 4 (.mv (cn 0)),kk 5 (.mv (cn 0))] (.seq (sr [km 7 0,kc 8 173 [7],km 6 8] (sr [km 9 6,kb 10 .neq 9 (cn 0)] (.cond 10 (sr [km 11 6,kk 4 (.mv (cn 0)),km 5 11] .ret) .skip))) (sr [km 12 0,km 13 1,kc 14 174 [12,13],km 4 14,kk 5 (.mv (cn 0))] .ret)))
theorem fits117:fits Tryz.prog false Tryz.f117 2 15 [(4,none),(5,none)]=some c117.er:=by kernel_rfl
def c88L1:C:=(.seq (sr [km 24 15,kb 25 .gtr 24 (cn 0)] (.cond 25 .skip (.exit 0))) (.seq (.block 1 (sr [km 28 1,kb 29 .add 28 (cn 1),km 30 0,km 31 3,kc 32 12 [30,31],kb 33 .add 29 32,km 34 2,km 35 13,kb 36 .add 34 35,km 37 0,km 38 4,kc 39 12 [37,38],kb 40 .add 36 39,km 1 33,km 2 40] (.reg [km 41 14,km 42 1,km 43 2,kk 44 (.bd [z0,z0] [(0,1,42),(1,1,43)]),kk 45 (.bs 157 2 [44]),kk 46 (.app 157 2 16 41 45),km 14 46]))) (.reg [km 26 15,kb 27 .sub 26 (cn 1),km 15 27])))
def c88:C:=(sr [kk 12 (.mv (.c (.nil 2)))] (sr [kk 13 (.mv (cn 0))] (.seq (sr [km 16 5] (.cond 16 (.reg [kk 13 (.mv (cn 1))]) .skip)) (sr [km 17 1,km 18 2,kk 19 (.bd [z0,z0] [(0,1,17),(1,1,18)]),kk 20 (.bs 157 2 [19]),km 14 20] (.seq (sr [km 21 0,kc 22 12 [21,(cn 4)],kb 23 .add (cn 1) 22,km 15 23] (.block 0 (.loop c88L1))) (sr [km 47 14,km 12 47] .ret))))))
theorem fits88:fits Tryz.prog false Tryz.f88 6 48 [(12,none)]=some c88.er:=by kernel_rfl
structure Pt where
 x:Int
 y:Int
 deriving Inhabited,DecidableEq
def ePt (p:Pt):List PV:= [.int .i64 p.x, .int .i64 p.y]
def steepF (dx dy:Int):Bool:=decide (0<dx∧dy>4611686018427387904 / dx)
def errC (c:List Pt) (i:Nat):Int:=
 if¬(0≤(c.getD i default).x∧(c.getD i default).x≤1073741824)∨¬(0≤(c.getD i default).y∧(c.getD i default).y≤274877906944) then 1
 else if i=0 then 0
 else if (c.getD i default).x≤(c.getD (i - 1) default).x∨(c.getD i default).y<(c.getD (i - 1) default).y then 4
 else if steepF ((c.getD i default).x - (c.getD (i - 1) default).x) ((c.getD i default).y - (c.getD (i - 1) default).y)=true then 1 else 0
def checkC (c:List Pt):Int:=if c.length=0 then 3 else if c.length>100 then 10 else scan (errC c) 0 c.length
structure GoodC (c:List Pt):Prop where
 ne:0<c.length
 le:c.length≤100
 rng:∀i,i<c.length→0≤(c.getD i default).x∧(c.getD i default).x≤1073741824∧0≤(c.getD i default).y∧(c.getD i default).y≤274877906944
 up:∀i,0<i→i<c.length→(c.getD (i - 1) default).x<(c.getD i default).x∧(c.getD (i - 1) default).y≤(c.getD i default).y∧
  ((c.getD i default).y - (c.getD (i - 1) default).y)*((c.getD i default).x - (c.getD (i - 1) default).x)≤4611686018427387904
theorem errC_zero (c:List Pt) (i:Nat):errC c i=0↔(0≤(c.getD i default).x∧(c.getD i default).x≤1073741824∧0≤(c.getD i default).y∧(c.getD i default).y≤274877906944)∧(0<i→(c.getD (i - 1) default).x<(c.getD i default).x∧(c.getD (i - 1) default).y≤(c.getD i default).y∧
  ((c.getD i default).y - (c.getD (i - 1) default).y)*((c.getD i default).x - (c.getD (i - 1) default).x)≤4611686018427387904):=by
 unfold errC
 by_cases h1:¬(0≤(c.getD i default).x∧(c.getD i default).x≤1073741824)∨¬(0≤(c.getD i default).y∧(c.getD i default).y≤274877906944)
 ·rw [if_pos h1];constructor
  ·intro h;cases h
  ·intro h;omega
 rw [if_neg h1]
 by_cases h2:i=0
 ·rw [if_pos h2];constructor
  ·intro _;exact ⟨by omega,fun h=>by omega⟩
  ·intro _;rfl
 rw [if_neg h2]
 by_cases h3:(c.getD i default).x≤(c.getD (i - 1) default).x∨(c.getD i default).y<(c.getD (i - 1) default).y
 ·rw [if_pos h3];constructor
  ·intro h;cases h
  ·intro h;have:=h.2 (by omega);omega
 rw [if_neg h3]
 have hpos:0<(c.getD i default).x - (c.getD (i - 1) default).x:=by omega
 have key:=Int.le_ediv_iff_mul_le (a:=(c.getD i default).y - (c.getD (i - 1) default).y) (b:=4611686018427387904) hpos
 unfold steepF
 by_cases h4:0<(c.getD i default).x - (c.getD (i - 1) default).x∧(c.getD i default).y - (c.getD (i - 1) default).y>4611686018427387904 / ((c.getD i default).x - (c.getD (i - 1) default).x)
 ·rw [if_pos (decide_eq_true h4)];constructor
  ·intro h;cases h
  ·intro h;have:=(h.2 (by omega)).2.2;have:=key.2 this;omega
 ·rw [if_neg (by rw [decide_eq_false h4];decide)];constructor
  ·intro _;exact ⟨by omega,fun _=>⟨by omega,by omega,key.1 (by omega)⟩⟩
  ·intro _;rfl
theorem scan_allz {f:Nat→Int}:∀{i n:Nat},(∀k,i≤k→k<i+n→f k=0)→scan f i n=0
 | i,0,_=>rfl
 | i,n+1,h=>by
   rw [scan_step (by omega) (h i (by omega) (by omega))]
   exact scan_allz fun k h1 h2=>h k (by omega) (by omega)
theorem check_good (c:List Pt):checkC c=0↔GoodC c:=by
 unfold checkC
 by_cases h1:c.length=0
 ·rw [if_pos h1];constructor
  ·intro h;cases h
  ·intro h;have:=h.ne;omega
 rw [if_neg h1]
 by_cases h2:c.length>100
 ·rw [if_pos h2];constructor
  ·intro h;cases h
  ·intro h;have:=h.le;omega
 rw [if_neg h2]
 constructor
 ·intro h
  have hz:=fun i (hi:i<c.length)=>(errC_zero c i).1 (scan_zero h i (by omega) (by omega))
  exact ⟨by omega,by omega,fun i hi=>(hz i hi).1,fun i h0 hi=>(hz i hi).2 h0⟩
 ·intro h
  exact scan_allz fun k _ hk=>(errC_zero c k).2 ⟨h.rng k (by omega),fun h0=>h.up k h0 (by omega)⟩
def lineF (p q:Pt) (x:Int):Int:=q.y+((p.y - q.y)*(x - q.x)) / (p.x - q.x)
def valA (c:List Pt) (x:Int):Nat→Nat→Int
 | _,0=>(c.getD (c.length - 1) default).y
 | i,n+1=>if x≤(c.getD i default).x then (if i=0 then (c.getD i default).y else lineF (c.getD i default) (c.getD (i - 1) default) x) else valA c x (i+1) n
def valC (c:List Pt) (x:Int):Int:=valA c x 0 c.length
theorem prod_le {a b A B:Int} (h0:0≤a) (h1:a≤A) (h2:0≤b) (h3:b≤B) (h:A*B≤4611686018427387904):0≤a*b∧a*b≤4611686018427387904:=by
 have:=mul_rng h0 h1 h2 h3;omega
def atC (c:List Pt) (x:Int):Int×Int:=if checkC c=0 then (valC c x,0) else (0,checkC c)
theorem fl_one {α:Type} [Inhabited α] (e:α→List PV) (x:α):RowEq 1 (fun i=> [e x].getD i []) (fl e [x]):=fun i hi=>by
 have:i=0:=by omega
 subst this;rfl
structure Cst where
 L:List Pt
 x:Int
 y:Int
 d:Dk
def crvN (dx dy least:Int) (s:Cst):Cst:=⟨s.L++ [⟨s.x+1+nxt s.d dx,s.y+least+nxt (nxtD s.d dx) dy⟩],s.x+1+nxt s.d dx,s.y+least+nxt (nxtD s.d dx) dy,nxtD (nxtD s.d dx) dy⟩
def crvS (dx dy least:Int):Nat→Cst→Cst
 | 0,s=>s
 | k+1,s=>crvS dx dy least k (crvN dx dy least s)
def curveS (d:Dk) (x y dx dy least:Int):Cst:=crvS dx dy least (1+nxt d 4).toNat ⟨[⟨x,y⟩],x,y,nxtD d 4⟩
theorem GoodC.xs {c:List Pt} (h:GoodC c):∀(d i:Nat),i+d<c.length→(c.getD i default).x≤(c.getD (i+d) default).x
 | 0,i,_=>Int.le_refl _
 | d+1,i,hi=>by
   have h1:=GoodC.xs h d i (by omega)
   have h2:=h.up (i+d+1) (by omega) hi
   rw [Nat.add_sub_cancel] at h2
   rw [show i+(d+1)=i+d+1 from rfl];omega
theorem GoodC.ys {c:List Pt} (h:GoodC c):∀(d i:Nat),i+d<c.length→(c.getD i default).y≤(c.getD (i+d) default).y
 | 0,i,_=>Int.le_refl _
 | d+1,i,hi=>by
   have h1:=GoodC.ys h d i (by omega)
   have h2:=h.up (i+d+1) (by omega) hi
   rw [Nat.add_sub_cancel] at h2
   rw [show i+(d+1)=i+d+1 from rfl];omega
theorem valA_skip {c:List Pt} {x:Int}:∀(m i:Nat),i+m≤c.length→(∀j,i≤j→j<i+m→(c.getD j default).x<x)→valA c x i (c.length - i)=valA c x (i+m) (c.length - (i+m))
 | 0,i,_,_=>rfl
 | m+1,i,hi,h=>by
   have h1:=h i (by omega) (by omega)
   have e:valA c x i (c.length - i)=valA c x (i+1) (c.length - (i+1)):=by
    rw [show c.length - i=(c.length - (i+1))+1 by omega]
    show (if x≤(c.getD i default).x then _ else _)=_
    rw [if_neg (by omega)]
   rw [e,valA_skip m (i+1) (by omega) (fun j h1 h2=>h j (by omega) (by omega))]
   rw [show i+1+m=i+(m+1) by omega]
theorem val_lo {c:List Pt} (h:GoodC c) {x:Int} (hx:x≤(c.getD 0 default).x):valC c x=(c.getD 0 default).y:=by
 have:=h.ne
 unfold valC
 rw [show c.length=(c.length - 1)+1 by omega]
 show (if x≤(c.getD 0 default).x then _ else _)=_
 rw [if_pos hx];rfl
theorem val_seg' {c:List Pt} (h:GoodC c) {x:Int} {k:Nat} (h0:0<k) (hk:k<c.length) (h1:(c.getD (k - 1) default).x<x) (h2:x≤(c.getD k default).x):valC c x=lineF (c.getD k default) (c.getD (k - 1) default) x:=by
 unfold valC
 have:=valA_skip (c:=c) (x:=x) k 0 (by omega) (fun j _ hj=>by
  have:=h.xs (k - 1 - j) j (by omega)
  rw [show j+(k - 1 - j)=k - 1 by omega] at this;omega)
 rw [Nat.sub_zero,Nat.zero_add] at this
 rw [this,show c.length - k=(c.length - (k+1))+1 by omega]
 show (if x≤(c.getD k default).x then (if k=0 then _ else _) else _)=_
 rw [if_pos h2,if_neg (by omega)]
theorem line_lo (p q:Pt):lineF p q q.x=q.y:=by unfold lineF;rw [Int.sub_self,Int.mul_zero,Int.zero_ediv,Int.add_zero]
theorem line_hi {p q:Pt} (h:q.x<p.x):lineF p q p.x=p.y:=by
 unfold lineF;rw [Int.mul_ediv_cancel _ (by omega)];omega
theorem val_seg {c:List Pt} (h:GoodC c) {x:Int} {k:Nat} (h0:0<k) (hk:k<c.length) (h1:(c.getD (k - 1) default).x≤x) (h2:x≤(c.getD k default).x):valC c x=lineF (c.getD k default) (c.getD (k - 1) default) x:=by
 rcases Int.lt_or_eq_of_le h1 with h1 | h1
 ·exact val_seg' h h0 hk h1 h2
 ·rw [←h1,line_lo]
  by_cases hk1:k - 1=0
  ·rw [hk1];exact val_lo h (Int.le_refl _)
  ·have hu:=h.up (k - 1) (by omega) (by omega)
   rw [val_seg' h (k:=k - 1) (by omega) (by omega) hu.1 (Int.le_refl _),line_hi hu.1]
theorem val_hi {c:List Pt} (h:GoodC c) {x:Int} (hx:(c.getD (c.length - 1) default).x≤x):valC c x=(c.getD (c.length - 1) default).y:=by
 have hn:=h.ne
 rcases Int.lt_or_eq_of_le hx with h1 | h1
 ·unfold valC
  have:=valA_skip (c:=c) (x:=x) c.length 0 (by omega) (fun j _ hj=>by
   have:=h.xs (c.length - 1 - j) j (by omega)
   rw [show j+(c.length - 1 - j)=c.length - 1 by omega] at this;omega)
  rw [Nat.sub_zero,Nat.zero_add,Nat.sub_self] at this
  rw [this];rfl
 ·rw [←h1]
  by_cases hk1:c.length - 1=0
  ·rw [hk1];exact val_lo h (Int.le_refl _)
  ·have hu:=h.up (c.length - 1) (by omega) (by omega)
   rw [val_seg' h (k:=c.length - 1) (by omega) (by omega) hu.1 (Int.le_refl _),line_hi hu.1]
theorem find_seg {c:List Pt} {x:Int} (h0:(c.getD 0 default).x≤x):∀n,n<c.length→x<(c.getD n default).x→∃k,0<k∧k≤n∧(c.getD (k - 1) default).x≤x∧x<(c.getD k default).x
 | 0,_,h=>by omega
 | n+1,hn,h=>by
   by_cases hh:x<(c.getD n default).x
   ·obtain ⟨k,a,b,c,d⟩:=find_seg h0 n (by omega) hh
    exact ⟨k,a,by omega,c,d⟩
   ·exact ⟨n+1,by omega,Nat.le_refl _,by rw [Nat.add_sub_cancel];omega,h⟩
theorem line_mono {p q:Pt} (h:q.x<p.x) (hy:q.y≤p.y) {x x':Int} (hx:x≤x'):lineF p q x≤lineF p q x':=by
 unfold lineF
 have:(p.y - q.y)*(x - q.x)≤(p.y - q.y)*(x' - q.x):=Int.mul_le_mul_of_nonneg_left (by omega) (by omega)
 have:=Int.ediv_le_ediv (c:=p.x - q.x) (by omega) this
 omega
structure MadeC (c:List Pt):Prop where
 len:2≤c.length∧c.length≤5
 rng:∀i,i<c.length→0≤(c.getD i default).x∧(c.getD i default).x≤1000+1001*i∧0≤(c.getD i default).y∧(c.getD i default).y≤1000+1001*i
 up:∀i,0<i→i<c.length→(c.getD (i - 1) default).x<(c.getD i default).x∧(c.getD i default).x≤(c.getD (i - 1) default).x+1001∧(c.getD (i - 1) default).y≤(c.getD i default).y∧(c.getD i default).y≤(c.getD (i - 1) default).y+1001
theorem MadeC.good {c:List Pt} (h:MadeC c):GoodC c:=by
 obtain ⟨⟨l1,l2⟩,h1,h2⟩:=h
 refine ⟨by omega,by omega,fun i hi=>by have:=h1 i hi;omega,fun i h0 hi=> ?_⟩
 have h3:=h2 i h0 hi
 have:=mul_rng (a:=(c.getD i default).y - (c.getD (i - 1) default).y) (b:=(c.getD i default).x - (c.getD (i - 1) default).x) (A:=1001) (B:=1001) (by omega) (by omega) (by omega) (by omega)
 exact ⟨by omega,by omega,by omega⟩
theorem getD_push {α:Type} [Inhabited α] (l:List α) (p:α) (i:Nat):(l++ [p]).getD i default=if i<l.length then l.getD i default else if i=l.length then p else default:=by
 by_cases h:i<l.length
 ·rw [if_pos h,List.getD_eq_getElem?_getD,List.getD_eq_getElem?_getD,List.getElem?_append_left h]
 ·rw [if_neg h]
  by_cases h2:i=l.length
  ·rw [if_pos h2,h2,List.getD_eq_getElem?_getD,List.getElem?_append_right (Nat.le_refl _)];simp
  ·rw [if_neg h2,List.getD_eq_getElem?_getD,List.getElem?_eq_none (by simp;omega)];rfl
def CInv (s:Cst):Prop:=1≤s.L.length∧s.L.getD (s.L.length - 1) default=⟨s.x,s.y⟩∧
 (∀i,i<s.L.length→0≤(s.L.getD i default).x∧(s.L.getD i default).x≤1000+1001*i∧0≤(s.L.getD i default).y∧(s.L.getD i default).y≤1000+1001*i)∧
 (∀i,0<i→i<s.L.length→(s.L.getD (i - 1) default).x<(s.L.getD i default).x∧(s.L.getD i default).x≤(s.L.getD (i - 1) default).x+1001∧(s.L.getD (i - 1) default).y≤(s.L.getD i default).y∧(s.L.getD i default).y≤(s.L.getD (i - 1) default).y+1001)
theorem crvN_inv {dx dy least:Int} (hdx:1≤dx∧dx≤1000) (hdy:1≤dy∧dy≤1000) (hl:0≤least∧least≤1) {s:Cst} (h:CInv s):CInv (crvN dx dy least s):=by
 obtain ⟨h1,h2,h3,h4⟩:=h
 have r1:=nxt_lt s.d (n:=dx) (by omega)
 have r2:=nxt_lt (nxtD s.d dx) (n:=dy) (by omega)
 have hlast:=h3 (s.L.length - 1) (by omega)
 rw [h2] at hlast
 dsimp only at hlast
 have hlen:(crvN dx dy least s).L.length=s.L.length+1:=by simp [crvN]
 have hget:∀i,(crvN dx dy least s).L.getD i default=if i<s.L.length then s.L.getD i default else if i=s.L.length then ⟨s.x+1+nxt s.d dx,s.y+least+nxt (nxtD s.d dx) dy⟩ else default:=fun i=>getD_push _ _ _
 refine ⟨by omega, ?_, ?_, ?_⟩
 ·rw [hget,hlen,Nat.add_sub_cancel,if_neg (by omega),if_pos rfl];rfl
 ·intro i hi
  rw [hlen] at hi
  rw [hget]
  by_cases hh:i<s.L.length
  ·rw [if_pos hh];exact h3 i hh
  ·rw [if_neg hh,if_pos (by omega)];dsimp only;omega
 ·intro i h0 hi
  rw [hlen] at hi
  rw [hget,hget]
  by_cases hh:i<s.L.length
  ·rw [if_pos hh,if_pos (by omega)];exact h4 i h0 hh
  ·rw [if_neg hh,if_pos (by omega),if_pos (by omega),show i - 1=s.L.length - 1 by omega,h2];dsimp only;omega
theorem crvS_inv {dx dy least:Int} (hdx:1≤dx∧dx≤1000) (hdy:1≤dy∧dy≤1000) (hl:0≤least∧least≤1):∀(k:Nat) {s:Cst},CInv s→CInv (crvS dx dy least k s)∧(crvS dx dy least k s).L.length=s.L.length+k∧(crvS dx dy least k s).d.at_≤s.d.at_+2*k
 | 0,s,h=>⟨h,rfl,Nat.le_refl _⟩
 | k+1,s,h=>by
   obtain ⟨a,b,c⟩:=crvS_inv hdx hdy hl k (crvN_inv hdx hdy hl h)
   have hlen:(crvN dx dy least s).L.length=s.L.length+1:=by simp [crvN]
   have h1:=nxtD_at s.d dx
   have h2:=nxtD_at (nxtD s.d dx) dy
   have hd:(crvN dx dy least s).d=nxtD (nxtD s.d dx) dy:=rfl
   rw [hd] at c
   exact ⟨a,by show (crvS dx dy least k _).L.length=_;omega,by show (crvS dx dy least k _).d.at_≤_;omega⟩
theorem curve_made (d:Dk) {x y dx dy least:Int} (hx:0≤x∧x≤1000) (hy:0≤y∧y≤1000) (hdx:1≤dx∧dx≤1000) (hdy:1≤dy∧dy≤1000) (hl:0≤least∧least≤1):MadeC (curveS d x y dx dy least).L∧(curveS d x y dx dy least).d.at_≤d.at_+9:=by
 have r1:=nxt_lt d (n:=4) (by omega)
 have a1:=nxtD_at d 4
 have h0:CInv ⟨[⟨x,y⟩],x,y,nxtD d 4⟩:=by
  refine ⟨Nat.le_refl _,rfl, ?_, ?_⟩
  ·intro i hi
   have:i=0:=by simpa using hi
   subst this
   show 0≤x∧_∧0≤y∧_
   exact ⟨by omega,by show x≤_;omega,by omega,by show y≤_;omega⟩
  ·intro i h0 hi
   have:i<1:=by simpa using hi
   omega
 obtain ⟨⟨b1,b2,b3,b4⟩,b5,b6⟩:=crvS_inv hdx hdy hl (1+nxt d 4).toNat h0
 have e:(1:Nat)=([⟨x,y⟩]:List Pt).length:=rfl
 dsimp only at b6
 refine ⟨⟨?_,b3,b4⟩, ?_⟩
 ·show 2≤(crvS dx dy least _ _).L.length∧(crvS dx dy least _ _).L.length≤5
  rw [b5,←e];omega
 ·show (crvS dx dy least _ _).d.at_≤_;omega
theorem val_rng {c:List Pt} (h:GoodC c) (x:Int):0≤valC c x∧valC c x≤274877906944:=by
 have hn:=h.ne
 by_cases h1:x<(c.getD 0 default).x
 ·rw [val_lo h (by omega)];have:=h.rng 0 hn;omega
 by_cases h2:(c.getD (c.length - 1) default).x≤x
 ·rw [val_hi h h2];have:=h.rng (c.length - 1) (by omega);omega
 obtain ⟨k,a,b,h3,h4⟩:=find_seg (c:=c) (x:=x) (by omega) (c.length - 1) (by omega) (by omega)
 have hu:=h.up k a (by omega)
 rw [val_seg h a (by omega) h3 (by omega)]
 have m1:=line_mono hu.1 hu.2.1 h3
 have m2:=line_mono hu.1 hu.2.1 (Int.le_of_lt h4)
 rw [line_lo] at m1;rw [line_hi hu.1] at m2
 have:=h.rng k (by omega)
 have:=h.rng (k - 1) (by omega)
 omega
theorem call216 (n m:Int):PureCall Tryz.prog 216 [.int .i64 n, .int .i64 m] [] ⟨.bool (decide (0≤n∧n≤m)), [], []⟩:=by
 refine pure_call mix Tryz.func216 fits216 rfl ?_
 conv=>whnf
 refine ⟨?_, [], ?_⟩
 ·exact g0
 conv=>whnf
 refine ⟨rfl, ?_,trivial,trivial⟩
 all_goals repeat' (first | exact True.intro | refine leF_cons rfl ?_ ?_ | refine leS_cons rfl ?_ ?_ | (show PLe _ _ _ _;conv=>whnf) | (show SLe _ _ _ _;conv=>whnf) | (show PLeL _ _ _ _;conv=>whnf) | apply And.intro | rfl | exact Nat.le_refl _ | exact fun _ _=>rfl | exact rowEq0 _ _)
 by_cases h:0≤n<;>simp [h]
theorem call172 (n m:Int):PureCall Tryz.prog 172 [.int .i64 n, .int .i64 m] [] ⟨.bool (decide (0≤n∧n≤m)), [], []⟩:=by
 refine pure_call mix Tryz.func172 fits172 rfl ?_
 conv=>whnf
 refine ⟨_,fun _=>call216 n m, ?_⟩
 conv=>whnf
 refine ⟨?_, [], ?_⟩
 ·exact g0
 conv=>whnf
 refine ⟨rfl, ?_,trivial,trivial⟩
 all_goals exact ent
theorem call173 (τ:Nat) (c:List Pt):PureCall Tryz.prog 173 [.sl τ 2 c.length (fl ePt c)] [] ⟨.int .i64 (checkC c), [], []⟩:=by
 refine pure_call mix Tryz.func173 fits173 rfl ?_
 conv=>whnf
 refine ⟨?_,fun hc=> ?_,fun hc=> ?_⟩
 ·exact g0
 ·simp [-List.getD_eq_getElem?_getD, -Int.default_eq_zero] at hc
  rw [show checkC c=3 by unfold checkC;rw [if_pos (by rw [hc];rfl)]]
  conv=>whnf
  refine ⟨?_, [], ?_⟩
  ·exact g0
  conv=>whnf
  refine ⟨rfl, ?_,trivial,trivial⟩
  all_goals exact ent
 simp [-List.getD_eq_getElem?_getD, -Int.default_eq_zero] at hc
 have h0:¬c.length=0:=by simpa using hc
 conv=>whnf
 refine ⟨?_,fun hc=> ?_,fun hc=> ?_⟩
 ·exact g0
 ·replace hc:=of_decide_eq_true hc
  rw [show checkC c=10 by unfold checkC;rw [if_neg h0,if_pos (by omega)]]
  conv=>whnf
  refine ⟨?_, [], ?_⟩
  ·exact g0
  conv=>whnf
  refine ⟨rfl, ?_,trivial,trivial⟩
  all_goals exact ent
 replace hc:=of_decide_eq_false hc
 have h1:¬c.length>100:=by omega
 have hck:checkC c=scan (errC c) 0 c.length:=by unfold checkC;rw [if_neg h0,if_neg h1]
 rw [hck]
 conv=>whnf
 refine ⟨trivial, ?_⟩
 refine LSem.loop (n:=61) mix (α:=Nat) (fun i=>i≤c.length∧scan (errC c) i (c.length - i)=scan (errC c) 0 c.length∧∀j,j<i→errC c j=0)
  (fun i=> [(0, .sl τ 2 c.length (fl ePt c)),(13, .sl τ 2 c.length (fl ePt c)),(14, .int .i64 c.length),(15, .int .i64 i)])
  (fun _=> []) (fun i=>c.length - i) 0 ?_ ?_ ?_
 ·exact ⟨Nat.zero_le _,rfl,fun j hj=>by omega⟩
 ·refine ⟨rfl,rfl, ?_, ?_⟩
  all_goals exact ent
 ·intro i hi
  obtain ⟨hi,hs,hall⟩:=hi
  have hj:((i:Int)).toNat=i:=by omega
  conv=>whnf
  refine ⟨trivial,fun hc=> ?_,fun hc=> ?_⟩
  ·replace hc:=of_decide_eq_true hc
   have hlt:i<c.length:=by omega
   have hall':errC c i=0→∀j,j<i+1→errC c j=0:=fun h j hj=>by
    by_cases e:j=i
    ·subst e;exact h
    ·exact hall j (by omega)
   have herr:errC c i≠0→scan (errC c) 0 c.length=errC c i:=fun h=>by rw [←hs];exact scan_hit (by omega) h
   have hnext:errC c i=0→scan (errC c) (i+1) (c.length - (i+1))=scan (errC c) 0 c.length:=fun h=>by rw [←hs,scan_step (by omega) h];congr 1
   conv=>whnf
   refine ⟨_,fun _=>call172 (c.getD ((i:Int)).toNat default).x 1073741824, ?_⟩
   conv=>whnf
   refine ⟨_,fun _=>call172 (c.getD ((i:Int)).toNat default).y 274877906944, ?_⟩
   conv=>whnf
   refine ⟨?_,fun hc1=> ?_,fun hc1=> ?_⟩
   ·exact g0
   ·have he:errC c i=1:=by
      rw [hj] at hc1
      unfold errC
      rw [if_pos (by simp only [bp] at hc1;omega)]
    rw [herr (by rw [he];decide),he]
    conv=>whnf
    refine ⟨?_, [], ?_⟩
    ·exact g0
    conv=>whnf
    refine ⟨rfl, ?_,trivial,trivial⟩
    all_goals exact ent
   have hr:(0≤(c.getD i default).x∧(c.getD i default).x≤1073741824)∧(0≤(c.getD i default).y∧(c.getD i default).y≤274877906944):=by
    rw [hj] at hc1
    simp only [bp] at hc1
    omega
   conv=>whnf
   refine ⟨trivial,fun hc2=> ?_,fun hc2=> ?_⟩
   ·have h0:i=0:=by simpa using hc2
    conv=>whnf
    have he:errC c i=0:=by unfold errC;rw [if_neg (by omega),if_pos h0]
    refine ⟨?_,i+1,⟨by omega,hnext he,hall' he⟩, ?_,rfl,rfl, ?_, ?_⟩
    ·exact g0
    ·omega
    all_goals exact ent
   have h0:¬i=0:=by simpa using hc2
   have hj1:((i:Int) - 1).toNat=i - 1:=by omega
   have hm1:(0≤(c.getD (i - 1) default).x∧(c.getD (i - 1) default).x≤1073741824)∧(0≤(c.getD (i - 1) default).y∧(c.getD (i - 1) default).y≤274877906944):=by
    have:=hall (i - 1) (by omega)
    unfold errC at this
    split at this
    ·cases this
    ·omega
   conv=>whnf
   refine ⟨rfl, ?_⟩
   conv=>whnf
   refine ⟨?_,fun hc3=> ?_,fun hc3=> ?_⟩
   ·rw [hj,hj1]
    exact g0
   ·have he:errC c i=4:=by
      rw [hj,hj1] at hc3
      unfold errC
      rw [if_neg (by omega),if_neg h0,if_pos (by simp only [bp] at hc3;omega)]
    rw [herr (by rw [he];decide),he]
    conv=>whnf
    refine ⟨?_, [], ?_⟩
    ·exact g0
    conv=>whnf
    refine ⟨rfl, ?_,trivial,trivial⟩
    all_goals exact ent
   have hle:¬((c.getD i default).x≤(c.getD (i - 1) default).x∨(c.getD i default).y<(c.getD (i - 1) default).y):=by
    rw [hj,hj1] at hc3
    simp only [bp] at hc3
    omega
   have hdiv:Int.tdiv 4611686018427387904 ((c.getD i default).x - (c.getD (i - 1) default).x)=4611686018427387904 / ((c.getD i default).x - (c.getD (i - 1) default).x):=Int.tdiv_eq_ediv_of_nonneg (by omega)
   have d1:0≤4611686018427387904 / ((c.getD i default).x - (c.getD (i - 1) default).x):=Int.ediv_nonneg (by omega) (by omega)
   have d2:4611686018427387904 / ((c.getD i default).x - (c.getD (i - 1) default).x)≤4611686018427387904:=Int.ediv_le_self _ (by omega)
   conv=>whnf
   refine ⟨?_,fun hc4=> ?_,fun hc4=> ?_⟩
   ·rw [hj,hj1,hdiv]
    exact g0
   ·replace hc4:=of_decide_eq_true hc4
    rw [hj,hj1,hdiv] at hc4
    have he:errC c i=1:=by
     unfold errC
     rw [if_neg (by omega),if_neg h0,if_neg hle,if_pos (by unfold steepF;exact decide_eq_true ⟨by omega,hc4⟩)]
    rw [herr (by rw [he];decide),he]
    conv=>whnf
    refine ⟨?_, [], ?_⟩
    ·exact g0
    conv=>whnf
    refine ⟨rfl, ?_,trivial,trivial⟩
    all_goals exact ent
   ·replace hc4:=of_decide_eq_false hc4
    rw [hj,hj1,hdiv] at hc4
    have he:errC c i=0:=by
     unfold errC
     rw [if_neg (by omega),if_neg h0,if_neg hle,if_neg (by unfold steepF;intro h;exact hc4 (of_decide_eq_true h).2)]
    conv=>whnf
    refine ⟨?_,i+1,⟨by omega,hnext he,hall' he⟩, ?_,rfl,rfl, ?_, ?_⟩
    ·exact g0
    ·omega
    all_goals exact ent
  ·replace hc:=of_decide_eq_false hc
   rw [show c.length - i=0 by omega] at hs
   rw [←hs]
   conv=>whnf
   refine ⟨?_, [], ?_⟩
   ·exact g0
   conv=>whnf
   refine ⟨rfl, ?_,trivial,trivial⟩
   all_goals exact ent
theorem call174 (τ:Nat) (c:List Pt) (x:Int) (hg:GoodC c):PureCall Tryz.prog 174 [.sl τ 2 c.length (fl ePt c), .int .i64 x] [] ⟨.int .i64 (valC c x), [], []⟩:=by
 have hle:=hg.le
 have hne:=hg.ne
 refine pure_call mix Tryz.func174 fits174 rfl ?_
 conv=>whnf
 refine ⟨?_,fun hc=> ?_,fun hc=> ?_⟩
 ·exact g0
 ·replace hc:=of_decide_eq_true hc
  rw [val_lo hg hc]
  conv=>whnf
  refine ⟨?_, [], ?_⟩
  ·exact g0
  conv=>whnf
  refine ⟨rfl, ?_,trivial,trivial⟩
  all_goals exact ent
 replace hc:=of_decide_eq_false hc
 have hlo:(c.getD 0 default).x<x:=by
  have h:¬x≤(c.getD 0 default).x:=hc
  omega
 clear hc
 conv=>whnf
 refine ⟨trivial, ?_⟩
 refine LSem.loop (n:=66) mix (α:=Nat) (fun i=>1≤i∧i≤c.length∧(c.getD (i - 1) default).x≤x)
  (fun i=> [(0, .sl τ 2 c.length (fl ePt c)),(1, .int .i64 x),(5, .int .i64 i)])
  (fun _=> []) (fun i=>c.length - i) 1 ?_ ?_ ?_
 ·exact ⟨Nat.le_refl _,by omega,Int.le_of_lt hlo⟩
 ·refine ⟨rfl,rfl, ?_, ?_⟩
  all_goals exact ent
 ·intro i hi
  obtain ⟨h1,hi,hx⟩:=hi
  have hj:((i:Int)).toNat=i:=by omega
  have hj1:((i:Int) - 1).toNat=i - 1:=by omega
  conv=>whnf
  refine ⟨trivial,fun hc=> ?_,fun hc=> ?_⟩
  ·replace hc:=of_decide_eq_true hc
   have hlt:i<c.length:=by omega
   conv=>whnf
   refine ⟨?_,fun hc1=> ?_,fun hc1=> ?_⟩
   ·exact g0
   ·replace hc1:=of_decide_eq_true hc1
    rw [hj] at hc1
    rw [val_seg hg (by omega) hlt hx (by omega)]
    unfold lineF
    have hr:=hg.rng i hlt
    have hr1:=hg.rng (i - 1) (by omega)
    have hu:=hg.up i (by omega) hlt
    conv=>whnf
    refine ⟨rfl, ?_⟩
    conv=>whnf
    refine ⟨rfl, ?_⟩
    conv=>whnf
    have hp:0≤((c.getD ((i:Int)).toNat default).y - (c.getD ((i:Int) - 1).toNat default).y)*(x - (c.getD ((i:Int) - 1).toNat default).x)∧((c.getD ((i:Int)).toNat default).y - (c.getD ((i:Int) - 1).toNat default).y)*(x - (c.getD ((i:Int) - 1).toNat default).x)≤4611686018427387904:=by
     rw [hj,hj1]
     exact prod_le (by omega) (Int.le_refl _) (by omega) (by omega) hu.2.2
    have hq:Int.tdiv (((c.getD ((i:Int)).toNat default).y - (c.getD ((i:Int) - 1).toNat default).y)*(x - (c.getD ((i:Int) - 1).toNat default).x)) ((c.getD ((i:Int)).toNat default).x - (c.getD ((i:Int) - 1).toNat default).x)=(((c.getD ((i:Int)).toNat default).y - (c.getD ((i:Int) - 1).toNat default).y)*(x - (c.getD ((i:Int) - 1).toNat default).x)) / ((c.getD ((i:Int)).toNat default).x - (c.getD ((i:Int) - 1).toNat default).x):=Int.tdiv_eq_ediv_of_nonneg hp.1
    have hq2:0≤(((c.getD ((i:Int)).toNat default).y - (c.getD ((i:Int) - 1).toNat default).y)*(x - (c.getD ((i:Int) - 1).toNat default).x)) / ((c.getD ((i:Int)).toNat default).x - (c.getD ((i:Int) - 1).toNat default).x):=Int.ediv_nonneg hp.1 (by rw [hj,hj1];omega)
    have hq3:(((c.getD ((i:Int)).toNat default).y - (c.getD ((i:Int) - 1).toNat default).y)*(x - (c.getD ((i:Int) - 1).toNat default).x)) / ((c.getD ((i:Int)).toNat default).x - (c.getD ((i:Int) - 1).toNat default).x)≤((c.getD ((i:Int)).toNat default).y - (c.getD ((i:Int) - 1).toNat default).y):=by
     rw [hj,hj1]
     refine Int.ediv_le_of_le_mul (by omega) (Int.mul_le_mul_of_nonneg_left (by omega) (by omega))
    refine ⟨?_, [], ?_⟩
    ·rw [hq]
     rw [hj,hj1] at hq2 hq3 hp⊢
     exact g0
    conv=>whnf
    refine ⟨rfl, ?_,trivial,trivial⟩
    all_goals repeat' (first | exact True.intro | refine leF_cons rfl ?_ ?_ | refine leS_cons rfl ?_ ?_ | (show PLe _ _ _ _;conv=>whnf) | (show SLe _ _ _ _;conv=>whnf) | (show PLeL _ _ _ _;conv=>whnf) | apply And.intro | rfl | exact Nat.le_refl _ | exact fun _ _=>rfl | exact rowEq0 _ _)
    rw [hq,hj,hj1]
   ·replace hc1:=of_decide_eq_false hc1
    rw [hj] at hc1
    conv=>whnf
    refine ⟨?_,i+1,⟨by omega,by omega,by rw [Nat.add_sub_cancel];omega⟩, ?_,rfl,rfl, ?_, ?_⟩
    ·exact g0
    ·omega
    all_goals exact ent
  ·replace hc:=of_decide_eq_false hc
   have:i=c.length:=by omega
   subst this
   rw [val_hi hg hx]
   conv=>whnf
   refine ⟨?_, [], ?_⟩
   ·exact g0
   conv=>whnf
   refine ⟨rfl, ?_,trivial,trivial⟩
   all_goals repeat' (first | exact True.intro | refine leF_cons rfl ?_ ?_ | refine leS_cons rfl ?_ ?_ | (show PLe _ _ _ _;conv=>whnf) | (show SLe _ _ _ _;conv=>whnf) | (show PLeL _ _ _ _;conv=>whnf) | apply And.intro | rfl | exact Nat.le_refl _ | exact fun _ _=>rfl | exact rowEq0 _ _)
   rw [hj1]
theorem call117 (τ:Nat) (c:List Pt) (x:Int):PureCall Tryz.prog 117 [.sl τ 2 c.length (fl ePt c), .int .i64 x] [] ⟨.tup [.int .i64 (atC c x).1, .int .i64 (atC c x).2], [], []⟩:=by
 refine pure_call mix Tryz.func117 fits117 rfl ?_
 conv=>whnf
 refine ⟨_,fun _=>call173 _ c, ?_⟩
 by_cases hc:checkC c=0
 ·rw [show atC c x=(valC c x,0) by unfold atC;rw [if_pos hc],hc]
  conv=>whnf
  refine ⟨?_,fun h=>(by cases h),fun _=> ?_⟩
  ·exact g0
  conv=>whnf
  refine ⟨_,fun _=>call174 _ c x ((check_good c).1 hc), ?_⟩
  conv=>whnf
  refine ⟨?_, [], ?_⟩
  ·exact g0
  conv=>whnf
  refine ⟨rfl, ?_,trivial,trivial⟩
  all_goals exact ent
 ·rw [show atC c x=(0,checkC c) by unfold atC;rw [if_neg hc]]
  generalize checkC c=E at hc⊢
  conv=>whnf
  refine ⟨?_,fun h=> ?_,fun h=> ?_⟩
  ·exact g0
  ·conv=>whnf
   refine ⟨?_, [], ?_⟩
   ·exact g0
   conv=>whnf
   refine ⟨rfl, ?_,trivial,trivial⟩
   all_goals exact ent
  ·exact absurd (show E=0 by simpa using h) hc
def lst (st:Bool):Int:=bif st then 1 else 0
theorem call88 (d:Dk) (x y dx dy:Int) (st:Bool) (hd:d.at_≤980000000) (hx:0≤x∧x≤1000000) (hy:0≤y∧y≤1000000) (hdx:1≤dx∧dx≤1000000) (hdy:1≤dy∧dy≤1000000):
  PureCall Tryz.prog 88 [.pt 0 0 0, .int .i64 x, .int .i64 y, .int .i64 dx, .int .i64 dy, .bool st] [.box (eDk 1 d)] ⟨.sl 0 2 (curveS d x y dx dy (lst st)).L.length (fl ePt (curveS d x y dx dy (lst st)).L), [.box (eDk 1 (curveS d x y dx dy (lst st)).d)], []⟩:=by
 have hls:0≤lst st∧lst st≤1:=by cases st<;>decide
 refine pure_call mix Tryz.func88 fits88 rfl ?_
 have r1:=nxt_lt d (n:=4) (by omega)
 have a1:=nxtD_at d 4
 cases st
 ·conv=>whnf
  refine ⟨trivial,fun hc=>absurd hc (by decide),fun _=> ?_⟩
  conv=>whnf
  refine ⟨_,fun _=>call_next 1 d 4 (by omega) (by omega), ?_⟩
  conv=>whnf
  refine ⟨?_, ?_⟩
  ·exact g0
  refine LSem.loop (n:=48) mix (α:=Nat×Cst) (fun s=>s.1≤4∧crvS dx dy 0 s.1 s.2=curveS d x y dx dy 0∧s.2.d.at_+2*s.1≤980000020∧s.2.L.length+s.1≤10∧(0≤s.2.x∧s.2.x+1000001*s.1≤5000010)∧(0≤s.2.y∧s.2.y+1000002*s.1≤5000010))
   (fun s=> [(0, .pt 0 0 0),(1, .int .i64 s.2.x),(2, .int .i64 s.2.y),(3, .int .i64 dx),(4, .int .i64 dy),(13, .int .i64 0),(14, .os 320),(15, .int .i64 s.1)])
   (fun s=> [(0, .box (eDk 1 s.2.d)),(320, .row 0 157 2 s.2.L.length (fl ePt s.2.L))]) (fun s=>s.1) ((1+nxt d 4).toNat,⟨[⟨x,y⟩],x,y,nxtD d 4⟩) ?_ ?_ ?_
  ·refine ⟨by dsimp only;omega,rfl, ?_, ?_, ?_, ?_⟩
   all_goals (dsimp only [List.length_cons,List.length_nil];omega)
  ·refine ⟨rfl,rfl, ?_, ?_⟩
   all_goals repeat' (first | exact True.intro | refine leF_cons rfl ?_ ?_ | refine leS_cons rfl ?_ ?_ | (show PLe _ _ _ _;conv=>whnf) | (show SLe _ _ _ _;conv=>whnf) | (show PLeL _ _ _ _;conv=>whnf) | apply And.intro | rfl | exact Nat.le_refl _ | exact fun _ _=>rfl | exact rowEq0 _ _)
   ·dsimp only;omega
   ·exact fl_one ePt ⟨x,y⟩
  ·intro s hs
   obtain ⟨h1,h2,h3,h4,h5,h6⟩:=hs
   conv=>whnf
   refine ⟨trivial,fun hc=> ?_,fun hc=> ?_⟩
   ·replace hc:=of_decide_eq_true hc
    have h0:0<s.1:=by omega
    conv=>whnf
    have r2:=nxt_lt s.2.d (n:=dx) (by omega)
    have a2:=nxtD_at s.2.d dx
    refine ⟨_,fun _=>call_next 1 s.2.d dx (by omega) (by omega), ?_⟩
    conv=>whnf
    have r3:=nxt_lt (nxtD s.2.d dx) (n:=dy) (by omega)
    have a3:=nxtD_at (nxtD s.2.d dx) dy
    refine ⟨_,fun _=>call_next 1 (nxtD s.2.d dx) dy (by omega) (by omega), ?_⟩
    conv=>whnf
    refine ⟨?_,(s.1 - 1,crvN dx dy 0 s.2),⟨?_, ?_, ?_, ?_, ?_, ?_⟩, ?_,rfl,rfl, ?_, ?_⟩
    ·exact g0
    ·dsimp only;omega
    ·rw [←h2];dsimp only
     rw [show s.1=(s.1 - 1)+1 by omega];rfl
    ·dsimp only [crvN];omega
    ·dsimp only [crvN];rw [List.length_append,List.length_cons,List.length_nil];omega
    ·dsimp only [crvN];omega
    ·dsimp only [crvN];omega
    ·dsimp only;omega
    all_goals repeat' (first | exact True.intro | refine leF_cons rfl ?_ ?_ | refine leS_cons rfl ?_ ?_ | (show PLe _ _ _ _;conv=>whnf) | (show SLe _ _ _ _;conv=>whnf) | (show PLeL _ _ _ _;conv=>whnf) | apply And.intro | rfl | exact Nat.le_refl _ | exact fun _ _=>rfl | exact rowEq0 _ _)
    all_goals (try dsimp only)
    all_goals (try omega)
    ·simp [crvN]
    ·exact fl_push ePt s.2.L ⟨s.2.x+1+nxt s.2.d dx,s.2.y+0+nxt (nxtD s.2.d dx) dy⟩
   ·replace hc:=of_decide_eq_false hc
    rw [show s.1=0 by omega] at h2
    rw [show lst false=0 from rfl,←h2]
    conv=>whnf
    refine ⟨?_, [], ?_⟩
    ·exact g0
    conv=>whnf
    refine ⟨rfl, ?_, ?_,trivial⟩
    all_goals exact ent
 ·conv=>whnf
  refine ⟨trivial,fun _=> ?_,fun hc=>absurd hc (by decide)⟩
  conv=>whnf
  refine ⟨_,fun _=>call_next 1 d 4 (by omega) (by omega), ?_⟩
  conv=>whnf
  refine ⟨?_, ?_⟩
  ·exact g0
  refine LSem.loop (n:=48) mix (α:=Nat×Cst) (fun s=>s.1≤4∧crvS dx dy 1 s.1 s.2=curveS d x y dx dy 1∧s.2.d.at_+2*s.1≤980000020∧s.2.L.length+s.1≤10∧(0≤s.2.x∧s.2.x+1000001*s.1≤5000010)∧(0≤s.2.y∧s.2.y+1000002*s.1≤5000010))
   (fun s=> [(0, .pt 0 0 0),(1, .int .i64 s.2.x),(2, .int .i64 s.2.y),(3, .int .i64 dx),(4, .int .i64 dy),(13, .int .i64 1),(14, .os 320),(15, .int .i64 s.1)])
   (fun s=> [(0, .box (eDk 1 s.2.d)),(320, .row 0 157 2 s.2.L.length (fl ePt s.2.L))]) (fun s=>s.1) ((1+nxt d 4).toNat,⟨[⟨x,y⟩],x,y,nxtD d 4⟩) ?_ ?_ ?_
  ·refine ⟨by dsimp only;omega,rfl, ?_, ?_, ?_, ?_⟩
   all_goals (dsimp only [List.length_cons,List.length_nil];omega)
  ·refine ⟨rfl,rfl, ?_, ?_⟩
   all_goals repeat' (first | exact True.intro | refine leF_cons rfl ?_ ?_ | refine leS_cons rfl ?_ ?_ | (show PLe _ _ _ _;conv=>whnf) | (show SLe _ _ _ _;conv=>whnf) | (show PLeL _ _ _ _;conv=>whnf) | apply And.intro | rfl | exact Nat.le_refl _ | exact fun _ _=>rfl | exact rowEq0 _ _)
   ·dsimp only;omega
   ·exact fl_one ePt ⟨x,y⟩
  ·intro s hs
   obtain ⟨h1,h2,h3,h4,h5,h6⟩:=hs
   conv=>whnf
   refine ⟨trivial,fun hc=> ?_,fun hc=> ?_⟩
   ·replace hc:=of_decide_eq_true hc
    have h0:0<s.1:=by omega
    conv=>whnf
    have r2:=nxt_lt s.2.d (n:=dx) (by omega)
    have a2:=nxtD_at s.2.d dx
    refine ⟨_,fun _=>call_next 1 s.2.d dx (by omega) (by omega), ?_⟩
    conv=>whnf
    have r3:=nxt_lt (nxtD s.2.d dx) (n:=dy) (by omega)
    have a3:=nxtD_at (nxtD s.2.d dx) dy
    refine ⟨_,fun _=>call_next 1 (nxtD s.2.d dx) dy (by omega) (by omega), ?_⟩
    conv=>whnf
    refine ⟨?_,(s.1 - 1,crvN dx dy 1 s.2),⟨?_, ?_, ?_, ?_, ?_, ?_⟩, ?_,rfl,rfl, ?_, ?_⟩
    ·exact g0
    ·dsimp only;omega
    ·rw [←h2];dsimp only
     rw [show s.1=(s.1 - 1)+1 by omega];rfl
    ·dsimp only [crvN];omega
    ·dsimp only [crvN];rw [List.length_append,List.length_cons,List.length_nil];omega
    ·dsimp only [crvN];omega
    ·dsimp only [crvN];omega
    ·dsimp only;omega
    all_goals repeat' (first | exact True.intro | refine leF_cons rfl ?_ ?_ | refine leS_cons rfl ?_ ?_ | (show PLe _ _ _ _;conv=>whnf) | (show SLe _ _ _ _;conv=>whnf) | (show PLeL _ _ _ _;conv=>whnf) | apply And.intro | rfl | exact Nat.le_refl _ | exact fun _ _=>rfl | exact rowEq0 _ _)
    all_goals (try dsimp only)
    all_goals (try omega)
    ·simp [crvN]
    ·exact fl_push ePt s.2.L ⟨s.2.x+1+nxt s.2.d dx,s.2.y+1+nxt (nxtD s.2.d dx) dy⟩
   ·replace hc:=of_decide_eq_false hc
    rw [show s.1=0 by omega] at h2
    rw [show lst true=1 from rfl,←h2]
    conv=>whnf
    refine ⟨?_, [], ?_⟩
    ·exact g0
    conv=>whnf
    refine ⟨rfl, ?_, ?_,trivial⟩
    all_goals exact ent
namespace G02
def c56:C:=(sr [kk 4 (.mv cf)] (sr [km 5 0,kb 6 .geq 5 (cn 0),km 7 6,kg 8 7 true (.mv 0),kg 9 7 true (.mv 1),kg 10 7 true (.bi false .leq 8 9),kk 11 (.pick 7 10 cf),km 4 11] .ret))
theorem fits56:fits Tryz.prog false Tryz.f56 2 12 [(4,none)]=some c56.er:=by kernel_rfl
def c200:C:=(sr [kk 4 (.mv cf)] (sr [km 5 0,kb 6 .gtr 5 (cn 0),km 7 6,kg 8 7 true (.mv 1),kg 9 7 true (.mv 0),kg 10 7 true (.bi false .quo (cn 4611686018427387904) 9),kg 11 7 true (.bi false .gtr 8 10),kk 12 (.pick 7 11 cf),km 4 12] .ret))
theorem fits200:fits Tryz.prog false Tryz.f200 2 13 [(4,none)]=some c200.er:=by kernel_rfl
def c152L1:C:=(sr [kb 17 .lss 16 15] (.seq (.cond 17 .skip (.exit 1)) (.seq (.block 2 (sr [km 18 16,ki 19 2 14 16,kt 20 2 19,kk 4 (.al [z0,z0]),km 3 18,kx 2 4 20] (.seq (sr [kf 21 0 4,kl 22 21,kc 23 56 [22,(cn 1073741824)],kk 24 (.un false .not 23),km 25 24,kg 26 25 false (.fa 1 4),kg 27 25 false (.ld 1 false 26),kg 28 25 false (cl 56 [27,(cn 274877906944)]),kg 29 25 false (.un false .not 28),kk 30 (.pick 25 ct 29)] (.cond 30 (sr [kk 2 (.mv (cn 1))] .ret) .skip)) (.seq (sr [km 31 3,kb 32 .eql 31 (cn 0)] (.cond 32 (.exit 2) .skip)) (sr [km 33 0,km 34 3,kb 35 .sub 34 (cn 1),ki 36 2 33 35,kt 37 2 36,kk 5 (.al [z0,z0]),kx 2 5 37] (.block 3 (sr [kf 39 0 4,kl 40 39,kf 41 0 5,kl 42 41,kb 43 .leq 40 42,km 44 43,kg 45 44 false (.fa 1 4),kg 46 44 false (.ld 1 false 45),kg 47 44 false (.fa 1 5),kg 48 44 false (.ld 1 false 47),kg 49 44 false (.bi false .lss 46 48),kk 50 (.pick 44 ct 49),km 38 50] (.cond 38 (sr [kk 2 (.mv (cn 4))] .ret) (sr [kf 52 0 4,kl 53 52,kf 54 0 5,kl 55 54,kb 56 .sub 53 55,kf 57 1 4,kl 58 57,kf 59 1 5,kl 60 59,kb 61 .sub 58 60,kc 62 200 [56,61],km 51 62] (.cond 51 (sr [kk 2 (.mv (cn 1))] .ret) .skip)))))))))) (.reg [kb 63 .add 16 (cn 1),km 16 63]))))
def c152:C:=(sr [kk 2 (.mv (cn 0))] (.seq (.block 0 (sr [km 7 0,kk 8 (.len 7),kb 9 .eql 8 (cn 0),km 6 9] (.cond 6 (sr [kk 2 (.mv (cn 3))] .ret) (sr [km 11 0,kk 12 (.len 11),kb 13 .gtr 12 (cn 100),km 10 13] (.cond 10 (sr [kk 2 (.mv (cn 10))] .ret) .skip))))) (.seq (sr [km 14 0,kk 15 (.len 14),kk 16 (.mv (cn 0))] (.block 1 (.loop c152L1))) (sr [kk 2 (.mv (cn 0))] .ret))))
theorem fits152:fits Tryz.prog false Tryz.f152 1 64 [(2,none)]=some c152.er:=by kernel_rfl
def c97L1:C:=(sr [kb 11 .lss 10 9] (.seq (.cond 11 .skip (.exit 0)) (.seq (.block 1 (sr [km 12 10,ki 13 2 8 10,kt 14 2 13,kk 6 (.al [z0,z0]),km 5 12,kx 2 6 14] (.block 2 (sr [km 16 1,kf 17 0 6,kl 18 17,kb 19 .leq 16 18,km 20 19,kg 21 20 true (.mv 5),kg 22 20 true (.bi false .eql 21 (cn 0)),kk 23 (.pick 20 22 cf),km 15 23] (.cond 15 (sr [kf 24 1 6,kl 25 24,km 4 25] .ret) (sr [km 27 1,kf 28 0 6,kl 29 28,kb 30 .leq 27 29,km 26 30] (.cond 26 (sr [km 31 0,km 32 5,kb 33 .sub 32 (cn 1),ki 34 2 31 33,kt 35 2 34,kk 7 (.al [z0,z0]),kx 2 7 35] (.seq (.drw [kf 36 1 7,kl 37 36,kf 38 1 6,kl 39 38,kf 40 1 7,kl 41 40,kb 42 .sub 39 41,km 43 1,kf 44 0 7,kl 45 44,kb 46 .sub 43 45,kb 47 .mul 42 46,kf 48 0 6,kl 49 48,kf 50 0 7,kl 51 50,kb 52 .sub 49 51,kb 53 .quo 47 52,kb 54 .add 37 53,km 4 54] (pl [(0,[2,3,4,5,6,7,8,9,10,11,12,13,14,15,16,17],36),(1,[2,3,4,5,6,7,8,9,10,11,12,13,14,15,16,17],37),(2,[4,5,7,8,9,10,12,13,14,15,16],38),(3,[4,5,7,8,9,10,12,13,14,15,16],39),(4,[7,8,9,10,12,13,14,15,16],40),(5,[7,8,9,10,12,13,14,15,16],41),(6,[7,8,9,10,12,13,14,15,16],42),(7,[8,9,12,13,14,15,16],43),(8,[12,13,14,15,16],44),(9,[12,13,14,15,16],45),(10,[12,13,14,15,16],46),(11,[12,13,14,15,16],47),(12,[14,15],48),(13,[14,15],49)])) .ret)) .skip))))))) (.reg [kb 55 .add 10 (cn 1),km 10 55]))))
def c97:C:=(sr [kk 4 (.mv (cn 0))] (.seq (sr [km 8 0,kk 9 (.len 8),kk 10 (.mv (cn 0))] (.block 0 (.loop c97L1))) (sr [km 56 0,km 57 0,kk 58 (.len 57),kb 59 .sub 58 (cn 1),ki 60 2 56 59,kf 61 1 60,kl 62 61,km 4 62] .ret)))
theorem fits97:fits Tryz.prog false Tryz.f97 2 63 [(4,none)]=some c97.er:=by kernel_rfl
theorem call56 (n m:Int):PureCall Tryz.prog 56 [.int .i64 n, .int .i64 m] [] ⟨.bool (decide (0≤n∧n≤m)), [], []⟩:=by
 refine pure_call mix Tryz.func56 fits56 rfl ?_
 conv=>whnf
 refine ⟨?_, [], ?_⟩
 ·exact g0
 conv=>whnf
 refine ⟨rfl, ?_,trivial,trivial⟩
 all_goals repeat' (first | exact True.intro | refine leF_cons rfl ?_ ?_ | refine leS_cons rfl ?_ ?_ | (show PLe _ _ _ _;conv=>whnf) | (show SLe _ _ _ _;conv=>whnf) | (show PLeL _ _ _ _;conv=>whnf) | apply And.intro | rfl | exact Nat.le_refl _ | exact fun _ _=>rfl | exact rowEq0 _ _)
 by_cases h:0≤n<;>simp [h]
theorem call200 (dx dy:Int) (h:inR .i64 dx):PureCall Tryz.prog 200 [.int .i64 dx, .int .i64 dy] [] ⟨.bool (steepF dx dy), [], []⟩:=by
 refine pure_call mix Tryz.func200 fits200 rfl ?_
 conv=>whnf
 refine ⟨?_, [], ?_⟩
 ·conv=>whnf
  refine ⟨⟨⟨⟨⟨trivial,fun _ h=>h⟩, ?_⟩,fun _ h=>h⟩,fun _ h=>h⟩,fun h=>by rw [h];rfl⟩
  intro hg
  have hg:0<dx:=by simpa using hg
  rw [inR64] at h
  refine ⟨by omega, ?_⟩
  rw [Int.tdiv_eq_ediv_of_nonneg (by omega)]
  have h1:0≤4611686018427387904 / dx:=Int.ediv_nonneg (by omega) (by omega)
  have h2:4611686018427387904 / dx≤4611686018427387904:=Int.ediv_le_self _ (by omega)
  exact inR64_of (by omega) (by omega)
 conv=>whnf
 refine ⟨rfl, ?_,trivial,trivial⟩
 all_goals repeat' (first | exact True.intro | refine leF_cons rfl ?_ ?_ | refine leS_cons rfl ?_ ?_ | (show PLe _ _ _ _;conv=>whnf) | (show SLe _ _ _ _;conv=>whnf) | (show PLeL _ _ _ _;conv=>whnf) | apply And.intro | rfl | exact Nat.le_refl _ | exact fun _ _=>rfl | exact rowEq0 _ _)
 unfold steepF
 by_cases h:0<dx<;>simp [h]
 rw [Int.tdiv_eq_ediv_of_nonneg (by omega)]
theorem call152 (τ:Nat) (c:List Pt):PureCall Tryz.prog 152 [.sl τ 2 c.length (fl ePt c)] [] ⟨.int .i64 (checkC c), [], []⟩:=by
 refine pure_call mix Tryz.func152 fits152 rfl ?_
 conv=>whnf
 refine ⟨?_,fun hc=> ?_,fun hc=> ?_⟩
 ·exact g0
 ·simp [-List.getD_eq_getElem?_getD, -Int.default_eq_zero] at hc
  rw [show checkC c=3 by unfold checkC;rw [if_pos (by rw [hc];rfl)]]
  conv=>whnf
  refine ⟨?_, [], ?_⟩
  ·exact g0
  conv=>whnf
  refine ⟨rfl, ?_,trivial,trivial⟩
  all_goals exact ent
 simp [-List.getD_eq_getElem?_getD, -Int.default_eq_zero] at hc
 have h0:¬c.length=0:=by simpa using hc
 conv=>whnf
 refine ⟨?_,fun hc=> ?_,fun hc=> ?_⟩
 ·exact g0
 ·replace hc:=of_decide_eq_true hc
  rw [show checkC c=10 by unfold checkC;rw [if_neg h0,if_pos (by omega)]]
  conv=>whnf
  refine ⟨?_, [], ?_⟩
  ·exact g0
  conv=>whnf
  refine ⟨rfl, ?_,trivial,trivial⟩
  all_goals exact ent
 replace hc:=of_decide_eq_false hc
 have h1:¬c.length>100:=by omega
 have hck:checkC c=scan (errC c) 0 c.length:=by unfold checkC;rw [if_neg h0,if_neg h1]
 rw [hck]
 conv=>whnf
 refine ⟨trivial, ?_⟩
 refine LSem.loop (n:=64) mix (α:=Nat) (fun i=>i≤c.length∧scan (errC c) i (c.length - i)=scan (errC c) 0 c.length∧∀j,j<i→errC c j=0)
  (fun i=> [(0, .sl τ 2 c.length (fl ePt c)),(14, .sl τ 2 c.length (fl ePt c)),(15, .int .i64 c.length),(16, .int .i64 i)])
  (fun _=> []) (fun i=>c.length - i) 0 ?_ ?_ ?_
 ·exact ⟨Nat.zero_le _,rfl,fun j hj=>by omega⟩
 ·refine ⟨rfl,rfl, ?_, ?_⟩
  all_goals exact ent
 ·intro i hi
  obtain ⟨hi,hs,hall⟩:=hi
  have hj:((i:Int)).toNat=i:=by omega
  conv=>whnf
  refine ⟨trivial,fun hc=> ?_,fun hc=> ?_⟩
  ·replace hc:=of_decide_eq_true hc
   have hlt:i<c.length:=by omega
   have hall':errC c i=0→∀j,j<i+1→errC c j=0:=fun h j hj=>by
    by_cases e:j=i
    ·subst e;exact h
    ·exact hall j (by omega)
   conv=>whnf
   refine ⟨_,fun _=>call56 (c.getD ((i:Int)).toNat default).x 1073741824, ?_⟩
   conv=>whnf
   refine ⟨_,fun _=>call56 (c.getD ((i:Int)).toNat default).y 274877906944, ?_⟩
   conv=>whnf
   have herr:errC c i≠0→scan (errC c) 0 c.length=errC c i:=fun h=>by rw [←hs];exact scan_hit (by omega) h
   have hnext:errC c i=0→scan (errC c) (i+1) (c.length - (i+1))=scan (errC c) 0 c.length:=fun h=>by rw [←hs,scan_step (by omega) h];congr 1
   refine ⟨?_,fun hc1=> ?_,fun hc1=> ?_⟩
   ·exact g0
   ·have he:errC c i=1:=by
      rw [hj] at hc1
      unfold errC
      rw [if_pos (by simp only [bp] at hc1;omega)]
    rw [herr (by rw [he];decide),he]
    conv=>whnf
    refine ⟨?_, [], ?_⟩
    ·exact g0
    conv=>whnf
    refine ⟨rfl, ?_,trivial,trivial⟩
    all_goals exact ent
   have hr:(0≤(c.getD i default).x∧(c.getD i default).x≤1073741824)∧(0≤(c.getD i default).y∧(c.getD i default).y≤274877906944):=by
    rw [hj] at hc1
    simp only [bp] at hc1
    omega
   conv=>whnf
   refine ⟨trivial,fun hc2=> ?_,fun hc2=> ?_⟩
   ·have h0:i=0:=by simpa using hc2
    conv=>whnf
    have he:errC c i=0:=by unfold errC;rw [if_neg (by omega),if_pos h0]
    refine ⟨?_,i+1,⟨by omega,hnext he,hall' he⟩, ?_,rfl,rfl, ?_, ?_⟩
    ·exact g0
    ·omega
    all_goals exact ent
   have h0:¬i=0:=by simpa using hc2
   have hj1:((i:Int) - 1).toNat=i - 1:=by omega
   have hm1:(0≤(c.getD (i - 1) default).x∧(c.getD (i - 1) default).x≤1073741824)∧(0≤(c.getD (i - 1) default).y∧(c.getD (i - 1) default).y≤274877906944):=by
    have:=hall (i - 1) (by omega)
    unfold errC at this
    split at this
    ·cases this
    ·omega
   conv=>whnf
   refine ⟨?_,fun hc3=> ?_,fun hc3=> ?_⟩
   ·exact g0
   ·have he:errC c i=4:=by
      rw [hj,hj1] at hc3
      unfold errC
      rw [if_neg (by omega),if_neg h0,if_pos (by simp only [bp] at hc3;omega)]
    rw [herr (by rw [he];decide),he]
    conv=>whnf
    refine ⟨?_, [], ?_⟩
    ·exact g0
    conv=>whnf
    refine ⟨rfl, ?_,trivial,trivial⟩
    all_goals exact ent
   have hle:¬((c.getD i default).x≤(c.getD (i - 1) default).x∨(c.getD i default).y<(c.getD (i - 1) default).y):=by
    rw [hj,hj1] at hc3
    simp only [bp] at hc3
    omega
   conv=>whnf
   refine ⟨_,fun _=>call200 ((c.getD ((i:Int)).toNat default).x - (c.getD ((i:Int) - 1).toNat default).x) ((c.getD ((i:Int)).toNat default).y - (c.getD ((i:Int) - 1).toNat default).y) (by rw [hj,hj1];exact inR64_of (by omega) (by omega)), ?_⟩
   conv=>whnf
   refine ⟨?_,fun hc4=> ?_,fun hc4=> ?_⟩
   ·rw [hj,hj1]
    exact g0
   ·have he:errC c i=1:=by
      rw [hj,hj1] at hc4
      unfold errC
      rw [if_neg (by omega),if_neg h0,if_neg hle,if_pos hc4]
    rw [herr (by rw [he];decide),he]
    conv=>whnf
    refine ⟨?_, [], ?_⟩
    ·exact g0
    conv=>whnf
    refine ⟨rfl, ?_,trivial,trivial⟩
    all_goals exact ent
   ·conv=>whnf
    have he:errC c i=0:=by
     rw [hj,hj1] at hc4
     unfold errC;rw [if_neg (by omega),if_neg h0,if_neg hle,if_neg (by rw [hc4];decide)]
    refine ⟨?_,i+1,⟨by omega,hnext he,hall' he⟩, ?_,rfl,rfl, ?_, ?_⟩
    ·exact g0
    ·omega
    all_goals exact ent
  ·replace hc:=of_decide_eq_false hc
   have hz:scan (errC c) 0 c.length=0:=by rw [←hs,show c.length - i=0 by omega];rfl
   rw [hz]
   conv=>whnf
   refine ⟨?_, [], ?_⟩
   ·exact g0
   conv=>whnf
   refine ⟨rfl, ?_,trivial,trivial⟩
   all_goals exact ent
theorem call97 (τ:Nat) (c:List Pt) (x:Int) (hg:GoodC c):PureCall Tryz.prog 97 [.sl τ 2 c.length (fl ePt c), .int .i64 x] [] ⟨.int .i64 (valC c x), [], []⟩:=by
 have hle:=hg.le
 have hne:=hg.ne
 refine pure_call mix Tryz.func97 fits97 rfl ?_
 conv=>whnf
 refine ⟨trivial, ?_⟩
 refine LSem.loop (n:=63) mix (α:=Nat) (fun i=>i≤c.length∧valA c x i (c.length - i)=valC c x∧(0<i→(c.getD (i - 1) default).x<x))
  (fun i=> [(0, .sl τ 2 c.length (fl ePt c)),(1, .int .i64 x),(8, .sl τ 2 c.length (fl ePt c)),(9, .int .i64 c.length),(10, .int .i64 i)])
  (fun _=> []) (fun i=>c.length - i) 0 ?_ ?_ ?_
 ·exact ⟨Nat.zero_le _,rfl,fun h=>by omega⟩
 ·refine ⟨rfl,rfl, ?_, ?_⟩
  all_goals exact ent
 ·intro i hi
  obtain ⟨hi,hs,hx⟩:=hi
  have hj:((i:Int)).toNat=i:=by omega
  conv=>whnf
  refine ⟨trivial,fun hc=> ?_,fun hc=> ?_⟩
  ·replace hc:=of_decide_eq_true hc
   have hlt:i<c.length:=by omega
   have hst:valA c x i (c.length - i)=if x≤(c.getD i default).x then (if i=0 then (c.getD i default).y else lineF (c.getD i default) (c.getD (i - 1) default) x) else valA c x (i+1) (c.length - (i+1)):=by
    rw [show c.length - i=(c.length - (i+1))+1 by omega];rfl
   rw [hst] at hs
   conv=>whnf
   refine ⟨?_,fun hc1=> ?_,fun hc1=> ?_⟩
   ·exact g0
   ·rw [hj] at hc1
    simp only [bp] at hc1
    rw [if_pos (by omega),if_pos (by omega)] at hs
    rw [←hs]
    conv=>whnf
    refine ⟨?_, [], ?_⟩
    ·exact g0
    conv=>whnf
    refine ⟨rfl, ?_,trivial,trivial⟩
    all_goals exact ent
   rw [hj] at hc1
   simp only [bp] at hc1
   conv=>whnf
   refine ⟨trivial,fun hc2=> ?_,fun hc2=> ?_⟩
   ·have hc2:=of_decide_eq_true hc2
    rw [hj] at hc2
    have h0:¬i=0:=by omega
    have hj1:((i:Int) - 1).toNat=i - 1:=by omega
    rw [if_pos hc2,if_neg h0] at hs
    rw [←hs]
    have hr:=hg.rng i hlt
    have hr1:=hg.rng (i - 1) (by omega)
    have hu:=hg.up i (by omega) hlt
    have hxx:=hx (by omega)
    conv=>whnf
    refine ⟨rfl, ?_⟩
    conv=>whnf
    have hp:0≤((c.getD ((i:Int)).toNat default).y - (c.getD ((i:Int) - 1).toNat default).y)*(x - (c.getD ((i:Int) - 1).toNat default).x)∧((c.getD ((i:Int)).toNat default).y - (c.getD ((i:Int) - 1).toNat default).y)*(x - (c.getD ((i:Int) - 1).toNat default).x)≤4611686018427387904:=by
     rw [hj,hj1]
     exact prod_le (by omega) (Int.le_refl _) (by omega) (by omega) hu.2.2
    have hq:Int.tdiv (((c.getD ((i:Int)).toNat default).y - (c.getD ((i:Int) - 1).toNat default).y)*(x - (c.getD ((i:Int) - 1).toNat default).x)) ((c.getD ((i:Int)).toNat default).x - (c.getD ((i:Int) - 1).toNat default).x)=(((c.getD ((i:Int)).toNat default).y - (c.getD ((i:Int) - 1).toNat default).y)*(x - (c.getD ((i:Int) - 1).toNat default).x)) / ((c.getD ((i:Int)).toNat default).x - (c.getD ((i:Int) - 1).toNat default).x):=Int.tdiv_eq_ediv_of_nonneg hp.1
    have hq2:0≤(((c.getD ((i:Int)).toNat default).y - (c.getD ((i:Int) - 1).toNat default).y)*(x - (c.getD ((i:Int) - 1).toNat default).x)) / ((c.getD ((i:Int)).toNat default).x - (c.getD ((i:Int) - 1).toNat default).x):=Int.ediv_nonneg hp.1 (by rw [hj,hj1];omega)
    have hq3:(((c.getD ((i:Int)).toNat default).y - (c.getD ((i:Int) - 1).toNat default).y)*(x - (c.getD ((i:Int) - 1).toNat default).x)) / ((c.getD ((i:Int)).toNat default).x - (c.getD ((i:Int) - 1).toNat default).x)≤((c.getD ((i:Int)).toNat default).y - (c.getD ((i:Int) - 1).toNat default).y):=by
     rw [hj,hj1]
     refine Int.ediv_le_of_le_mul (by omega) (Int.mul_le_mul_of_nonneg_left (by omega) (by omega))
    refine ⟨?_, [], ?_⟩
    ·rw [hq]
     rw [hj,hj1] at hq2 hq3 hp⊢
     exact g0
    conv=>whnf
    refine ⟨rfl, ?_,trivial,trivial⟩
    all_goals repeat' (first | exact True.intro | refine leF_cons rfl ?_ ?_ | refine leS_cons rfl ?_ ?_ | (show PLe _ _ _ _;conv=>whnf) | (show SLe _ _ _ _;conv=>whnf) | (show PLeL _ _ _ _;conv=>whnf) | apply And.intro | rfl | exact Nat.le_refl _ | exact fun _ _=>rfl | exact rowEq0 _ _)
    rw [hq,hj,hj1];rfl
   ·have hc2:=of_decide_eq_false hc2
    rw [hj] at hc2
    rw [if_neg (by omega)] at hs
    conv=>whnf
    refine ⟨?_,i+1,⟨by omega,hs,fun _=>by simp [-List.getD_eq_getElem?_getD];omega⟩, ?_,rfl,rfl, ?_, ?_⟩
    ·exact g0
    ·omega
    all_goals exact ent
  ·replace hc:=of_decide_eq_false hc
   have:=hg.ne
   rw [show c.length - i=0 by omega] at hs
   rw [←hs]
   conv=>whnf
   refine ⟨?_, [], ?_⟩
   ·exact g0
   conv=>whnf
   refine ⟨rfl, ?_,trivial,trivial⟩
   all_goals repeat' (first | exact True.intro | refine leF_cons rfl ?_ ?_ | refine leS_cons rfl ?_ ?_ | (show PLe _ _ _ _;conv=>whnf) | (show SLe _ _ _ _;conv=>whnf) | (show PLeL _ _ _ _;conv=>whnf) | apply And.intro | rfl | exact Nat.le_refl _ | exact fun _ _=>rfl | exact rowEq0 _ _)
   rw [show ((c.length:Int) - 1).toNat=c.length - 1 by omega];rfl
end G02
end Pv
end Go.Proofs.YtdcgnfkkklbckaaGreatDoor
