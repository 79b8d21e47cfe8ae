/- TOP, THE WALKS: numbers in the order of a rank. -/
import Derived.Test.YtdcgnfkkklbckaaGreatDoorZui
import Derived.Defers
import Derived.Test.YtdcgnfkkklbckaaGreatDoorZug
import Derived.Test.YtdcgnfkkklbckaaGreatDoorZuf
set_option linter.unusedSimpArgs false
set_option linter.unusedVariables false
set_option maxRecDepth 100000
set_option maxHeartbeats 16000000
namespace Go.Proofs.YtdcgnfkkklbckaaGreatDoor
namespace Pv
open Go.RowKit
section
variable {P:Program}
def CallsN (P:Program) (f:FuncId) (args:Array Value) (w:World) (R:Ending→World→Prop):Prop:=CallsD P f args .returning w fun e u' w'=>u'= .returning∧R e w'
theorem callsN_mono (P:Program):MonoC (CallsN P):=fun _ _ _ _ _ h hr=>CallsD.mono h fun e u' w' ⟨h1,h2⟩=>⟨h1,hr e w' h2⟩
theorem PureBody.callN {f:FuncId} {args:List PV} {bs:List SE} {c:CallRes} (h:PureBody P f args bs c):PureCallC (CallsN P) P f args bs c:=
 ⟨h.1,fun w γ aas ls vals h1 h2 h3=>by
  obtain ⟨fn,cc,hf,hb,hw⟩:=h.2 w γ aas ls vals h1 h2 h3
  exact callsD_of_wp hf hb hw⟩
theorem Rep.df {lo np:Nat} {aas0 ls:Nat→Prop} {g0:Nat→Option GE} {d d':List Deferred} {γ:Gh} {w:World} {p:PV} {v:Value} (h:Rep ⟨lo,aas0,ls,np,g0,d⟩ γ w p v):Rep ⟨lo,aas0,ls,np,g0,d'⟩ γ w p v:=by
 induction h with
 | int k n=>exact .int k n
 | bool b=>exact .bool b
 | str s=>exact .str s
 | agg cs vs hl hc h ih=>exact .agg cs vs hl hc ih
 | tup cs vs hl h ih=>exact .tup cs vs hl ih
 | sl τ z n f ad cap vs hcap hz hf hb h ih=>exact .sl τ z n f ad cap vs hcap hz hf hb ih
 | nil z=>exact .nil z
 | os r ge hg h1 h2=>exact .os r ge hg h1 h2
 | vw h r lo n ge ad m cap hg hh hle h0 h2=>exact .vw h r lo n ge ad m cap hg hh hle h0 h2
 | pt r i j ge b hg hb=>exact .pt r i j ge b hg hb
 | rf r ge b hg hb=>exact .rf r ge b hg hb
 | rfs z n r ge b hg hb=>exact .rfs z n r ge b hg hb
 | rp τ cs a vs hf hb hc h ih=>exact .rp τ cs a vs hf hb hc ih
 | fn f first caps vs us hl hl' h h' ih ih'=>exact .fn f first caps vs us hl hl' ih ih'
 | raw v h1=>exact .raw v h1
 | cnd g p v h hu ih=>exact .cnd g p v ih hu
 | junk v=>exact .junk v
theorem RepL.df {lo np:Nat} {aas0 ls:Nat→Prop} {g0:Nat→Option GE} {d d':List Deferred} {γ:Gh} {w:World} {ps:List PV} {vs:List Value} (h:RepL ⟨lo,aas0,ls,np,g0,d⟩ γ w ps vs):RepL ⟨lo,aas0,ls,np,g0,d'⟩ γ w ps vs:=
 ⟨h.1,fun k c u h1 h2=>(h.2 k c u h1 h2).df⟩
theorem RepSt.df {lo np:Nat} {aas0 ls:Nat→Prop} {g0:Nat→Option GE} {d d':List Deferred} {γ:Gh} {w:World} {st:Nat→Option SE} (h:RepSt ⟨lo,aas0,ls,np,g0,d⟩ γ w st):RepSt ⟨lo,aas0,ls,np,g0,d'⟩ γ w st:=by
 refine ⟨h.dom,fun r ge e h1 h2=> ?_,h.inj,h.asOff,h.lt,h.glob⟩
 have h3:=h.at_ r ge e h1 h2
 cases e with
 | box l=>
   obtain ⟨b,k1,k2⟩:=h3
   refine ⟨b,k1,k2.imp ?_ id⟩
   rintro ⟨T,vs,q1,q2,q3⟩
   exact ⟨T,vs,q1,q2,q3.df⟩
 | row τ e z n f=>
   obtain ⟨vs,k1,k2,k3,k4,k5,k6,k7,k8⟩:=h3
   exact ⟨vs,k1,k2,k3,k4,k5,k6,k7,fun i j c u a1 a2 a3=>(k8 i j c u a1 a2 a3).df⟩
 | bld T e s=>exact h3
def defSt (RB:Orc) (F:FuncId) (st:Nat→Option SE):Option (Nat→Option SE):=match st 0 with
 | some (.box l)=>match lendCells l with
   | some l0=>match RB F [.pt 0 0 0] [.box l0] with
     | some ⟨_, [.box l1], []⟩=>match PV.idsL l1,natIn F givers,natIn F readers with
       | [],false,false=>some (upd st 0 (.box l1))
       | _,_,_=>none
     | _=>none
   | none=>none
 | _=>none
def defSts (RB:Orc):List FuncId→(Nat→Option SE)→Option (Nat→Option SE)
 | [],st=>some st
 | F::Fs,st=>match defSt RB F st with
   | some st'=>defSts RB Fs st'
   | none=>none
variable {X:Cx} {w0:World} {may:Nat→Prop}
theorem voidF_nil' {p:PV}:p.void []=p:=by
 have:=voidF_nil (fr:=fun _=>some p)
 have h2:=congrFun this 0
 simpa [voidF] using h2
theorem leaves_run {fn:Func} {tmps:Array Value} {v:Value} {R:Ending→World→Prop} {RB:Orc} (hRB:∀f args bs c,RB f args bs=some c→PureBody P f args bs c):
  ∀(Fs:List FuncId) (a:Act) (w:World) (s:PS) (γ:Gh) (st':Nat→Option SE),Rel X w0 may a w s γ→Rep X γ w (.pt 0 0 0) v→defSts RB Fs s.st=some st'→
  (∀w' γ',Rel X w0 may a w' ⟨s.n,s.fr,st',True,fun _=>none⟩ γ'→∃u,(results fn tmps).run P w'= .ok u w'∧R (.returned u) w')→
  Leaves P fn tmps R (Fs.map fun F=>⟨.fn (.func F) #[], #[v]⟩) .returning w
 | [],a,w,s,γ,st',hR,hv,h,hK=>by
   simp only [defSts,Option.some.injEq] at h;subst h
   exact hK w γ ⟨hR.1,hR.2,hR.3,hR.4,hR.5,hR.6,hR.7,hR.8,hR.9,hR.10,hR.11,hR.12⟩
 | F::Fs,a,w,s,γ,st',hR,hv,h,hK=>by
   simp only [defSts] at h
   split at h
   ·rename_i st1 h1
    unfold defSt at h1
    split at h1
    ·rename_i l hl
     split at h1
     ·rename_i l0 hl0
      split at h1
      ·rename_i cv l1 hc
       split at h1
       ·rename_i hi hg hrd
        injection h1 with h1;subst h1
        have hpb:=(hRB _ _ _ _ hc).callN
        have hE:callV (PureCallC (CallsN P) P) 16 ⟨cv, [.box l1], []⟩ (.fn (.func F) [] []) [.pt 0 0 0] [0] [.box l]=some ⟨PV.ren (backName [(0, .box l0)] 16) cv, [PureCallC (CallsN P) P F [.pt 0 0 0] [.box l0] ⟨cv, [.box l1], []⟩], [(0, .box l1)], [], [], []⟩:=by
         have e1:PV.renL (backName [(0, .box l0)] 16) l1=l1:=ren_ofL _ (fun r hr=>by rw [hi] at hr;simp at hr)
         unfold callV callA
         simp [hg,hrd,lendL,lend,boxNo,boxesOf,hl0,sameKinds,SE.kind,SE.isRow,SE.ren,e1,newBase,fixAny]
        have hnew:newSt 16 [] [] [(0, .box l1)] [] s.st=some (upd s.st 0 (.box l1)):=by
         rw [newSt_eq];simp [voidS_nil,rmS_nil,wrS,nwS]
        obtain ⟨id,first,caps,hfe,_,hC⟩:=call_soundC (C:=CallsN P) (callsN_mono P) (fv:= .func (.func F) #[] #[]) (avs:= [v]) (st':=upd s.st 0 (.box l1)) hR.st hR.hX hR.heapLe hR.rowLo (.fn _ [] [] [] [] rfl rfl (fun _ _ _ h=>by simp at h) (fun _ _ _ h=>by simp at h)) (RepL.cons_ hv RepL.nil_) (by simp) (by simp [getL,hl]) hE ⟨hpb,trivial⟩ hnew
        simp only [Value.func.injEq,Fn.func.injEq] at hfe
        obtain ⟨rfl,rfl,rfl⟩:=hfe
        obtain ⟨⟨fn',hfn',hbody,hname⟩,_⟩:=hpb
        have hb:fn'.body≠none:=by intro h;rw [h] at hbody;cases hbody
        have hnm:fn'.name≠ "runtime.NumGoroutine":=by simpa using hname
        rw [List.map_cons]
        refine leaves_cons (f:=F) (args:= #[v]) (by simp) (by simp [invoke,callFunc,hfn',hb,hnm]) ?_
        have hargs:((#[]++ [v].toArray)++ #[]:Array Value)= #[v]:=by simp
        rw [hargs] at hC
        refine CallsD.mono hC ?_
        rintro e u' w' ⟨rfl,v1,γ',rfl,hE'⟩
        have hR':Rel X w0 may a w' ⟨s.n,s.fr,upd s.st 0 (.box l1),True,fun _=>none⟩ γ':=
         hR.after (s':=⟨s.n,s.fr,upd s.st 0 (.box l1),True,fun _=>none⟩) (dst:=none) hE' (fun r hr=>by cases hr) rfl fun t p hp=> .inr ⟨by simp,p,hp,voidF_nil'.symm⟩
        have hv':Rep X γ' w' (.pt 0 0 0) v:=by
         have:=hE'.old _ _ hv
         rwa [voidF_nil'] at this
        exact leaves_run hRB Fs a w' ⟨s.n,s.fr,upd s.st 0 (.box l1),True,fun _=>none⟩ γ' st' hR' hv' h fun w2 γ2 h2=>hK w2 γ2 h2
       ·cases h1
      ·cases h1
     ·cases h1
    ·cases h1
   ·cases h
def dfOf:Code→Option (Nat×FuncId)
 | .region _ ops false=>match ops.toList with
   | [o1,o2]=>match o1.dst,o1.op,o1.guard,o2.dst,o2.op,o2.guard with
     | some t, .move (.tmp 0),none,none, .defer cl,none=>match cl.callee,cl.args.toList with
       | .value (.func F), [.tmp t']=>if t'=t∧t≠0 then some (t,F) else none
       | _,_=>none
     | _,_,_,_,_,_=>none
   | _=>none
 | _=>none
def dfs:Code→List (Nat×FuncId)×Code
 | .seq a b=>match dfOf a with
   | some x=>match dfs b with
     | (l,r)=>(x::l,r)
   | none=>([], .seq a b)
 | c=>([],c)
theorem df_wp {c:Code} {t:Nat} {F:FuncId} (h:dfOf c=some (t,F)) {Q:Exit→Act→World→Prop} {a:Act} {w:World} {v:Value} (h0:a.tmps.getD 0 undef=v) (ht:t<a.tmps.size)
  (hQ:Q .normal { tmps:=a.tmps.setIfInBounds t v,defers:=⟨.fn (.func F) #[], #[v]⟩::a.defers } w):c.wp P Q a w:=by
 unfold dfOf at h
 split at h
 ·rename_i id ops
  split at h
  ·rename_i o1 o2 ho
   split at h
   ·rename_i t1 cl d1 p1 g1 d2 p2 g2
    split at h
    ·rename_i F1 t2 hcl hargs
     split at h
     ·rename_i hc
      simp only [Option.some.injEq,Prod.mk.injEq] at h
      obtain ⟨rfl,rfl⟩:=h
      obtain ⟨rfl,hne⟩:=hc
      have hops:ops= #[o1,o2]:=by apply Array.ext';simpa using ho
      subst hops
      have hargs':cl.args= #[.tmp t2]:=by apply Array.ext';simpa using hargs
      apply wp_region
      have h0':a.eval (.tmp 0)=v:=h0
      have e2:(a.tmps.setIfInBounds t2 v).getD t2 undef=v:=by simp [Array.getD_eq_getD_getElem?,ht]
      simp only [List.size_toArray,List.length_cons,List.length_nil,List.range_succ,List.range_zero,List.nil_append,List.cons_append,wpOps,List.getElem?_toArray,List.getElem?_cons_zero,List.getElem?_cons_succ,Region.wanted,g1,g2,if_true]
      left
      unfold Oper.wp
      have hr1:(execOp a.eval o1).run P w= .ok (.value v) w:=by
       unfold execOp;rw [p1];simp [h0']
      rw [hr1,Oper.upon_value,d1]
      left
      have hr2:(execOp (a.put (some t2) v).eval o2).run P w= .ok (.defer ⟨.fn (.func F1) #[], #[v]⟩) w:=by
       unfold execOp;rw [p2]
       have e3:(a.put (some t2) v).eval (.tmp t2)=v:=e2
       have e4:(a.put (some t2) v).eval (.func F1)= .func (.func F1) #[] #[]:=rfl
       simp [resolve,hcl,hargs',Deferred.ofValue,e3,e4]
      rw [hr2,Oper.upon_defer,d2]
      exact hQ
     ·cases h
    ·cases h
   ·cases h
  ·cases h
 ·cases h
theorem dfs_wp {v:Value}:∀(c:Code) (l:List (Nat×FuncId)) (r:Code) {Q:Exit→Act→World→Prop} (a:Act) (w:World),dfs c=(l,r)→a.tmps.getD 0 undef=v→(∀x∈l,x.1<a.tmps.size∧x.1≠0)→
  (∀a':Act,a'.tmps.size=a.tmps.size→a'.tmps.getD 0 undef=v→a'.defers=(l.reverse.map fun x=>⟨.fn (.func x.2) #[], #[v]⟩)++a.defers→r.wp P Q a' w)→c.wp P Q a w:=by
 intro c
 induction c with
 | seq x y ihx ihy=>
   intro l r Q a w h h0 hl hQ
   simp only [dfs] at h
   split at h
   ·rename_i p hp
    cases hy:dfs y with
    | mk l2 r2=>
      rw [hy] at h
      simp only [Prod.mk.injEq] at h
      obtain ⟨rfl,rfl⟩:=h
      obtain ⟨t,F⟩:=p
      have ht:=hl (t,F) (by simp)
      refine wp_seq ?_
      refine df_wp hp h0 ht.1 ?_
      refine ihy l2 r2 _ w hy ?_ (fun x hx=> ?_) fun a' g1 g2 g3=>hQ a' ?_ g2 ?_
      ·have hne:t≠0:=ht.2
       simp [Array.getD_eq_getD_getElem?,Array.getElem?_setIfInBounds_ne hne] at h0⊢
       exact h0
      ·have:=hl x (by simp [hx]);simpa using this
      ·simpa using g1
      ·rw [g3];simp
   ·simp only [Prod.mk.injEq] at h
    obtain ⟨rfl,rfl⟩:=h
    exact hQ a rfl h0 (by simp)
 | _=>
   intro l r Q a w h h0 hl hQ
   simp only [dfs,Prod.mk.injEq] at h
   obtain ⟨rfl,rfl⟩:=h
   exact hQ a rfl h0 (by simp)
def okDf (n:Nat):List (Nat×FuncId)→Bool
 | []=>true
 | x::l=>match Nat.blt x.1 n,Nat.beq x.1 0 with
   | true,false=>okDf n l
   | _,_=>false
theorem okDf_ok {n:Nat}:∀{l:List (Nat×FuncId)},okDf n l=true→∀x∈l,x.1<n∧x.1≠0
 | [],_,x,hx=>by simp at hx
 | y::l,h,x,hx=>by
   simp only [okDf] at h
   split at h
   ·rename_i h1 h2
    rcases List.mem_cons.1 hx with rfl | hx
    ·refine ⟨by rwa [Nat.blt_eq] at h1,fun h0=> ?_⟩
     rw [h0] at h2;cases h2
    ·exact okDf_ok h x hx
   ·cases h
def runDef (P:Program) (R RB:Orc) (H:Code→PS→Option PS) (k:Nat) (fn:Func) (args:List PV) (bs:List SE):Option CallRes:=
 match fn.body,fn.results.toList,args,bs with
 | some code, [], [.pt 0 0 0], [.box l]=>match dfs code with
   | (ds,rest)=>match comp P false rest with
     | some cc=>match cc.uncut&& !(fn.name== "runtime.NumGoroutine")&&okDf (1+(fn.ntmps - 1)) ds with
       | true=>match runC R H 1 0 k [] 0 cc (St (1+(fn.ntmps - 1)) (argF 0 [.pt 0 0 0]) (boxF 0 [.box l])) with
         | some (.nrm,s)=>match s.st 0,defSts RB (ds.reverse.map (·.2)) s.st with
           | some (.box _),some st'=>runEnd [] 1 ⟨s.n,s.fr,st',True,fun _=>none⟩
           | _,_=>none
         | _=>none
       | false=>none
     | none=>none
 | _,_,_,_=>none
theorem runDef_ok (hmix:P.follows .mixedOrders=true) {R RB:Orc} {H:Code→PS→Option PS} {k:Nat} {f:FuncId} {fn:Func} {args:List PV} {bs:List SE} {c:CallRes} (hf:P.funcs[f]? =some fn)
  (hR:OrcOK P R) (hRB:∀f args bs c,RB f args bs=some c→PureBody P f args bs c) (hH:∀np c s s',H c s=some s'→Runs P false np (.raw c) s .nrm s') (h:runDef P R RB H k fn args bs=some c):PureCall P f args bs c:=by
 unfold runDef at h
 split at h
 ·rename_i code l hb hres
  cases hds:dfs code with
  | mk ds rest=>
    rw [hds] at h
    simp only at h
    split at h
    ·rename_i cc hcc
     split at h
     ·rename_i hg
      simp only [Bool.and_eq_true,Bool.not_eq_true'] at hg
      obtain ⟨⟨h1,h3⟩,h4⟩:=hg
      split at h
      ·rename_i s hs
       split at h
       ·rename_i lb st' hs0 hst'
        have hrun:=runC_sound (np:=1) hmix hR (hH 1) k _ _ cc _ _ _ hs trivial
        have hres':mapO (compR P) fn.results.toList=some []:=by rw [hres];rfl
        refine ⟨⟨fn,hf,by rw [hb];rfl,h3⟩,fun w γ aas ls vals hst hX hargs=> ?_⟩
        obtain ⟨v,vs,rfl,hv,hvs⟩:=hargs.cons_inv
        cases hvs.nil_inv
        refine calls_of_wp_defers hf hb ?_
        have hR0:=rel_start (n:=1+(fn.ntmps - 1)) (bs:= [.box l]) (nt:=fn.ntmps) hst hX hargs rfl rfl
        have hv0:(([v].toArray++Array.replicate (fn.ntmps - [v].toArray.size) undef):Array Value).getD 0 undef=v:=by simp [Array.getD_eq_getD_getElem?,Array.getElem?_append]
        have hsz:(([v].toArray++Array.replicate (fn.ntmps - [v].toArray.size) undef):Array Value).size=1+(fn.ntmps - 1):=by simp
        refine dfs_wp code ds rest _ w hds hv0 (fun x hx=>by rw [hsz];exact okDf_ok h4 x hx) fun a' g1 g2 g3=> ?_
        simp only [List.append_nil] at g3
        have hRa:Rel ⟨w.heap.size,aas,ls,1,γ,a'.defers⟩ w γ.own a' w (St (1+(fn.ntmps - 1)) (argF 0 [.pt 0 0 0]) (boxF 0 [.box l])) γ:=by
         refine ⟨by rw [g1,hsz];rfl,rfl,fun t p hp=> ?_,RepSt.df hR0.st,hR0.keeps,hR0.lo,hR0.own,hR0.asLt,hR0.par,hR0.mayP,hR0.fx,hR0.pr⟩
         obtain ⟨q1,q2⟩:=hR0.fr t p hp
         refine ⟨q1, ?_⟩
         obtain ⟨_,hh⟩:=argF_get _ _ _ _ hp
         have ht:t=0:=by
          rcases Nat.eq_zero_or_pos t with h | h
          ·exact h
          ·rw [List.getElem?_eq_none (by simp;omega)] at hh;cases hh
         subst ht
         simp only [hv0] at q2
         rw [g2];exact q2.df
        have hQ:∀lv t,(lv=Lv.nrm∧t=s)→t.ok:=fun lv t ⟨_,e⟩=>by rw [e];exact hrun.1
        refine wp_mono (hrun.2 hQ rest (by rw [C.uncut_er cc h1];exact hcc) _ w γ.own a' w γ rfl hRa) ?_
        rintro e a2 w2 ⟨lv,s2,γ2,he,⟨rfl,rfl⟩,hR2⟩
        cases e with
        | normal=>
          show Leaves P fn a2.tmps _ a2.defers .returning w2
          rw [hR2.defers,g3]
          have hv2:Rep ⟨w.heap.size,aas,ls,1,γ,a'.defers⟩ γ2 w2 (.pt 0 0 0) v:=by
           obtain ⟨ge,b,hge,hgb,hve⟩:=pt_inv hv
           rw [hve]
           have hp:=hR2.par 0 (show 0<1 by omega)
           rw [hs0] at hp
           have this:γ2 0=γ 0:=hp
           exact .pt 0 0 0 ge b (by rw [this];exact hge) hgb
          have hl:=leaves_run (fn:=fn) (tmps:=a2.tmps) (R:=fun e w'=>∃v γ',e= .returned v∧Rep ⟨w.heap.size,aas,ls,nbx [SE.box l],γ, []⟩ γ' w' c.val v∧RepSt ⟨w.heap.size,aas,ls,nbx [SE.box l],γ, []⟩ γ' w' (resSt c)∧
           Keeps γ.own w w'∧(∀r,r<parN [SE.box l] c→ParR r (γ' r) (γ r) (resSt c r))∧(∀r ge b,γ' r=some ge→ge.has b→w.heap.size≤b∨(nbx [SE.box l]=0∧γ.own b)∨∃ge0,γ r=some ge0∧ge0.has b)) hRB (ds.reverse.map (·.2)) a2 w2 s2 γ2 st' hR2 hv2 hst' (fun w3 γ3 hR3=>by
            obtain ⟨u,k1,v',γ',k2,k3,k4,k5⟩:=res_key (bs:= [SE.box l]) hres' hR3 (fun r ge hr=>by
             have hd:=hst.dom r
             rw [hr] at hd
             obtain ⟨e,he⟩:=Option.isSome_iff_exists.1 hd.symm
             exact (List.getElem?_eq_some_iff.1 he).1) (runEnd_ok (show 1≤newBase by unfold newBase;omega) h)
            exact ⟨u,k1,v',γ',k2,k3.df,RepSt.df k4,k5⟩)
          have hm:(ds.reverse.map fun x=>(⟨.fn (.func x.2) #[], #[v]⟩:Deferred))=(ds.reverse.map (·.2)).map fun F=>⟨.fn (.func F) #[], #[v]⟩:=by rw [List.map_map];rfl
          rw [hm]
          exact hl
        | exit id=>obtain ⟨hb,hh⟩:=lvOf_exit he;cases hh
        | goto l=>cases he
        | ret=>cases he
        | panic ch=>cases he
        | outgrown=>cases he
       ·cases h
      ·cases h
     ·cases h
    ·cases h
 ·cases h
def runB (P:Program) (R:Orc) (H:Code→PS→Option PS) (k:Nat):Orc:=fun f args bs=>match P.funcs[f]? with
 | some fn=>runBody P R H k fn args bs
 | none=>none
def hasDf (fn:Func):Bool:=match fn.body with
 | some c=>match (dfs c).1 with
   | []=>false
   | _=>true
 | none=>false
def runF (P:Program) (O:Orc→Orc) (H:Code→PS→Option PS) (k:Nat):Nat→Orc
 | 0,_,_,_=>none
 | d+1,f,args,bs=>match O (runF P O H k d) f args bs with
   | some c=>some c
   | none=>match P.funcs[f]? with
     | some fn=>match hasDf fn with
       | true=>runDef P (runF P O H k d) (runB P (runF P O H k d) H k) H k fn args bs
       | false=>runBody P (runF P O H k d) H k fn args bs
     | none=>none
theorem runB_ok (hmix:P.follows .mixedOrders=true) {R:Orc} {H:Code→PS→Option PS} {k:Nat} (hR:OrcOK P R) (hH:∀np c s s',H c s=some s'→Runs P false np (.raw c) s .nrm s'):
  ∀f args bs c,runB P R H k f args bs=some c→PureBody P f args bs c:=fun f args bs c h=>by
 unfold runB at h
 split at h
 ·rename_i fn hfn
  exact runBody_ok hmix hfn hR hH h
 ·cases h
theorem runF_ok (hmix:P.follows .mixedOrders=true) {O:Orc→Orc} {H:Code→PS→Option PS} {k:Nat} (hO:∀R,OrcOK P R→OrcOK P (O R))
  (hH:∀np c s s',H c s=some s'→Runs P false np (.raw c) s .nrm s'):∀d,OrcOK P (runF P O H k d)
 | 0=>fun f args bs c h=>by simp [runF] at h
 | d+1=>fun f args bs c h=>by
   have ih:=runF_ok (k:=k) hmix hO hH d
   simp only [runF] at h
   split at h
   ·rename_i c' hc
    injection h with h;subst h
    exact hO _ ih _ _ _ _ hc
   ·split at h
    ·rename_i fn hfn
     split at h
     ·exact runDef_ok hmix hfn ih (runB_ok hmix ih hH) hH h
     ·exact (runBody_ok hmix hfn ih hH h).call
    ·cases h
end
open Go.RowKit
section
variable {P:Program}
def fitsD (P:Program) (fn:Func) (n:Nat):Option (List FuncId×C):=match fn.body,fn.results.toList with
 | some code, []=>match dfs code with
   | (ds,rest)=>match !(fn.name== "runtime.NumGoroutine")&&okDf (1+(fn.ntmps - 1)) ds&&Nat.beq (1+(fn.ntmps - 1)) n with
     | true=>match comp P false rest with
       | some cc=>some (ds.reverse.map (·.2),cc)
       | none=>none
     | false=>none
 | _,_=>none
def FinD (RB:Orc) (Fs:List FuncId) (c:CallRes):Lv→PS→Prop
 | .nrm,s=>s.ok∧(∃lb,s.st 0=some (.box lb))∧∃st',defSts RB Fs s.st=some st'∧runEnd [] 1 ⟨s.n,s.fr,st',True,fun _=>none⟩=some c
 | _,_=>False
theorem pure_def (hmix:P.follows .mixedOrders=true) {RB:Orc} {f:FuncId} {fn:Func} {l:List PV} {c:CallRes} {cc:C} {Fs:List FuncId} {n:Nat} (hf:P.funcs[f]? =some fn)
  (hfits:fitsD P fn n=some (Fs,cc.er)) (hRB:∀f args bs c,RB f args bs=some c→PureBody P f args bs c)
  (h:vc (PureCall P) (LSem P false 1) cc (FinD RB Fs c) (St n (argF 0 [.pt 0 0 0]) (boxF 0 [.box l]))):PureCall P f [.pt 0 0 0] [.box l] c:=by
 unfold fitsD at hfits
 split at hfits
 ·rename_i code hb hres
  cases hds:dfs code with
  | mk ds rest=>
    rw [hds] at hfits
    simp only at hfits
    split at hfits
    ·rename_i hg
     simp only [Bool.and_eq_true,Bool.not_eq_true'] at hg
     obtain ⟨⟨h3,h4⟩,h5⟩:=hg
     have hn:1+(fn.ntmps - 1)=n:=Nat.eq_of_beq_eq_true h5
     split at hfits
     ·rename_i cc0 hcc
      simp only [Option.some.injEq,Prod.mk.injEq] at hfits
      obtain ⟨hFs,rfl⟩:=hfits
      have hfin:∀lv s,FinD RB Fs c lv s→s.ok:=fun lv s hs=>by cases lv<;>first | exact hs.1 | exact hs.elim
      have hrun:=vc_sound hmix cc rest _ _ hfin hcc h
      have hres':mapO (compR P) fn.results.toList=some []:=by rw [hres];rfl
      refine ⟨⟨fn,hf,by rw [hb];rfl,h3⟩,fun w γ aas ls vals hst hX hargs=> ?_⟩
      obtain ⟨v,vs,rfl,hv,hvs⟩:=hargs.cons_inv
      cases hvs.nil_inv
      refine calls_of_wp_defers hf hb ?_
      have hR0:=rel_start (n:=1+(fn.ntmps - 1)) (bs:= [.box l]) (nt:=fn.ntmps) hst hX hargs rfl rfl
      have hv0:(([v].toArray++Array.replicate (fn.ntmps - [v].toArray.size) undef):Array Value).getD 0 undef=v:=by simp [Array.getD_eq_getD_getElem?,Array.getElem?_append]
      have hsz:(([v].toArray++Array.replicate (fn.ntmps - [v].toArray.size) undef):Array Value).size=1+(fn.ntmps - 1):=by simp
      refine dfs_wp code ds rest _ w hds hv0 (fun x hx=>by rw [hsz];exact okDf_ok h4 x hx) fun a' g1 g2 g3=> ?_
      simp only [List.append_nil] at g3
      have hRa:Rel ⟨w.heap.size,aas,ls,1,γ,a'.defers⟩ w γ.own a' w (St n (argF 0 [.pt 0 0 0]) (boxF 0 [.box l])) γ:=by
       rw [hn] at hR0 hsz
       refine ⟨by rw [g1,hsz];rfl,rfl,fun t p hp=> ?_,RepSt.df hR0.st,hR0.keeps,hR0.lo,hR0.own,hR0.asLt,hR0.par,hR0.mayP,hR0.fx,hR0.pr⟩
       obtain ⟨q1,q2⟩:=hR0.fr t p hp
       refine ⟨q1, ?_⟩
       obtain ⟨_,hh⟩:=argF_get _ _ _ _ hp
       have ht:t=0:=by
        rcases Nat.eq_zero_or_pos t with h | h
        ·exact h
        ·rw [List.getElem?_eq_none (by simp;omega)] at hh;cases hh
       subst ht
       simp only [hv0] at q2
       rw [g2];exact q2.df
      refine wp_mono (hrun.2 _ w γ.own a' w γ rfl hRa) ?_
      rintro e a2 w2 ⟨lv,s2,γ2,he,hq,hR2⟩
      cases e with
      | normal=>
        cases he
        obtain ⟨_,⟨lb,hs0⟩,st',hst',hend⟩:=hq
        show Leaves P fn a2.tmps _ a2.defers .returning w2
        rw [hR2.defers,g3]
        have hv2:Rep ⟨w.heap.size,aas,ls,1,γ,a'.defers⟩ γ2 w2 (.pt 0 0 0) v:=by
         obtain ⟨ge,b,hge,hgb,hve⟩:=pt_inv hv
         rw [hve]
         have hp:=hR2.par 0 (show 0<1 by omega)
         rw [hs0] at hp
         have this:γ2 0=γ 0:=hp
         exact .pt 0 0 0 ge b (by rw [this];exact hge) hgb
        have hl:=leaves_run (fn:=fn) (tmps:=a2.tmps) (R:=fun e w'=>∃v γ',e= .returned v∧Rep ⟨w.heap.size,aas,ls,nbx [SE.box l],γ, []⟩ γ' w' c.val v∧RepSt ⟨w.heap.size,aas,ls,nbx [SE.box l],γ, []⟩ γ' w' (resSt c)∧
         Keeps γ.own w w'∧(∀r,r<parN [SE.box l] c→ParR r (γ' r) (γ r) (resSt c r))∧(∀r ge b,γ' r=some ge→ge.has b→w.heap.size≤b∨(nbx [SE.box l]=0∧γ.own b)∨∃ge0,γ r=some ge0∧ge0.has b)) hRB (ds.reverse.map (·.2)) a2 w2 s2 γ2 st' hR2 hv2 (by rw [hFs];exact hst') (fun w3 γ3 hR3=>by
          obtain ⟨u,k1,v',γ',k2,k3,k4,k5⟩:=res_key (bs:= [SE.box l]) hres' hR3 (fun r ge hr=>by
           have hd:=hst.dom r
           rw [hr] at hd
           obtain ⟨e,he⟩:=Option.isSome_iff_exists.1 hd.symm
           exact (List.getElem?_eq_some_iff.1 he).1) (runEnd_ok (show 1≤newBase by unfold newBase;omega) hend)
          exact ⟨u,k1,v',γ',k2,k3.df,RepSt.df k4,k5⟩)
        have hm:(ds.reverse.map fun x=>(⟨.fn (.func x.2) #[], #[v]⟩:Deferred))=(ds.reverse.map (·.2)).map fun F=>⟨.fn (.func F) #[], #[v]⟩:=by rw [List.map_map];rfl
        rw [hm]
        exact hl
      | exit id=>obtain ⟨hb,rfl⟩:=lvOf_exit he;exact hq.elim
      | goto l=>cases he;exact hq.elim
      | ret=>cases he;exact hq.elim
      | panic ch=>first | (cases he;done) | (cases he;exact hq.elim)
      | outgrown=>first | (cases he;done) | (cases he;exact hq.elim)
     ·cases hfits
    ·cases hfits
 ·cases hfits
end
def c124:C:=(.seq (.drw [km 6 0,kk 7 (.nc 6),kf 8 0 7,kf 9 7 8,kl 10 9,km 11 0,kk 12 (.nc 11),kf 13 9 12,kf 14 3 13,kl 15 14,km 16 0,kk 17 (.nc 16),kf 18 26 17,kl 19 18,km 20 0,kk 21 (.nc 20),kf 22 24 21,kl 23 22,km 24 0,kc 25 180 [24],kk 26 (.mn [23,25]),km 27 0,kk 28 (.nc 27),kf 29 17 28,kf 30 2 29,kl 31 30,kb 32 .sub 26 31,kc 33 179 [10,15,19,32],km 5 33,ke 34 5 0,ke 35 5 1,ke 36 5 2,km 2 34,km 3 35,km 4 36] (pl [(0,[5,6,7,8,9,10,11,12,13,14,15,16,17,18,19,20,21,22,23,24,25,26],6),(1,[5,6,7,8,9,10,11,12,13,14,15,16,17,18,19,20,21,22,23,24,25,26],7),(2,[5,6,7,8,9,10,11,12,13,14,15,16,17,18,19,20,21,22,23,24,25,26],8),(3,[5,6,7,8,9,10,11,12,13,14,15,16,17,18,19,20,21,22,23,24,25,26],9),(4,[5,6,7,8,9,10,11,12,13,14,15,16,17,18,19,20,21,22,23,24,25,26],10),(5,[10,11,12,13,14,15,16,17,18,19,20,21,22,23,24,25,26],11),(6,[10,11,12,13,14,15,16,17,18,19,20,21,22,23,24,25,26],12),(7,[10,11,12,13,14,15,16,17,18,19,20,21,22,23,24,25,26],13),(8,[10,11,12,13,14,15,16,17,18,19,20,21,22,23,24,25,26],14),(9,[10,11,12,13,14,15,16,17,18,19,20,21,22,23,24,25,26],15),(10,[14,15,16,17,18,19,20,21,22,23,24,25,26],16),(11,[14,15,16,17,18,19,20,21,22,23,24,25,26],17),(12,[14,15,16,17,18,19,20,21,22,23,24,25,26],18),(13,[14,15,16,17,18,19,20,21,22,23,24,25,26],19),(14,[18,19,21,22,23,24,25],20),(15,[18,19,21,22,23,24,25],21),(16,[18,19,21,22,23,24,25],22),(17,[18,19,21,22,23,24,25],23),(18,[21,22,23,24,25],24),(19,[21,22,23,24,25],25),(20,[21,22,23,24,25],26),(29,[30,31],34),(30,[31,32],35),(31,[32,33],36)])) (sr [km 37 0,km 38 2,kk 39 (.nc 37),kf 40 13 39,kf 41 3 40,kx 1 41 38] (.drw [km 42 0,km 43 3,km 44 0,kc 45 180 [44],km 46 0,kk 47 (.nc 46),kf 48 17 47,kf 49 2 48,kl 50 49,kb 51 .sub 45 50,kk 52 (.mn [43,51]),kk 53 (.nc 42),kf 54 17 53,kf 55 3 54,kx 1 55 52] (pl [(0,[1,2,3,4,5,6,7,8,9,10],42),(1,[2,3,4,5,6,7,8,9],43),(2,[4,5,6,7,8],44),(3,[4,5,6,7,8],45)]))))
theorem fits124:fits Tryz.prog false Tryz.f124 1 56 []=some c124.er:=by kernel_rfl
def c123:C:=(.seq (.drw [km 2 0,kk 3 (.nc 2),kf 4 25 3,kl 5 4,km 6 0,kk 7 (.nc 6),kf 8 17 7,kf 9 2 8,kl 10 9,km 11 0,kk 12 (.nc 11),kf 13 17 12,kf 14 3 13,kl 15 14,kb 16 .add 10 15,kb 17 .sub 5 16,kk 18 (.nc 2),kf 19 25 18,kx 1 19 17] (pl [(0,[4,5,6,7,8,9,10,11,12,13,14],2),(1,[4,5,6,7,8,9,10,11,12,13,14],3),(2,[4,5,6,7,8,9,10,11,12,13,14],4),(3,[4,5,6,7,8,9,10,11,12,13,14],5),(4,[9,10,11,12,13],6),(5,[9,10,11,12,13],7),(6,[9,10,11,12,13],8),(7,[9,10,11,12,13],9),(8,[9,10,11,12,13],10)])) (.seq (.drw [km 20 0,km 21 0,kk 22 (.nc 21),kf 23 25 22,kl 24 23,km 25 0,kk 26 (.nc 25),kf 27 0 26,kt 28 9 27,kc 29 178 [28],kb 30 .sub 24 29,kk 31 (.mx [30,(cn 0)]),kk 32 (.nc 20),kf 33 17 32,kf 34 4 33,kx 1 34 31] (pl [(0,[1,2,3,4,5,6,7,8,9,10,11],20),(1,[5,6,7,8,9],21),(2,[5,6,7,8,9],22),(3,[5,6,7,8,9],23),(4,[5,6,7,8,9],24)])) (.seq (.drw [km 35 0,km 36 0,kk 37 (.nc 36),kf 38 25 37,kl 39 38,km 40 0,kk 41 (.nc 40),kf 42 17 41,kf 43 4 42,kl 44 43,kb 45 .sub 39 44,kk 46 (.nc 35),kf 47 13 46,kf 48 0 47,kx 1 48 45] (pl [(0,[1,2,3,4,5,6,7,8,9,10],35),(1,[5,6,7,8,9],36),(2,[5,6,7,8,9],37),(3,[5,6,7,8,9],38),(4,[5,6,7,8,9],39)])) (.drw [km 49 0,km 50 0,kk 51 (.nc 50),kf 52 17 51,kf 53 2 52,kl 54 53,km 55 0,kk 56 (.nc 55),kf 57 17 56,kf 58 3 57,kl 59 58,kb 60 .add 54 59,kk 61 (.mn [60,(cn 1073741824)]),kk 62 (.nc 49),kf 63 13 62,kf 64 1 63,kx 1 64 61] (pl [(0,[1,2,3,4,5,6,7,8,9,10,11,12],49),(1,[6,7,8,9,10],50),(2,[6,7,8,9,10],51),(3,[6,7,8,9,10],52),(4,[6,7,8,9,10],53),(5,[6,7,8,9,10],54)])))))
theorem fits123:fits Tryz.prog false Tryz.f123 1 65 []=some c123.er:=by kernel_rfl
def c55:C:=(sr [kk 2 (.mv cf)] (sr [km 3 0,kc 4 56 [3,(cn 1073741824)],kk 5 (.un false .not 4),km 2 5] .ret))
theorem fits55:fits Tryz.prog false Tryz.f55 1 6 [(2,none)]=some c55.er:=by kernel_rfl
def c11:C:=(sr [kk 5 (.bx 9 0),kk 6 (.bx 4 1),kk 10 (.al [z0,z0,(.nil 3),(.nil 2)]),kk 11 (.al [z0,z0,z0,z0,z0,z0,z0]),kk 12 (.mv (cn 0))] (sr [kt 17 9 5,kt 18 4 6,kc 19 53 [17,18],km 16 19,ke 20 16 0,ke 21 16 1,km 13 20,km 14 21] (.seq (sr [km 22 14,kb 23 .neq 22 (cn 0)] (.cond 23 (sr [kk 24 (.bd [z0,z0,(.nil 3),(.nil 2)] []),kk 25 (.bd [z0,z0,z0,z0,z0,z0,z0] []),km 26 14,kx 4 10 24,kx 7 11 25,km 12 26] .ret) .skip)) (.seq (sr [km 27 2,km 28 3,km 29 4,kk 30 (.bs 3 1 [27,28,29]),kk 31 (cl 54 [30,(.c (.fn (.func 55) [] []))])] (.cond 31 (sr [kk 32 (.bd [z0,z0,(.nil 3),(.nil 2)] []),kk 33 (.bd [z0,z0,z0,z0,z0,z0,z0] []),kx 4 10 32,kx 7 11 33,kk 12 (.mv (cn 1))] .ret) .skip)) (sr [kt 34 9 5,kt 35 4 6,km 36 2,km 37 3,kk 38 (.bd [z0,z0,z0,z0,z0,z0,z0] [(0,1,36),(1,1,37)]),km 39 4,km 40 13,kk 41 (.bd [(.nil 2),z0,z0,z0,z0,z0,(.nil 6),(.nil 3),z0,z0,z0,(.nil 3),(.nil 2),z0,z0,(.nil 3),(.nil 2),z0,z0,z0,z0,z0,z0,z0,z0,z0,z0] [(0,9,34),(9,4,35),(17,7,38),(24,1,39),(26,1,40)]),kk 42 (.bx 27 41),km 15 42] (sr [km 43 15,kc 44 57 [43]] (.seq (.drw [km 45 15,kk 46 (.nc 45),kf 47 13 46,kt 48 4 47,km 49 15,kk 50 (.nc 49),kf 51 17 50,kt 52 7 51,kx 4 10 48,kx 7 11 52,kk 12 (.mv (cn 0))] (pl [(0,[4,5,6,7],45),(1,[4,5,6,7],46),(2,[4,5,6,7],47),(3,[4,5,6,7],48),(4,[8],49),(5,[8],50),(6,[8],51),(7,[8],52)])) .ret)))))))
theorem fits11:fits Tryz.prog false Tryz.f11 5 53 [(10,some (4,true)),(11,some (7,true)),(12,none)]=some c11.er:=by kernel_rfl
def c14:C:=(sr [kk 1 (.bx 7 0),kk 2 (.mv (cn 0))] (sr [kf 3 2 1,kl 4 3,kf 5 3 1,kl 6 5,kb 7 .add 4 6,kf 8 4 1,kl 9 8,kb 10 .add 7 9,km 2 10] .ret))
theorem fits14:fits Tryz.prog false Tryz.f14 1 11 [(2,none)]=some c14.er:=by kernel_rfl
def setF (x:Dm) (s:Ds) (lev rel left tu:Int):Int×List Gs:=setN x.gs s.gs lev (mn rel (freF x left) - tu) x.gs.length
def spiF (x:Dm) (s:Ds) (lev rel left tu:Int):Int:=mn (setF x s lev rel left tu).1 (freF x left - tu)
theorem call124 (x:Dm) (s:Ds) (nv nr inf loss tu pw st rel left lev:Int) (n:Nat) (f:Nat→List PV) (h:DmOK x) (hs:DsOK x s) (hl:0≤left∧left≤4611686018427387904) (hr:0≤rel∧rel≤1073741824) (hv:0≤lev∧lev≤16777216)
  (ht:0≤tu∧tu≤rel∧tu≤freF x left):
  PureBody Tryz.prog 124 [.pt 0 0 0] [.box (eWk x s nv nr inf loss tu 0 0 pw st rel left lev (.sl 1 3 n f) (.nil 2))]
   ⟨.tup [], [.box (eWk x s nv nr inf loss tu (spiF x s lev rel left tu) 0 pw st rel left lev (.sl 1 3 n f) (.sl 0 2 x.gs.length (fl eGs (setF x s lev rel left tu).2)))], []⟩:=by
 have hmn:mn rel (freF x left)=rel∨mn rel (freF x left)=freF x left:=by unfold mn;split<;>omega
 have hmn2:mn rel (freF x left)≤rel:=by unfold mn;split<;>omega
 have hfr:freF x left≤left∨freF x left=0:=by
  have:=val_rng h.r.g x.r.dead
  unfold freF deaV mx;split<;>omega
 have hS:=setN_ok lev (mn rel (freF x left) - tu) hs.gs x.gs.length (Nat.le_refl _)
 have hR:=rngN_rng lev hs.gs x.gs.length (Nat.le_refl _)
 have hS1:=hS.lo
 have hS2:=hS.hi
 have hgl:=hs.gs.le
 refine pure_body mix (f:=124) (show Tryz.prog.funcs[124]? =some Tryz.f124 from Tryz.func124) fits124 rfl ?_
 conv=>whnf
 refine ⟨_,fun _=>call180 x s _ _ _ _ _ _ _ _ _ _ _ _ _ _ _ _ _ _ _ _ h.r hl, ?_⟩
 conv=>whnf
 refine ⟨_,fun _=>PureCall.arg_le (call179 x.gs s.gs lev (mn rel (freF x left) - tu) hs.gs hv ⟨by omega,by omega⟩) rfl (by unfold lendT;exact ent), ?_⟩
 unfold spiF setF
 generalize setN x.gs s.gs lev (mn rel (freF x left) - tu) x.gs.length=S at hS1 hS2⊢
 conv=>whnf
 refine ⟨rfl, ?_⟩
 conv=>whnf
 refine ⟨_,fun _=>call180 x s _ _ _ _ _ _ _ _ _ _ _ _ _ _ _ _ _ _ _ _ h.r hl, ?_⟩
 conv=>whnf
 refine ⟨rfl, ?_⟩
 conv=>whnf
 exact retB
def ovrF (x:Dm) (left tu sp:Int):Int:=mx (left - (tu+sp) - crsV x) 0
theorem call123 (x:Dm) (s:Ds) (nv nr inf loss tu sp pw st rel left lev:Int) (n m:Nat) (f g:Nat→List PV) (h:DmOK x) (hl:0≤left∧left≤4611686018427387904) (ht:0≤tu∧tu≤1073741824) (hp:0≤sp∧sp≤4611686018427387904):
  PureBody Tryz.prog 123 [.pt 0 0 0] [.box (eWk x s nv nr inf loss tu sp 0 pw st rel left lev (.sl 1 3 n f) (.sl 1 2 m g))]
   ⟨.tup [], [.box (eWk x s (left - (tu+sp) - ovrF x left tu sp) (mn (tu+sp) 1073741824) inf loss tu sp (ovrF x left tu sp) pw st rel (left - (tu+sp)) lev (.sl 1 3 n f) (.sl 1 2 m g))], []⟩:=by
 have hc:=val_rng h.r.g x.r.crest
 change 0≤crsV x∧crsV x≤_ at hc
 have ho:0≤ovrF x left tu sp∧ovrF x left tu sp≤4611686018427387904:=by unfold ovrF mx;split<;>omega
 refine pure_body mix (f:=123) (show Tryz.prog.funcs[123]? =some Tryz.f123 from Tryz.func123) fits123 rfl ?_
 conv=>whnf
 refine ⟨rfl, ?_⟩
 conv=>whnf
 refine ⟨_,fun _=>call178 _ x h.r, ?_⟩
 conv=>whnf
 refine ⟨rfl, ?_⟩
 change 0≤mx (left - (tu+sp) - crsV x) 0∧mx (left - (tu+sp) - crsV x) 0≤_ at ho
 unfold ovrF
 conv=>whnf
 refine ⟨rfl, ?_⟩
 conv=>whnf
 refine ⟨rfl, ?_⟩
 conv=>whnf
 exact retB
namespace TB
def c122L1:C:=(sr [kb 9 .lss 8 7] (.seq (.cond 9 .skip (.exit 0)) (.seq (.block 1 (sr [km 10 8,km 5 10] (sr [km 11 1,km 12 0,km 13 5,ki 14 1 12 13,kl 15 14,kk 16 (.call 11 [15])] (.cond 16 (sr [km 17 5,km 4 17] .ret) .skip)))) (.reg [kb 18 .add 8 (cn 1),km 8 18]))))
def c122:C:=(sr [kk 4 (.mv (cn 0))] (.seq (sr [km 6 0,kk 7 (.len 6),kk 8 (.mv (cn 0))] (.block 0 (.loop c122L1))) (sr [kk 4 (.mv (cn (-1)))] .ret)))
theorem fits122:fits Tryz.prog false Tryz.f122 2 19 [(4,none)]=some c122.er:=by kernel_rfl
def c54:C:=(sr [kk 4 (.mv cf)] (sr [km 5 0,km 6 1,kc 7 122 [5,6],kb 8 .geq 7 (cn 0),km 4 8] .ret))
theorem fits54:fits Tryz.prog false Tryz.f54 2 9 [(4,none)]=some c54.er:=by kernel_rfl
def c55:C:=(sr [kk 2 (.mv cf)] (sr [km 3 0,kc 4 56 [3,(cn 1073741824)],kk 5 (.un false .not 4),km 2 5] .ret))
theorem fits55:fits Tryz.prog false Tryz.f55 1 6 [(2,none)]=some c55.er:=by kernel_rfl
theorem call55 (n:Int):PureCall Tryz.prog 55 [.int .i64 n] [] ⟨.bool (!decide (0≤n∧n≤1073741824)), [], []⟩:=by
 refine pure_call mix Tryz.func55 fits55 rfl ?_
 conv=>whnf
 refine ⟨_,fun _=>G02.call56 n 1073741824, ?_⟩
 conv=>whnf
 exact ret
theorem call122 (ρ:Nat) (l:List Int) (hn:l.length≤1000) (hg:∀i,i<l.length→0≤l.getD i default∧l.getD i default≤1073741824):
  PureCall Tryz.prog 122 [.sl ρ 1 l.length (fl eInt l), .fn (.func 55) [] []] [] ⟨.int .i64 (-1), [], []⟩:=by
 refine pure_call mix Tryz.func122 fits122 rfl ?_
 conv=>whnf
 refine ⟨trivial, ?_⟩
 refine LSem.loop (n:=19) mix (α:=Nat) (fun i=>i≤l.length)
  (fun i=> [(0, .sl ρ 1 l.length (fl eInt l)),(1, .fn (.func 55) [] []),(7, .int .i64 l.length),(8, .int .i64 i)])
  (fun i=> []) (fun i=>l.length - i) 0 (Nat.zero_le _) ?_ ?_
 ·refine ⟨rfl,rfl, ?_, ?_⟩<;>exact ent
 ·intro i hi
  have hj:((i:Int)).toNat=i:=by omega
  conv=>whnf
  refine ⟨trivial,fun hc=> ?_,fun hc=> ?_⟩
  ·replace hc:=of_decide_eq_true hc
   have hlt:i<l.length:=by omega
   have hb:=hg i hlt
   conv=>whnf
   refine ⟨_,fun _=>call55 (l.getD ((i:Int)).toNat default), ?_⟩
   rw [hj,decide_eq_true hb]
   conv=>whnf
   refine ⟨by exact g0,fun hc2=>(by cases hc2),fun hc2=> ?_⟩
   conv=>whnf
   refine ⟨by exact g0,i+1,hlt,by omega,rfl,rfl, ?_, ?_⟩<;>exact ent
  ·replace hc:=of_decide_eq_false hc
   conv=>whnf
   exact ret
theorem call54 (ρ:Nat) (l:List Int) (hn:l.length≤1000) (hg:∀i,i<l.length→0≤l.getD i default∧l.getD i default≤1073741824):
  PureCall Tryz.prog 54 [.sl ρ 1 l.length (fl eInt l), .fn (.func 55) [] []] [] ⟨.bool false, [], []⟩:=by
 refine pure_call mix Tryz.func54 fits54 rfl ?_
 conv=>whnf
 refine ⟨_,fun _=>call122 _ l hn hg, ?_⟩
 conv=>whnf
 exact ret
theorem rows3 (a b c:Int):RowEq 3 (fun i=> [[PV.int .i64 a], [PV.int .i64 b], [PV.int .i64 c]].getD i []) (fl eInt [a,b,c]):=fun i hi=>by
 match i,hi with
 | 0,_=>rfl
 | 1,_=>rfl
 | 2,_=>rfl
theorem call54_3 (f:Nat→List PV) (a b c:Int) (ha:0≤a∧a≤1073741824) (hb:0≤b∧b≤1073741824) (hc:0≤c∧c≤1073741824) (hf:RowEq 3 f (fl eInt [a,b,c])):
  PureCall Tryz.prog 54 [.sl 2 1 3 f, .fn (.func 55) [] []] [] ⟨.bool false, [], []⟩:=by
 refine PureCall.arg_le (call54 2 [a,b,c] (show (3:Nat)≤1000 by omega) fun i hi=> ?_) rfl (by exact ent)
 match i,hi with
 | 0,_=>exact ha
 | 1,_=>exact hb
 | 2,_=>exact hc
end TB
def c57:C:=(.seq (.drw [km 5 0,km 6 0,kk 7 (.nc 6),kf 8 9 7,kf 9 0 8,kl 10 9,km 11 0,kk 12 (.nc 11),kf 13 17 12,kf 14 0 13,kl 15 14,kb 16 .add 10 15,kk 17 (.nc 5),kf 18 25 17,kx 1 18 16] (pl [(0,[1,2,3,4,5,6,7,8,9,10,11],5),(1,[6,7,8,9,10],6),(2,[6,7,8,9,10],7),(3,[6,7,8,9,10],8),(4,[6,7,8,9,10],9),(5,[6,7,8,9,10],10)])) (.seq (.drw [km 19 0,km 20 0,kk 21 (.nc 20),kf 22 17 21,kf 23 1 22,kl 24 23,km 25 0,kk 26 (.nc 25),kf 27 25 26,kl 28 27,kk 29 (.mn [24,28]),kk 30 (.nc 19),kf 31 17 30,kf 32 1 31,kx 1 32 29] (pl [(0,[1,2,3,4,5,6,7,8,9,10],19),(1,[6,7,8,9],20),(2,[6,7,8,9],21),(3,[6,7,8,9],22),(4,[6,7,8,9],23),(5,[6,7,8,9],24)])) (.drw [km 33 0,kk 34 (.nc 33),kf 35 25 34,kl 36 35,km 37 0,kk 38 (.nc 37),kf 39 17 38,kf 40 1 39,kl 41 40,kb 42 .sub 36 41,kk 43 (.nc 33),kf 44 25 43,kx 1 44 42] (pl [(0,[4,5,6,7,8],33),(1,[4,5,6,7,8],34),(2,[4,5,6,7,8],35),(3,[4,5,6,7,8],36)]))))
theorem fits57:fitsD Tryz.prog Tryz.f57 45=some ([125,124,123],c57.er):=by kernel_rfl
open Classical in
noncomputable def orcL:List (FuncId×List SE×CallRes)→Orc
 | [],_,_,_=>none
 | x::l,F,args,bs=>if F=x.1∧args= [.pt 0 0 0]∧bs=x.2.1 then some x.2.2 else orcL l F args bs
theorem orcL_ok {P:Program}:∀{l:List (FuncId×List SE×CallRes)},(∀x∈l,PureBody P x.1 [.pt 0 0 0] x.2.1 x.2.2)→∀f args bs c,orcL l f args bs=some c→PureBody P f args bs c
 | [],_,f,args,bs,c,h=>by simp [orcL] at h
 | x::l,hl,f,args,bs,c,h=>by
   unfold orcL at h
   split at h
   ·rename_i hx
    obtain ⟨rfl,rfl,rfl⟩:=hx
    injection h with h;subst h
    exact hl x (List.mem_cons_self ..)
   ·exact orcL_ok (fun y hy=>hl y (List.mem_cons_of_mem _ hy)) f args bs c h
theorem orc3_ok {P:Program} {f1 f2 f3:FuncId} {b1 b2 b3:List SE} {c1 c2 c3:CallRes} (h1:PureBody P f1 [.pt 0 0 0] b1 c1) (h2:PureBody P f2 [.pt 0 0 0] b2 c2) (h3:PureBody P f3 [.pt 0 0 0] b3 c3):
  ∀f args bs c,orcL [(f1,b1,c1),(f2,b2,c2),(f3,b3,c3)] f args bs=some c→PureBody P f args bs c:=orcL_ok fun y hy=>by
 rcases List.mem_cons.1 hy with rfl | hy
 ·exact h1
 rcases List.mem_cons.1 hy with rfl | hy
 ·exact h2
 rcases List.mem_cons.1 hy with rfl | hy
 ·exact h3
 ·cases hy
theorem orcL_hd {F:FuncId} {B:List SE} {c:CallRes} {l:List (FuncId×List SE×CallRes)}:orcL ((F,B,c)::l) F [.pt 0 0 0] B=some c:=if_pos ⟨rfl,rfl,rfl⟩
theorem orcL_tl {x:FuncId×List SE×CallRes} {F:FuncId} {a:List PV} {B:List SE} {l:List (FuncId×List SE×CallRes)} (h:F≠x.1):orcL (x::l) F a B=orcL l F a B:=if_neg fun hh=>h hh.1
theorem def_step {RB:Orc} {F:FuncId} {Fs:List FuncId} {st st':Nat→Option SE} {l l0 l1:List PV} {v:PV} (h:st 0=some (.box l)) (h0:lendCells l=some l0) (h1:RB F [.pt 0 0 0] [.box l0]=some ⟨v, [.box l1], []⟩) (h2:PV.idsL l1= [])
  (h3:natIn F givers=false) (h4:natIn F readers=false) (h5:defSts RB Fs (upd st 0 (.box l1))=some st'):defSts RB (F::Fs) st=some st':=by
 have e:defSt RB F st=some (upd st 0 (.box l1)):=by
  unfold defSt
  simp only [h,h0,h1,h2,h3,h4]
 unfold defSts
 rw [e]
 exact h5
def losF (s:Ds) (inf loss:Int):Int:=mn loss (s.vol+inf)
def lefF (s:Ds) (inf loss:Int):Int:=s.vol+inf - losF s inf loss
def dsT (x:Dm) (s:Ds) (inf loss rel:Int):Tu:=tuF x s rel (lefF s inf loss)
def dsS (x:Dm) (s:Ds) (inf loss rel lev:Int):Int×List Gs:=setF x s lev rel (lefF s inf loss) (dsT x s inf loss rel).t
def dsP (x:Dm) (s:Ds) (inf loss rel lev:Int):Int:=spiF x s lev rel (lefF s inf loss) (dsT x s inf loss rel).t
def dsO (x:Dm) (s:Ds) (inf loss rel lev:Int):Int:=ovrF x (lefF s inf loss) (dsT x s inf loss rel).t (dsP x s inf loss rel lev)
theorem losF_rng {x:Dm} {s:Ds} {inf loss:Int} (h:DmOK x) (hs:DsOK x s) (hi:0≤inf∧inf≤1073741824) (hl:0≤loss∧loss≤1073741824):(0≤losF s inf loss∧losF s inf loss≤loss)∧0≤lefF s inf loss∧lefF s inf loss≤1000000000000:=by
 have h1:=hs.vol
 have h2:=val_rng h.r.g x.r.crest
 change 0≤crsV x∧crsV x≤_ at h2
 unfold lefF losF mn
 split<;>omega
theorem spiF_rng {x:Dm} {s:Ds} {lev rel left tu:Int} (h:DmOK x) (hs:DsOK x s) (hv:0≤lev∧lev≤16777216) (ht:0≤tu∧tu≤freF x left):0≤spiF x s lev rel left tu∧spiF x s lev rel left tu≤freF x left - tu:=by
 have hS:=(setN_ok lev (mn rel (freF x left) - tu) hs.gs x.gs.length (Nat.le_refl _)).lo
 unfold spiF setF
 generalize setN x.gs s.gs lev (mn rel (freF x left) - tu) x.gs.length=S at hS⊢
 unfold mn
 split<;>omega
theorem call57 (x:Dm) (s:Ds) (inf loss rel lev:Int) (h:DmOK x) (hs:DsOK x s) (hi:0≤inf∧inf≤1073741824) (hl:0≤loss∧loss≤1073741824) (hr:0≤rel∧rel≤1073741824) (hv:0≤lev∧lev≤16777216):
  PureCall Tryz.prog 57 [.pt 0 0 0] [.box (eWk x s 0 0 inf loss 0 0 0 0 0 rel 0 lev (.nil 3) (.nil 2))]
   ⟨.tup [], [.box (eWk x s (lefF s inf loss - ((dsT x s inf loss rel).t+dsP x s inf loss rel lev) - dsO x s inf loss rel lev) (mn ((dsT x s inf loss rel).t+dsP x s inf loss rel lev) 1073741824) inf (losF s inf loss) (dsT x s inf loss rel).t (dsP x s inf loss rel lev) (dsO x s inf loss rel lev)
    (dsT x s inf loss rel).pw (dsT x s inf loss rel).st rel (lefF s inf loss - ((dsT x s inf loss rel).t+dsP x s inf loss rel lev)) lev (.sl 1 3 x.us.length (fl eUs (dsT x s inf loss rel).us)) (.sl 1 2 x.gs.length (fl eGs (dsS x s inf loss rel lev).2)))], []⟩:=by
 obtain ⟨a1,a2,a3⟩:=losF_rng h hs hi hl
 have hvl:=hs.vol
 have hcr:=val_rng h.r.g x.r.crest
 change 0≤crsV x∧crsV x≤_ at hcr
 obtain ⟨b1,b2,b3,b4,b5,b6⟩:=tuF_ok (lefF s inf loss) h hs hr.1
 change (dsT x s inf loss rel).t≤_ at b2
 have b7:=b1.t
 change 0≤(dsT x s inf loss rel).t∧(dsT x s inf loss rel).t≤_ at b7
 have hul:=h.ul
 have b8:(dsT x s inf loss rel).t≤freF x (lefF s inf loss):=by omega
 have c1:=spiF_rng (rel:=rel) h hs hv ⟨b7.1,b8⟩
 change 0≤dsP x s inf loss rel lev∧dsP x s inf loss rel lev≤_ at c1
 have hdv:=val_rng h.r.g x.r.dead
 have c2:freF x (lefF s inf loss)≤lefF s inf loss:=by unfold freF deaV mx;split<;>omega
 have h125:=call125 x s 0 0 inf (losF s inf loss) rel (lefF s inf loss) lev h hs ⟨a2,by omega⟩ hr
 have h124:=call124 x s 0 0 inf (losF s inf loss) (dsT x s inf loss rel).t (dsT x s inf loss rel).pw (dsT x s inf loss rel).st rel (lefF s inf loss) lev x.us.length (fl eUs (dsT x s inf loss rel).us) h hs ⟨a2,by omega⟩ hr hv ⟨b7.1,by omega,b8⟩
 have h123:=call123 x s 0 0 inf (losF s inf loss) (dsT x s inf loss rel).t (dsP x s inf loss rel lev) (dsT x s inf loss rel).pw (dsT x s inf loss rel).st rel (lefF s inf loss) lev x.us.length x.gs.length (fl eUs (dsT x s inf loss rel).us) (fl eGs (dsS x s inf loss rel lev).2) h ⟨a2,by omega⟩ ⟨b7.1,by omega⟩ ⟨c1.1,by omega⟩
 refine pure_def mix (f:=57) (show Tryz.prog.funcs[57]? =some Tryz.f57 from Tryz.func57) fits57 (orc3_ok h125 h124 h123) ?_
 conv=>whnf
 refine ⟨rfl, ?_⟩
 conv=>whnf
 refine ⟨rfl, ?_⟩
 conv=>whnf
 refine ⟨rfl, ?_⟩
 conv=>whnf
 refine ⟨by exact g0,⟨_,rfl⟩,_,def_step rfl rfl orcL_hd rfl rfl rfl (def_step rfl rfl ((orcL_tl (Nat.ne_of_beq_eq_false rfl)).trans orcL_hd) rfl rfl rfl (def_step rfl rfl ((orcL_tl (Nat.ne_of_beq_eq_false rfl)).trans ((orcL_tl (Nat.ne_of_beq_eq_false rfl)).trans orcL_hd)) rfl rfl rfl rfl)),rfl⟩
namespace TB
def c11:C:=(sr [kk 5 (.bx 9 0),kk 6 (.bx 4 1),kk 10 (.al [z0,z0,(.nil 3),(.nil 2)]),kk 11 (.al [z0,z0,z0,z0,z0,z0,z0]),kk 12 (.mv (cn 0))] (sr [kt 17 9 5,kt 18 4 6,kc 19 53 [17,18],km 16 19,ke 20 16 0,ke 21 16 1,km 13 20,km 14 21] (.seq (sr [km 22 14,kb 23 .neq 22 (cn 0)] (.cond 23 (sr [kk 24 (.bd [z0,z0,(.nil 3),(.nil 2)] []),kk 25 (.bd [z0,z0,z0,z0,z0,z0,z0] []),km 26 14,kx 4 10 24,kx 7 11 25,km 12 26] .ret) .skip)) (.seq (sr [km 27 2,km 28 3,km 29 4,kk 30 (.bs 3 1 [27,28,29]),kk 31 (cl 54 [30,(.c (.fn (.func 55) [] []))])] (.cond 31 (sr [kk 32 (.bd [z0,z0,(.nil 3),(.nil 2)] []),kk 33 (.bd [z0,z0,z0,z0,z0,z0,z0] []),kx 4 10 32,kx 7 11 33,kk 12 (.mv (cn 1))] .ret) .skip)) (sr [kt 34 9 5,kt 35 4 6,km 36 2,km 37 3,kk 38 (.bd [z0,z0,z0,z0,z0,z0,z0] [(0,1,36),(1,1,37)]),km 39 4,km 40 13,kk 41 (.bd [(.nil 2),z0,z0,z0,z0,z0,(.nil 6),(.nil 3),z0,z0,z0,(.nil 3),(.nil 2),z0,z0,(.nil 3),(.nil 2),z0,z0,z0,z0,z0,z0,z0,z0,z0,z0] [(0,9,34),(9,4,35),(17,7,38),(24,1,39),(26,1,40)]),kk 42 (.bx 27 41),km 15 42] (sr [km 43 15,kc 44 57 [43]] (.seq (.drw [km 45 15,kk 46 (.nc 45),kf 47 13 46,kt 48 4 47,km 49 15,kk 50 (.nc 49),kf 51 17 50,kt 52 7 51,kx 4 10 48,kx 7 11 52,kk 12 (.mv (cn 0))] (pl [(0,[4,5,6,7],45),(1,[4,5,6,7],46),(2,[4,5,6,7],47),(3,[4,5,6,7],48),(4,[8],49),(5,[8],50),(6,[8],51),(7,[8],52)])) .ret)))))))
theorem fits11:fits Tryz.prog false Tryz.f11 5 53 [(10,some (4,true)),(11,some (7,true)),(12,none)]=some c11.er:=by kernel_rfl
def c14:C:=(sr [kk 1 (.bx 7 0),kk 2 (.mv (cn 0))] (sr [kf 3 2 1,kl 4 3,kf 5 3 1,kl 6 5,kb 7 .add 4 6,kf 8 4 1,kl 9 8,kb 10 .add 7 9,km 2 10] .ret))
theorem fits14:fits Tryz.prog false Tryz.f14 1 11 [(2,none)]=some c14.er:=by kernel_rfl
end TB
def nexS (x:Dm) (s:Ds) (inf loss rel:Int):Ds:=
 ⟨lefF s inf loss - ((dsT x s inf loss rel).t+dsP x s inf loss rel (hgtF x.r s.vol)) - dsO x s inf loss rel (hgtF x.r s.vol),mn ((dsT x s inf loss rel).t+dsP x s inf loss rel (hgtF x.r s.vol)) 1073741824,(dsT x s inf loss rel).us,(dsS x s inf loss rel (hgtF x.r s.vol)).2⟩
structure Rc where
 inf:Int
 loss:Int
 tu:Int
 sp:Int
 ov:Int
 pw:Int
 st:Int
def eRc (r:Rc):List PV:= [.int .i64 r.inf, .int .i64 r.loss, .int .i64 r.tu, .int .i64 r.sp, .int .i64 r.ov, .int .i64 r.pw, .int .i64 r.st]
def recS (x:Dm) (s:Ds) (inf loss rel:Int):Rc:=⟨inf,losF s inf loss,(dsT x s inf loss rel).t,dsP x s inf loss rel (hgtF x.r s.vol),dsO x s inf loss rel (hgtF x.r s.vol),(dsT x s inf loss rel).pw,(dsT x s inf loss rel).st⟩
theorem call11 (x:Dm) (s:Ds) (inf loss rel:Int) (h:DmOK x) (hs:DsOK x s) (hi:0≤inf∧inf≤1073741824) (hl:0≤loss∧loss≤1073741824) (hr:0≤rel∧rel≤1073741824):
  PureCall Tryz.prog 11 [.agg (eDm 1 x), .agg (eDs 1 s), .int .i64 inf, .int .i64 loss, .int .i64 rel] []
   ⟨.tup [.agg (eDs 1 (nexS x s inf loss rel)), .agg (eRc (recS x s inf loss rel)), .int .i64 0], [], []⟩:=by
 have hv:=hgtF_rng h.r s.vol
 have hu:x.us.length=(dsT x s inf loss rel).us.length:=(tuF_ok (lefF s inf loss) h hs hr.1).1.len.symm
 have hg:x.gs.length=(dsS x s inf loss rel (hgtF x.r s.vol)).2.length:=(setN_ok _ _ hs.gs x.gs.length (Nat.le_refl _)).len.symm
 refine pure_call mix Tryz.func11 TB.fits11 rfl ?_
 conv=>whnf
 refine ⟨_,fun _=>call53 _ _ x s h hs, ?_⟩
 conv=>whnf
 refine ⟨by exact g0,fun h=>(by cases h),fun _=> ?_⟩
 conv=>whnf
 have q:=TB.rows3 inf loss rel
 refine ⟨_,fun _=>TB.call54_3 _ inf loss rel hi hl hr q, ?_⟩
 conv=>whnf
 refine ⟨by exact g0,fun h=>(by cases h),fun _=> ?_⟩
 conv=>whnf
 refine ⟨_,fun _=>call57 x s inf loss rel (hgtF x.r s.vol) h hs hi hl hr hv, ?_⟩
 unfold recS nexS
 conv=>whnf
 refine ⟨rfl, ?_⟩
 conv=>whnf
 exact ret
theorem call14 (r:Rc) (h1:0≤r.tu∧r.tu≤1000000000000000) (h2:0≤r.sp∧r.sp≤1000000000000000) (h3:0≤r.ov∧r.ov≤1000000000000000):PureCall Tryz.prog 14 [.agg (eRc r)] [] ⟨.int .i64 (r.tu+r.sp+r.ov), [], []⟩:=by
 refine pure_call mix Tryz.func14 TB.fits14 rfl ?_
 conv=>whnf
 exact ret
namespace TE
def RgP (z:Bnd):Prop:=0≤z.lo∧z.lo<z.hi∧z.hi≤1073741824
theorem rgh_rg:∀(n:Nat) (s:List Bnd×Dk),(∀i,i<s.1.length→RgP (s.1.getD i default))→∀i,i<(it rghN n s).1.length→RgP ((it rghN n s).1.getD i default)
 | 0,s,h=>h
 | n+1,s,h=>by
   unfold it
   refine rgh_rg n (rghN s) fun i hi=> ?_
   unfold rghN at hi⊢
   have r1:=nxt_lt s.2 (n:=16) (by omega)
   have r2:=nxt_lt (nxtD s.2 16) (n:=5) (by omega)
   dsimp only at hi⊢
   rw [getD_push]
   split
   ·exact h i (by assumption)
   ·rw [if_pos (by rw [List.length_append,List.length_singleton] at hi;omega)]
    unfold RgP
    dsimp only
    omega
theorem unit_made (d:Dk):UOK (unitF d).1:=by
 obtain ⟨_,hm,hr,_⟩:=unitF_ok d
 have hl:=hm.len
 have ht:=hm.rng ((unitF d).1.tb.length - 1) (by omega)
 have hrg:∀i,i<(unitF d).1.rough.length→RgP ((unitF d).1.rough.getD i default):=by
  rw [unitF_rough]
  exact rgh_rg (nxt (unitE d) 3).toNat ([],nxtD (unitE d) 3) (fun i hi=>by simp at hi)
 have r1:=nxt_lt (unitC d).d (n:=8) (by omega)
 have r2:=nxt_lt (nxtD (unitC d).d 8) (n:=3) (by omega)
 have r3:=nxt_lt (nxtD (nxtD (unitC d).d 8) 3) (n:=3) (by omega)
 have r4:=nxt_lt (nxtD (nxtD (nxtD (unitC d).d 8) 3) 3) (n:=12) (by omega)
 have e1:(unitF d).1.least=1+nxt (unitC d).d 8:=by unfold unitF;dsimp only
 have e2:(unitF d).1.most=1+nxt (unitC d).d 8+nxt (nxtD (nxtD (nxtD (unitC d).d 8) 3) 3) 12:=by unfold unitF;dsimp only
 have e3:(unitF d).1.up=nxt (nxtD (unitC d).d 8) 3:=by unfold unitF;dsimp only
 have e4:(unitF d).1.down=nxt (nxtD (nxtD (unitC d).d 8) 3) 3:=by unfold unitF;dsimp only
 exact ⟨hm,by omega,by omega,by omega,by omega,fun i hi=>hrg i hi,by omega⟩
theorem flowL_in (u:Ut) (g:Int) (hg:1≤g):∀(n:Nat) (q:Int) (out:List Int),u.least≤q→(∀y∈out,u.least≤y∧y≤u.most∧insL y u.rough=none)→
  ∀y∈(flowL u g n q out).1,u.least≤y∧y≤u.most∧insL y u.rough=none
 | 0,q,out,_,h=>h
 | n+1,q,out,hq,h=>by
   unfold flowL
   split
   ·rename_i hm
    split
    ·rename_i e he
     obtain ⟨h1,z,hz,he2⟩:=insL_gt he
     refine flowL_in u g hg n _ out ?_ h
     by_cases h0:0≤e
     ·have:=(upG_rng (x:=e) hg h0).1
      omega
     ·unfold upG
      have e1:=Int.mul_ediv_add_emod (e+g - 1) g
      have e3:=Int.emod_lt_of_pos (e+g - 1) (b:=g) (by omega)
      rw [Int.mul_comm] at e1
      omega
    ·rename_i he
     split
     ·intro y hy;cases hy
     ·refine flowL_in u g hg n _ _ (by omega) fun y hy=> ?_
      rcases List.mem_append.1 hy with hy | hy
      ·exact h y hy
      ·rw [List.mem_singleton] at hy
       subst hy
       exact ⟨hq,hm,he⟩
   ·exact h
theorem flowsU_in {u:Ut} (h:UOK u) (y:Int) (hy:y∈(flowsU u 1).1):runsU u y=true:=by
 have hlm:=h.lm
 refine (runsU_iff h y).2 ?_
 unfold flowsU at hy
 split at hy
 ·cases hy
 split at hy
 ·cases hy
 have:=(upG_rng (g:=1) (x:=u.least) (by omega) (by omega)).1
 exact flowL_in u 1 (by omega) _ _ [] this (fun y hy=>by cases hy) y hy
theorem ust_made (d:Dk) {u:Ut} (h:UOK u):fitsU u (ustF d u).1=true:=by
 have r1:=nxt_lt d (n:=5) (by omega)
 rw [fitsU_iff]
 unfold ustF
 dsimp only
 split
 ·rename_i hc
  obtain ⟨hc1,hc2⟩:=hc
  split
  ·dsimp only
   refine ⟨by omega, .inr ⟨hc2,flowsU_in h _ ?_⟩⟩
   have r2:=nxt_lt (nxtD (nxtD (nxtD d 5) 7) 2) (n:=((flowsU u 1).1.length:Int)) (by omega)
   generalize (flowsU u 1).1=l at r2 hc1⊢
   have hk:(nxt (nxtD (nxtD (nxtD d 5) 7) 2) (l.length:Int)).toNat<l.length:=by omega
   rw [List.getD_eq_getElem?_getD,List.getElem?_eq_getElem hk]
   exact List.getElem_mem hk
  ·exact ⟨by dsimp only;omega, .inl rfl⟩
 ·exact ⟨by dsimp only;omega, .inl rfl⟩
structure UnP (s:List Ut×List Us×Dk):Prop where
 len:s.1.length=s.2.1.length
 ok:∀i,i<s.1.length→UOK (s.1.getD i default)∧fitsU (s.1.getD i default) (s.2.1.getD i default)=true
theorem un_made:∀(n:Nat) (s:List Ut×List Us×Dk),UnP s→UnP (it unN n s)
 | 0,s,h=>h
 | n+1,s,h=>by
   unfold it
   refine un_made n (unN s) ⟨?_,fun i hi=> ?_⟩
   ·unfold unN
    dsimp only
    rw [List.length_append,List.length_append,h.len];rfl
   ·unfold unN at hi⊢
    dsimp only at hi⊢
    rw [List.length_append,List.length_singleton] at hi
    rw [getD_push,getD_push,←h.len]
    by_cases hh:i<s.1.length
    ·rw [if_pos hh,if_pos hh];exact h.ok i hh
    ·rw [if_neg hh,if_neg hh,if_pos (by omega),if_pos (by omega)]
     exact ⟨unit_made _,ust_made _ (unit_made _)⟩
theorem units_made (d:Dk):UsOK (unitsF d 2).1 (unitsF d 2).2.1:=by
 have h1:=unitsF_ok d (m:=2) (by omega)
 have h2:UnP (unitsF d 2):=un_made (nxt d (2+1)).toNat ([], [],nxtD d (2+1)) ⟨rfl,fun i hi=>by simp at hi⟩
 exact ⟨by omega,by omega,fun i hi=>(h2.ok i hi).1,fun i hi=>(h2.ok i hi).2⟩
structure GtP (s:List Gr×Int×Dk):Prop where
 lv:∀i,i<s.1.length→0≤(s.1.getD i default).lv∧(s.1.getD i default).lv<s.2.1
 hi:0≤s.2.1∧s.2.1≤200+41*s.1.length
 up:∀i,i<s.1.length→0<i→(s.1.getD (i - 1) default).lv<(s.1.getD i default).lv
 made:∀i,i<s.1.length→MadeC (s.1.getD i default).c
 zero:∀i,i<s.1.length→(s.1.getD i default).c.getD 0 default=⟨0,0⟩
theorem crvS_hd {dx dy least:Int}:∀(k:Nat) (s:Cst),0<s.L.length→(crvS dx dy least k s).L.getD 0 default=s.L.getD 0 default
 | 0,s,_=>rfl
 | k+1,s,h=>by
   have hlen:(crvN dx dy least s).L.length=s.L.length+1:=by simp [crvN]
   have:=crvS_hd (dx:=dx) (dy:=dy) (least:=least) k (crvN dx dy least s) (by omega)
   refine Eq.trans this ?_
   refine (getD_push _ _ _).trans ?_
   rw [if_pos h]
theorem gt_made:∀(n:Nat) (s:List Gr×Int×Dk),GtP s→GtP (it gtN n s)
 | 0,s,h=>h
 | n+1,s,h=>by
   unfold it
   have hm:=curve_made s.2.2 (x:=0) (y:=0) (dx:=6) (dy:=20) (least:=0) (by omega) (by omega) (by omega) (by omega) (by omega)
   have hz:(curveS s.2.2 0 0 6 20 0).L.getD 0 default=⟨0,0⟩:=by
    unfold curveS
    exact crvS_hd _ _ (by exact Nat.one_pos)
   have r:=nxt_lt (curveS s.2.2 0 0 6 20 0).d (n:=40) (by omega)
   have hh:=h.hi
   refine gt_made n (gtN s) ?_
   unfold gtN
   generalize curveS s.2.2 0 0 6 20 0=c at hm hz r⊢
   generalize nxt c.d 40=y at r⊢
   have hg:∀i,i<(s.1++ [(⟨s.2.1,c.L⟩:Gr)]).length→i<s.1.length∧(s.1++ [(⟨s.2.1,c.L⟩:Gr)]).getD i default=s.1.getD i default∨i=s.1.length∧(s.1++ [(⟨s.2.1,c.L⟩:Gr)]).getD i default=⟨s.2.1,c.L⟩:=fun i hi=>by
    rw [List.length_append,List.length_singleton] at hi
    rw [getD_push]
    by_cases hh:i<s.1.length
    ·rw [if_pos hh];exact .inl ⟨hh,rfl⟩
    ·rw [if_neg hh,if_pos (by omega)];exact .inr ⟨by omega,rfl⟩
   refine ⟨fun i hi=> ?_, ?_,fun i hi h0=> ?_,fun i hi=> ?_,fun i hi=> ?_⟩
   ·dsimp only at hi⊢
    rcases hg i hi with ⟨g1,g2⟩ | ⟨g1,g2⟩
    ·rw [g2];have:=h.lv i g1;omega
    ·rw [g2];dsimp only;omega
   ·dsimp only
    rw [List.length_append,List.length_singleton];omega
   ·dsimp only at hi⊢
    rcases hg i hi with ⟨g1,g2⟩ | ⟨g1,g2⟩
    ·rcases hg (i - 1) (by omega) with ⟨k1,k2⟩ | ⟨k1,k2⟩
     ·rw [g2,k2];exact h.up i g1 h0
     ·omega
    ·rcases hg (i - 1) (by omega) with ⟨k1,k2⟩ | ⟨k1,k2⟩
     ·rw [g2,k2];exact (h.lv (i - 1) k1).2
     ·omega
   ·dsimp only at hi⊢
    rcases hg i hi with ⟨g1,g2⟩ | ⟨g1,g2⟩
    ·rw [g2];exact h.made i g1
    ·rw [g2];exact hm.1
   ·dsimp only at hi⊢
    rcases hg i hi with ⟨g1,g2⟩ | ⟨g1,g2⟩
    ·rw [g2];exact h.zero i g1
    ·rw [g2];exact hz
theorem gate_made (d:Dk):GOK (gateF d).1:=by
 have r1:=nxt_lt d (n:=12) (by omega)
 have r2:=nxt_lt (nxtD d 12) (n:=6) (by omega)
 have r3:=nxt_lt (gateE d) (n:=40) (by omega)
 have r4:=nxt_lt (nxtD (gateE d) 40) (n:=3) (by omega)
 have h:=gt_made ((nxt (nxtD (gateE d) 40) 3).toNat+1) ([],90+nxt (gateE d) 40,nxtD (nxtD (gateE d) 40) 3) ⟨fun i hi=>by simp at hi,by dsimp only;simp;omega,fun i hi=>by simp at hi,fun i hi=>by simp at hi,fun i hi=>by simp at hi⟩
 have hl:=(gt_ok ((nxt (nxtD (gateE d) 40) 3).toNat+1) ([],90+nxt (gateE d) 40,nxtD (nxtD (gateE d) 40) 3)).1
 have hu:gateR d=it gtN ((nxt (nxtD (gateE d) 40) 3).toNat+1) ([],90+nxt (gateE d) 40,nxtD (nxtD (gateE d) 40) 3):=by unfold gateR;dsimp only
 rw [←hu] at h hl
 rw [List.length_nil] at hl
 have e1:(gateF d).1.rt=(gateR d).1:=by unfold gateF;dsimp only
 have e2:(gateF d).1.most=nxt d 12:=by unfold gateF;dsimp only
 have e3:(gateF d).1.move=nxt (nxtD d 12) 6:=by unfold gateF;dsimp only
 have hh:=h.hi
 refine ⟨by rw [e1];omega,fun i hi=> ?_,fun i hi h0=> ?_,fun i hi=> ?_,fun i hi=> ?_,fun i hi=> ?_,by omega,by omega⟩
 ·rw [e1] at hi⊢;have:=h.lv i hi;omega
 ·rw [e1] at hi⊢;exact h.up i hi h0
 ·rw [e1] at hi⊢;exact h.made i hi
 ·rw [e1] at hi⊢;exact h.zero i hi
 ·rw [e1] at hi⊢
  have hm:=h.made i hi
  have hl:=hm.len
  have:=hm.rng (((gateR d).1.getD i default).c.length - 1) (by omega)
  omega
structure GsP (s:List Ga×List Gs×Dk):Prop where
 len:s.1.length=s.2.1.length
 ok:∀i,i<s.1.length→GOK (s.1.getD i default)∧0≤(s.2.1.getD i default).op∧(s.2.1.getD i default).op≤(s.1.getD i default).most
theorem gs_made:∀(n:Nat) (s:List Ga×List Gs×Dk),GsP s→GsP (it gsN n s)
 | 0,s,h=>h
 | n+1,s,h=>by
   unfold it
   refine gs_made n (gsN s) ⟨?_,fun i hi=> ?_⟩
   ·unfold gsN
    dsimp only
    rw [List.length_append,List.length_append,h.len];rfl
   ·unfold gsN at hi⊢
    dsimp only at hi⊢
    rw [List.length_append,List.length_singleton] at hi
    rw [getD_push,getD_push,←h.len]
    by_cases hh:i<s.1.length
    ·rw [if_pos hh,if_pos hh];exact h.ok i hh
    ·rw [if_neg hh,if_neg hh,if_pos (by omega),if_pos (by omega)]
     have hg:=gate_made s.2.2
     have hgm:=hg.most
     have r:=nxt_lt (gateF s.2.2).2 (n:=(gateF s.2.2).1.most+1) (by omega)
     exact ⟨hg,by dsimp only;omega,by dsimp only;omega⟩
theorem gates_made (d:Dk):GsOK (gatesF d 2).1 (gatesF d 2).2.1:=by
 have h1:=gatesF_ok d (m:=2) (by omega)
 have h2:GsP (gatesF d 2):=gs_made (nxt d (2+1)).toNat ([], [],nxtD d (2+1)) ⟨rfl,fun i hi=>by simp at hi⟩
 exact ⟨by omega,by omega,fun i hi=>(h2.ok i hi).1,fun i hi=>(h2.ok i hi).2⟩
def StrC (s:Cst):Prop:=1≤s.L.length∧s.L.getD (s.L.length - 1) default=⟨s.x,s.y⟩∧∀i,0<i→i<s.L.length→(s.L.getD (i - 1) default).y<(s.L.getD i default).y
theorem crvN_str {dx dy:Int} {s:Cst} (h:StrC s):StrC (crvN dx dy 1 s):=by
 obtain ⟨h1,h2,h4⟩:=h
 have r2:=nxt_rng (nxtD s.d dx) dy
 have hlen:(crvN dx dy 1 s).L.length=s.L.length+1:=by simp [crvN]
 have hget:∀i,(crvN dx dy 1 s).L.getD i default=if i<s.L.length then s.L.getD i default else if i=s.L.length then ⟨s.x+1+nxt s.d dx,s.y+1+nxt (nxtD s.d dx) dy⟩ else default:=fun i=>getD_push _ _ _
 refine ⟨by omega, ?_, ?_⟩
 ·rw [hget,hlen,Nat.add_sub_cancel,if_neg (by omega),if_pos rfl];rfl
 ·intro i h0 hi
  rw [hlen] at hi
  rw [hget,hget]
  by_cases hh:i<s.L.length
  ·rw [if_pos hh,if_pos (by omega)];exact h4 i h0 hh
  ·rw [if_neg hh,if_pos (by omega),if_pos (by omega),show i - 1=s.L.length - 1 by omega,h2];dsimp only;omega
theorem crvS_str {dx dy:Int}:∀(k:Nat) {s:Cst},StrC s→StrC (crvS dx dy 1 k s)
 | 0,s,h=>h
 | k+1,s,h=>crvS_str k (crvN_str h)
theorem resC_str (d:Dk):∀i,0<i→i<(resC d).L.length→((resC d).L.getD (i - 1) default).y<((resC d).L.getD i default).y:=by
 unfold resC curveS
 refine (crvS_str _ ?_).2.2
 exact ⟨Nat.le_refl _,rfl,fun i h0 hi=>by simp at hi;omega⟩
theorem lvS_mono {last:Int} {s:Int×Dk} (i:Nat):(lvS last s i).1≤(lvS last s (i+1)).1:=by
 have r:=nxt_rng (lvS last s i).2 (lvD last i (lvS last s i).1)
 show _≤(lvN last i (lvS last s i)).1
 unfold lvN
 dsimp only
 omega
theorem res_valid (d:Dk):RvOK (resF d).1:=by
 have hC:=resC_ok d
 have hs:=resC_str d
 have he:=made_ends hC.1
 have e0:(resF d).1.st=(resC d).L:=by unfold resF;dsimp only
 have hl5:=(lvS_ok (last:=((resC d).L.getD ((resC d).L.length - 1) default).x) (s:=(((resC d).L.getD 0 default).x,(resC d).d)) he.2.1 5 (Nat.le_refl _)).1
 refine ⟨by rw [e0];exact hC.1.good,by rw [e0];exact hC.1.len.1, ?_, ?_, ?_⟩
 ·intro i hi
  rw [e0] at hi⊢
  have:=hC.1.rng i hi
  have:=hC.1.len
  omega
 ·intro i hi h0
  rw [e0] at hi⊢
  exact hs i h0 hi
 ·intro i hi h0
  have m:=fun k=>lvS_mono (last:=((resC d).L.getD ((resC d).L.length - 1) default).x) (s:=(((resC d).L.getD 0 default).x,(resC d).d)) k
  have eL:resL (resF d).1= [((resC d).L.getD 0 default).x,(resS (resC d) 1).1,(resS (resC d) 2).1,(resS (resC d) 3).1,(resS (resC d) 4).1,(resS (resC d) 5).1,((resC d).L.getD ((resC d).L.length - 1) default).x]:=by unfold resL resF;dsimp only
  rw [eL]
  obtain rfl | rfl | rfl | rfl | rfl | rfl:i=1∨i=2∨i=3∨i=4∨i=5∨i=6:=by omega
  ·exact m 0
  ·exact m 1
  ·exact m 2
  ·exact m 3
  ·exact m 4
  ·exact hl5.2
theorem vol_le (r:Rv) (level:Int) (h:RvOK r):(volF r level).1≤valC r.st level:=by
 have hv:=val_rng h.g level
 unfold volF
 split
 ·exact hv.1
 ·unfold atC
  split
  ·exact Int.le_refl _
  ·exact hv.1
theorem dam_made (d:Dk):DmOK (damF d).1∧DsOK (damF d).1 (damF d).2.1∧crsV (damF d).1≤10000:=by
 have hr:=res_valid d
 have hC:=(resC_ok d).1
 have e0:(resF d).1.st=(resC d).L:=by unfold resF;dsimp only
 have hcr:valC (resF d).1.st (resF d).1.crest≤10000:=by
  rw [e0];exact (valM_rng hC _).2
 have hvl:=vol_le (resF d).1 (resF d).1.crest hr
 have hv0:=volF_rng (resF d).1 (resF d).1.crest
 unfold damF
 dsimp only
 generalize resF d=R at hr hcr hvl hv0⊢
 have r1:=nxt_lt R.2 (n:=4) (by omega)
 have hu:=units_made (nxtD R.2 4)
 have hul:=(unitsF_ok (nxtD R.2 4) (m:=2) (by omega)).1
 generalize unitsF (nxtD R.2 4) 2=U at hu hul⊢
 have hg:=gates_made U.2.2
 have hgl:=(gatesF_ok U.2.2 (m:=2) (by omega)).1
 generalize gatesF U.2.2 2=G at hg hgl⊢
 have r2:=nxt_lt G.2.2 (n:=(volF R.1 R.1.crest).1+1) (by omega)
 have r3:=nxt_lt (nxtD G.2.2 ((volF R.1 R.1.crest).1+1)) (n:=30) (by omega)
 refine ⟨⟨hr,by dsimp only;omega,by dsimp only;omega,hu.ok,hg.ok,by dsimp only;omega⟩,⟨?_,by dsimp only;omega,hu,hg⟩,hcr⟩
 show 0≤nxt G.2.2 ((volF R.1 R.1.crest).1+1)∧nxt G.2.2 ((volF R.1 R.1.crest).1+1)≤valC R.1.st R.1.crest
 omega
theorem step_dam {x:Dm} {s:Ds} {inf loss rel:Int} (h:DmOK x) (hs:DsOK x s) (hi:0≤inf∧inf≤1073741824) (hl:0≤loss∧loss≤1073741824) (hr:0≤rel∧rel≤1073741824):
  ∃(S:Ds) (R:Rc),PureCall Tryz.prog 11 [.agg (eDm 1 x), .agg (eDs 1 s), .int .i64 inf, .int .i64 loss, .int .i64 rel] [] ⟨.tup [.agg (eDs 1 S), .agg (eRc R), .int .i64 0], [], []⟩∧
   DsOK x S∧S.vol+(R.tu+R.sp+R.ov)+R.loss=s.vol+inf∧R.inf=inf∧(0≤R.loss∧R.loss≤loss)∧0≤R.tu∧0≤R.sp∧0≤R.ov:=by
 refine ⟨nexS x s inf loss rel,recS x s inf loss rel,call11 x s inf loss rel h hs hi hl hr, ?_⟩
 obtain ⟨a1,a2,a3⟩:=losF_rng h hs hi hl
 have hv:=hgtF_rng h.r s.vol
 have hcr:=val_rng h.r.g x.r.crest
 change 0≤crsV x∧crsV x≤_ at hcr
 obtain ⟨b1,b2,b3,b4,b5,b6⟩:=tuF_ok (lefF s inf loss) h hs hr.1
 have hset:=setN_ok (hgtF x.r s.vol) (mn rel (freF x (lefF s inf loss)) - (dsT x s inf loss rel).t) hs.gs x.gs.length (Nat.le_refl _)
 change TuOK x.us x.us.length (dsT x s inf loss rel) at b1
 change (dsT x s inf loss rel).t≤_ at b2
 have b7:=b1.t
 have c1:=spiF_rng (rel:=rel) (left:=lefF s inf loss) (tu:=(dsT x s inf loss rel).t) (lev:=hgtF x.r s.vol) h hs hv ⟨b7.1,by omega⟩
 change 0≤dsP x s inf loss rel (hgtF x.r s.vol)∧dsP x s inf loss rel (hgtF x.r s.vol)≤_ at c1
 change SetOK x.gs s.gs _ x.gs.length (dsS x s inf loss rel (hgtF x.r s.vol)) at hset
 have hdv:=val_rng h.r.g x.r.dead
 have c2:freF x (lefF s inf loss)≤lefF s inf loss:=by unfold freF deaV mx;split<;>omega
 have hov:dsO x s inf loss rel (hgtF x.r s.vol)=mx (lefF s inf loss - ((dsT x s inf loss rel).t+dsP x s inf loss rel (hgtF x.r s.vol)) - crsV x) 0:=rfl
 have hle:lefF s inf loss=s.vol+inf - losF s inf loss:=rfl
 unfold nexS recS
 dsimp only
 generalize dsO x s inf loss rel (hgtF x.r s.vol)=O at hov⊢
 generalize dsP x s inf loss rel (hgtF x.r s.vol)=Pp at hov c1⊢
 generalize dsS x s inf loss rel (hgtF x.r s.vol)=SS at hset⊢
 generalize dsT x s inf loss rel=T at b1 b2 b7 hov c1⊢
 generalize lefF s inf loss=L at hov hle c1 c2 b2 b6 a2 a3⊢
 generalize losF s inf loss=Lo at hle a1⊢
 have hO:0≤O∧L - (T.t+Pp) - O≤crsV x∧0≤L - (T.t+Pp) - O:=by
  rw [hov];unfold mx;split<;>omega
 refine ⟨⟨by dsimp only;omega, ?_,⟨hs.us.le,b1.len.symm,hs.us.ok,b1.fit⟩,⟨hs.gs.le,hset.len.symm,hs.gs.ok,hset.op⟩⟩,by omega,rfl,a1,b7.1,c1.1,hO.1⟩
 show 0≤mn (T.t+Pp) 1073741824∧mn (T.t+Pp) 1073741824≤1073741824
 unfold mn;split<;>omega
end TE
section
variable {P:Program} {wr:Bool} {np n:Nat} {c:C} {Q:Lv→PS→Prop}
theorem LSem.untagN {fr:Nat→Option PV} {st:Nat→Option SE} {ok:Prop} {log:Nat→Option LogE} (r:Nat) {τ:Nat} {e:TypeId} {m:Nat} {f:Nat→List PV} (l:List Int) (h1:st r=some (.row τ e 1 m f)) (hm:m=l.length) (hf:RowEq l.length f (fl (fun n:Int=> [PV.int .i64 n]) l))
  (h:LSem P wr np c Q ⟨n,fr,upd st r (.row 0 e 1 l.length (fl (fun n:Int=> [PV.int .i64 n]) l)),ok,log⟩):LSem P wr np c Q ⟨n,fr,st,ok,log⟩:=by
 subst hm
 exact LSem.untag r τ e f l h1 hf h
end
theorem cpT_same (τ:Nat) (g:Nat→List PV) (k:Nat):cpT τ τ g k=τ:=by
 unfold cpT
 split
 ·rfl
 ·exact Nat.max_self τ
namespace TE
def c188L1:C:=(sr [kb 26 .lss 25 24] (.seq (.cond 26 .skip (.exit 0)) (.seq (.block 1 (sr [km 27 25,ki 28 1 23 25,kl 29 28,km 10 27,km 11 29] (sr [km 30 9,km 31 10,ki 32 1 30 31,kl 33 32,km 34 2,km 35 11,kb 36 .mul 34 35,kb 37 .add 33 36,ki 38 1 30 31,kx 1 38 37] (.cut (sr [km 39 9,km 40 10,ki 41 1 39 40,kl 42 41,kb 43 .gtr 42 (cn 1125899906842624)] (.cond 43 (sr [kk 44 (.bd [(.nil 1)] []),kx 1 6 44,kk 7 (.mv (cn 0)),kk 8 (.mv cf)] .ret) .skip)))))) (.reg [kb 45 .add 25 (cn 1),km 25 45]))))
def c188L2:C:=(.seq (sr [km 69 9,kk 70 (.len 69),kb 71 .gtr 70 (cn 0),km 72 71,kg 73 72 true (.mv 9),kg 74 72 true (.mv 9),kg 75 72 true (.len 74),kg 76 72 true (.bi false .sub 75 (cn 1)),kg 77 72 true (.ia 1 73 76),kg 78 72 true (.ld 1 false 77),kg 79 72 true (.bi false .eql 78 (cn 0)),kk 80 (.pick 72 79 cf)] (.cond 80 .skip (.exit 2))) (.block 3 (.reg [km 81 9,km 82 9,kk 83 (.len 82),kb 84 .sub 83 (cn 1),kk 85 (.slc 1 81 none (some 84)),km 9 85])))
def c188:C:=(sr [kk 3 (.bx 2 0),kk 4 (.bx 1 1),kk 6 (.al [(.nil 1)]),kk 7 (.mv (cn 0)),kk 8 (.mv cf)] (sr [kf 13 0 3,kl 14 13,kk 15 (.len 14),kb 16 .add 15 (cn 1),kk 17 (.mks 3 1 8 [z0] 16 16),km 9 17] (sr [km 18 9,kf 19 0 4,kl 20 19,kk 21 (.cpy 1 18 20)] (.seq (sr [kf 22 0 3,kl 23 22,kk 24 (.len 23),kk 25 (.mv (cn 0))] (.block 0 (.loop c188L1))) (.seq (.drw [km 46 9,ki 47 1 46 (cn 0),kl 48 47,kf 49 1 3,kl 50 49,kb 51 .quo 48 50,km 12 51] (pl [(0,[3,4],46),(1,[3,4],47),(2,[3,4],48)])) (.seq (.drw [km 52 9,ki 53 1 52 (cn 1),kl 54 53,km 55 9,ki 56 1 55 (cn 0),kl 57 56,kf 58 1 3,kl 59 58,kb 60 .rem 57 59,kb 61 .add 54 60,ki 62 1 52 (cn 1),kx 1 62 61] (pl [(0,[3,4,5,6,7,8],52),(1,[3,4,5,6,7,8],53),(2,[3,4,5,6,7,8],54),(3,[6,7],55),(4,[6,7],56),(5,[6,7],57)])) (sr [km 63 9,km 64 9,km 65 9,kk 66 (.slc 1 65 (some (cn 1)) none),kk 67 (.cpy 1 64 66),kk 68 (.slc 1 63 none (some 67)),km 9 68] (.seq (.block 2 (.loop c188L2)) (sr [km 86 9,kk 87 (.bd [(.nil 1)] [(0,1,86)]),km 88 12,kx 1 6 87,km 7 88,kk 8 (.mv ct)] .ret)))))))))
theorem fits188:fits Tryz.prog false Tryz.f188 3 89 [(6,some (1,true)),(7,none),(8,none)]=some c188.er:=by kernel_rfl
theorem call188 (τ:Nat) (r:Rch) (w:List Int) (q:Int) (h:RcOK r) (hw:WvOK r w) (hq:0≤q∧q≤1073741824):
  PureCall Tryz.prog 188 [.agg (eRch τ r), .agg (eWv 2 w), .int .i64 q] [] ⟨.tup [.agg (eWv 0 (pasW r w q)), .int .i64 (pasO r w q), .bool true], [], []⟩:=by
 have hn:=h.n
 have hd:=h.den
 have hwl:=hw.le
 have h0l:=wv0_len hwl
 have hll:=pasL_len (q:=q) hw
 have hlg:=pasL_get h hw hq
 have hml:r.ws.length+1≤maxLen:=maxLen_ge (by omega)
 refine pure_call mix Tryz.func188 fits188 rfl ?_
 conv=>whnf
 refine ⟨by exact g0, ?_⟩
 refine LSem.untagN 272 (wv0 r.ws.length w) rfl (by rw [h0l];omega) (fun k hk=> ?_) ?_
 ·rw [h0l] at hk
  show (if k<min w.length ((r.ws.length:Int)+1).toNat then fl eInt w k else [PV.int .i64 0])= [PV.int .i64 ((wv0 r.ws.length w).getD k default)]
  rw [wv0_get]
  split
  ·rfl
  ·rw [List.getD_eq_getElem?_getD,List.getElem?_eq_none (by omega)];rfl
 refine LSem.loop (n:=89) mix (α:=Nat) (fun i=>i≤r.ws.length)
  (fun i=> [(2, .int .i64 q),(3, .pt 48 0 0),(6, .pt 96 0 0),(9, .os 272),(23, .sl τ 1 r.ws.length (fl eInt r.ws)),(24, .int .i64 r.ws.length),(25, .int .i64 i)])
  (fun i=> [(48, .box (eRch τ r)),(96, .box [.nil 1]),(272, .row 0 3 1 (pasN r.ws q (wv0 r.ws.length w) i).length (fl eInt (pasN r.ws q (wv0 r.ws.length w) i)))]) (fun i=>r.ws.length - i) 0 (Nat.zero_le _) ?_ ?_
 ·refine ⟨rfl,rfl, ?_, ?_⟩<;>exact ent
 intro i hi
 have hj:((i:Int)).toNat=i:=by omega
 have hli:=pasN_len r.ws q (wv0 r.ws.length w) i
 conv=>whnf
 refine ⟨trivial,fun hc=> ?_,fun hc=> ?_⟩
 ·replace hc:=of_decide_eq_true hc
  have hlt:i<r.ws.length:=by
   have h:(i:Int)<r.ws.length:=hc
   omega
  have hgi:=pasN_get r.ws q (wv0 r.ws.length w) i i (by omega)
  rw [if_neg (by omega),wv0_get] at hgi
  have hst:pasN r.ws q (wv0 r.ws.length w) (i+1)=(pasN r.ws q (wv0 r.ws.length w) i).set i ((pasN r.ws q (wv0 r.ws.length w) i).getD i default+q*r.ws.getD i default):=rfl
  have hwi:=h.w i hlt
  have hm:=prod_le (a:=q) (b:=r.ws.getD i default) (A:=1073741824) (B:=10000) hq.1 hq.2 hwi.1 hwi.2 (by decide)
  have hm2:q*r.ws.getD i default≤10737418240000:=by
   refine Int.le_trans (Int.mul_le_mul_of_nonneg_right hq.2 hwi.1) ?_
   omega
  have hwb:0≤w.getD i default∧w.getD i default≤100000000000000:=by
   by_cases hk:i<w.length
   ·exact hw.rng i hk
   ·rw [List.getD_eq_getElem?_getD,List.getElem?_eq_none (by omega)];exact ⟨by decide,by decide⟩
  generalize pasN r.ws q (wv0 r.ws.length w) i=L at hli hgi hst⊢
  have hrow:=set_eqI (X:=L) (i:=i) (y:=L.getD i default+q*r.ws.getD i default)
  have hsl:(L.set i (L.getD i default+q*r.ws.getD i default)).length=L.length:=List.length_set
  have hsg:=set_get L i (L.getD i default+q*r.ws.getD i default) i (by omega)
  rw [if_pos rfl] at hsg
  conv=>whnf
  rw [hj]
  refine ⟨by exact g0, ?_⟩
  refine LSem.cut (n:=89) mix (fl:= [(2, .int .i64 q),(3, .pt 48 0 0),(6, .pt 96 0 0),(9, .os 272),(10, .int .i64 i),(23, .sl τ 1 r.ws.length (fl eInt r.ws)),(24, .int .i64 r.ws.length),(25, .int .i64 i)])
   (sl:= [(48, .box (eRch τ r)),(96, .box [.nil 1]),(272, .row 0 3 1 L.length (fl eInt (L.set i (L.getD i default+q*r.ws.getD i default))))]) ?_ ?_
  ·refine ⟨rfl,rfl, ?_, ?_⟩<;>exact ent
  conv=>whnf
  rw [hj]
  rw [hsg]
  refine ⟨by exact g0,fun hm=>absurd (of_decide_eq_true hm) (by omega),fun _=> ?_⟩
  conv=>whnf
  refine ⟨by exact g0,i+1,hlt,by omega,rfl,rfl, ?_, ?_⟩
  ·exact ent
  ·rw [hst];exact ent
 ·have hk:i=r.ws.length:=by
    have h:¬(i:Int)<r.ws.length:=of_decide_eq_false hc
    omega
  subst hk
  rw [show pasN r.ws q (wv0 r.ws.length w) r.ws.length=pasL r w q from rfl] at hli⊢
  have g1:=hlg 0
  have g2:=hlg 1
  have ep:pasO r w q=(pasL r w q).getD 0 default / r.den:=rfl
  have ew:pasW r w q=((pas2 r w q).drop 1).take (trL ((pas2 r w q).drop 1) r.ws.length):=rfl
  have e2:pas2 r w q=(pasL r w q).set 1 ((pasL r w q).getD 1 default+(pasL r w q).getD 0 default % r.den):=rfl
  rw [ep,ew]
  generalize pas2 r w q=M at e2⊢
  generalize pasL r w q=L at hll hli g1 g2 e2⊢
  have td:Int.tdiv (L.getD 0 default) r.den=L.getD 0 default / r.den:=Int.tdiv_eq_ediv_of_nonneg g1.1
  have tm:Int.tmod (L.getD 0 default) r.den=L.getD 0 default % r.den:=Int.tmod_eq_emod_of_nonneg g1.1
  have m3:=Int.emod_nonneg (L.getD 0 default) (show r.den≠0 by omega)
  have m4:=Int.emod_lt_of_pos (L.getD 0 default) (show 0<r.den by omega)
  have d1:=Int.ediv_nonneg (b:=r.den) g1.1 (by omega)
  have d2:L.getD 0 default / r.den≤L.getD 0 default:=Int.ediv_le_self _ g1.1
  have hwb:∀i,0≤w.getD i default∧w.getD i default≤100000000000000:=fun i=>by
   by_cases hk:i<w.length
   ·exact hw.rng i hk
   ·rw [List.getD_eq_getElem?_getD,List.getElem?_eq_none (by omega)];exact ⟨by decide,by decide⟩
  have b0:=hwb 0
  have b1:=hwb 1
  have hrow:=set_eqI (X:=L) (i:=1) (y:=L.getD 1 default+L.getD 0 default % r.den)
  conv=>whnf
  refine ⟨rfl, ?_⟩
  conv=>whnf
  refine ⟨rfl, ?_⟩
  have hdl:(M.drop 1).length=r.ws.length:=by rw [List.length_drop,e2,List.length_set];omega
  conv=>whnf
  rw [cpT_same]
  conv=>whnf
  rw [show Int.toNat 0=0 from rfl,show Int.toNat 1=1 from rfl,td,tm]
  refine ⟨by exact g0, ?_⟩
  refine LSem.untagN 272 (M.drop 1) rfl (by rw [hdl];omega) (fun k hk=> ?_) ?_
  ·rw [hdl] at hk
   show (if k<min (L.length - 1) L.length then (if 1+k=1 then _ else fl eInt L (1+k)) else _)= [PV.int .i64 ((M.drop 1).getD k default)]
   rw [if_pos (by omega),List.getD_eq_getElem?_getD (l:=M.drop 1),List.getElem?_drop,←List.getD_eq_getElem?_getD,e2,set_get _ _ _ _ (by omega)]
   by_cases h1:1+k=1
   ·rw [if_pos h1,if_pos h1];rfl
   ·rw [if_neg h1,if_neg h1];rfl
  rw [hdl]
  generalize hD:M.drop 1=D at hdl⊢
  refine LSem.loop (n:=89) mix (α:=Nat) (fun j=>j≤r.ws.length∧trL D j=trL D r.ws.length)
   (fun j=> [(6, .pt 96 0 0),(9, .os 272),(12, .int .i64 (L.getD 0 default / r.den))])
   (fun j=> [(96, .box [.nil 1]),(272, .row 0 3 1 j (fl eInt D))]) (fun j=>j) r.ws.length ⟨Nat.le_refl _,rfl⟩ ?_ ?_
  ·refine ⟨rfl,rfl, ?_, ?_⟩<;>exact ent
  rintro j ⟨hj1,hj2⟩
  have ejj:((j:Int) - 1).toNat=j - 1:=by omega
  conv=>whnf
  rw [ejj]
  refine ⟨by exact g0,fun hc=> ?_,fun hc=> ?_⟩
  ·have hc:(bif decide (0<(j:Int)) then D.getD (j - 1) default==0 else false)=true:=hc
   simp only [bp] at hc
   obtain ⟨c1,c2⟩:=hc
   ·obtain ⟨j,rfl⟩:∃i,j=i+1:=⟨j - 1,by omega⟩
    have e0:trL D (j+1)=trL D j:=by
     have c2:D.getD j default=0:=c2
     rw [trL,if_pos c2]
    rw [e0] at hj2
    conv=>whnf
    rw [show (((j+1:Nat):Int) - 1).toNat=j by omega]
    refine ⟨by exact g0,j,⟨by omega,hj2⟩,by omega,rfl,rfl, ?_, ?_⟩<;>exact ent
  ·have hc:(bif decide (0<(j:Int)) then D.getD (j - 1) default==0 else false)=false:=hc
   simp only [bp] at hc
   have e0:trL D j=j:=by
    cases j with
    | zero=>rfl
    | succ i=>
      rcases hc with ⟨c1,c2⟩ | c1
      ·have c2:¬D.getD i default=0:=c2
       rw [trL,if_neg c2]
      ·exact absurd (show (0:Int)<((i+1:Nat):Int) by omega) c1
   rw [←hj2,e0]
   have qt:RowEq j (fl eInt D) (fl eInt (D.take j)):=fun i hi=>by
    show [PV.int .i64 (D.getD i default)]= [PV.int .i64 ((D.take j).getD i default)]
    rw [take_get _ _ _ hi]
   have ql:(D.take j).length=j:=by rw [List.length_take];omega
   generalize D.take j=Z at qt ql⊢
   conv=>whnf
   exact ret
def c129L1:C:=(sr [kb 41 .lss 40 39] (.seq (.cond 41 .skip (.exit 1)) (.seq (.block 2 (sr [ki 42 1 38 40,kl 43 42,km 13 43] (.seq (sr [km 44 13,kc 45 56 [44,(cn 1073741824)],kk 46 (.un false .not 45)] (.cond 46 (sr [kk 47 (.bd [(.nil 1)] []),kx 1 6 47,kk 7 (.mv (.c (.nil 1))),kk 8 (.mv (cn 1))] .ret) .skip)) (sr [kt 49 2 3,kt 50 1 10,km 51 13,kc 52 188 [49,50,51],km 48 52,ke 53 48 0,ke 54 48 1,ke 55 48 2,kk 14 (.al [(.nil 1)]),kx 1 14 53,km 15 54,km 16 55] (.seq (sr [km 56 16,kk 57 (.un false .not 56)] (.cond 57 (sr [kk 58 (.bd [(.nil 1)] []),kx 1 6 58,kk 7 (.mv (.c (.nil 1))),kk 8 (.mv (cn 1))] .ret) .skip)) (.drw [kt 59 1 14,km 60 11,km 61 15,kk 62 (.bs 3 1 [61]),kk 63 (.app 3 1 8 60 62),kx 1 10 59,km 11 63] (pl [(0,[1,2,3,4],59),(1,[2,3],60)]))))))) (.reg [kb 64 .add 40 (cn 1),km 40 64]))))
def c129:C:=(sr [kk 3 (.bx 2 0),kk 4 (.bx 1 1),kk 6 (.al [(.nil 1)]),kk 7 (.mv (.c (.nil 1))),kk 8 (.mv (cn 0))] (.seq (sr [kt 17 2 3,kc 18 119 [17],km 9 18] (sr [km 19 9,kb 20 .neq 19 (cn 0)] (.cond 20 (sr [kk 21 (.bd [(.nil 1)] []),km 22 9,kx 1 6 21,kk 7 (.mv (.c (.nil 1))),km 8 22] .ret) .skip))) (.seq (.block 0 (sr [kt 24 2 3,kt 25 1 4,kc 26 187 [24,25],kk 27 (.un false .not 26),km 23 27] (.cond 23 (sr [kk 28 (.bd [(.nil 1)] []),kx 1 6 28,kk 7 (.mv (.c (.nil 1))),kk 8 (.mv (cn 3))] .ret) (sr [km 30 2,kk 31 (.len 30),kb 32 .gtr 31 (cn 4096),km 29 32] (.cond 29 (sr [kk 33 (.bd [(.nil 1)] []),kx 1 6 33,kk 7 (.mv (.c (.nil 1))),kk 8 (.mv (cn 10))] .ret) .skip))))) (sr [kf 34 0 4,kl 35 34,kk 36 (.app 3 1 8 (.c (.nil 1)) 35),kk 37 (.bd [(.nil 1)] [(0,1,36)]),kk 10 (.al [(.nil 1)]),kx 1 10 37] (sr [kk 11 (.mv (.c (.nil 1)))] (.seq (sr [km 38 2,kk 39 (.len 38),kk 40 (.mv (cn 0))] (.block 1 (.loop c129L1))) (sr [kt 65 1 10,km 66 11,kx 1 6 65,km 7 66,kk 8 (.mv (cn 0))] .ret)))))))
theorem fits129:fits Tryz.prog false Tryz.f129 3 67 [(6,some (1,true)),(7,none),(8,none)]=some c129.er:=by kernel_rfl
def c60:C:=(sr [kk 3 (.bx 2 0),kk 4 (.bx 1 1),kk 6 (.al [(.nil 1)]),kk 7 (.mv (cn 0)),kk 8 (.mv (cn 0))] (sr [kt 13 2 3,kt 14 1 4,km 15 2,kk 16 (.bs 3 1 [15]),kc 17 129 [13,14,16],km 12 17,ke 18 12 0,ke 19 12 1,ke 20 12 2,kk 9 (.al [(.nil 1)]),kx 1 9 18,km 10 19,km 11 20] (.seq (sr [km 21 11,kb 22 .neq 21 (cn 0)] (.cond 22 (sr [kk 23 (.bd [(.nil 1)] []),km 24 11,kx 1 6 23,kk 7 (.mv (cn 0)),km 8 24] .ret) .skip)) (.seq (.drw [kt 25 1 9,km 26 10,ki 27 1 26 (cn 0),kl 28 27,kx 1 6 25,km 7 28,kk 8 (.mv (cn 0))] (pl [(0,[1,2,3],25),(1,[4],26),(2,[4],27),(3,[4],28)])) .ret))))
theorem fits60:fits Tryz.prog false Tryz.f60 3 29 [(6,some (1,true)),(7,none),(8,none)]=some c60.er:=by kernel_rfl
theorem call129a (τ:Nat) (r:Rch) (w:List Int) (q:Int) (h:RcOK r) (hw:WvOK r w) (hq:0≤q∧q≤1073741824) (hs:w.sum+q*r.den≤100000000000000):
  PureCall Tryz.prog 129 [.agg (eRch τ r), .agg (eWv 2 w), .sl 2 1 1 (fl eInt [q])] [] ⟨.tup [.agg (eWv 0 (pasW r w q)), .sl 0 1 1 (fl eInt [pasO r w q]), .int .i64 0], [], []⟩:=by
 have hn:=h.n
 have hwl:=hw.le
 refine pure_call mix Tryz.func129 fits129 rfl ?_
 conv=>whnf
 refine ⟨_,fun _=>call119 _ r h, ?_⟩
 conv=>whnf
 refine ⟨by exact g0,fun h=>(by cases h),fun _=> ?_⟩
 conv=>whnf
 refine ⟨_,fun _=>call187 _ _ r w h hw, ?_⟩
 conv=>whnf
 refine ⟨by exact g0,fun h=>(by cases h),fun _=> ?_⟩
 conv=>whnf
 refine ⟨by exact g0,fun h=>(by cases h),fun _=> ?_⟩
 conv=>whnf
 have hml:w.length≤maxLen:=maxLen_ge (by omega)
 refine ⟨by exact g0, ?_⟩
 refine LSem.untagN 576 w rfl rfl (fun k hk=>rfl) ?_
 refine LSem.adopt 11 1000000 3 1 1 rfl rfl ?_
 refine LSem.loop (n:=67) mix (α:=Nat) (fun i=>i≤1)
  (fun i=> [(3, .pt 48 0 0),(6, .pt 96 0 0),(10, .pt 160 0 0),(11, .os 1000000),(38, .sl 2 1 1 (fl eInt [q])),(39, .int .i64 1),(40, .int .i64 i)])
  (fun i=> [(48, .box (eRch τ r)),(96, .box [.nil 1]),(160, .box (eWv 0 (if i=0 then w else pasW r w q))),(1000000, .row 0 3 1 i (fl eInt (if i=0 then [] else [pasO r w q])))]) (fun i=>1 - i) 0 (Nat.zero_le _) ?_ ?_
 ·refine ⟨rfl,rfl, ?_, ?_⟩<;>exact ent
 intro i hi
 conv=>whnf
 refine ⟨trivial,fun hc=> ?_,fun hc=> ?_⟩
 ·replace hc:=of_decide_eq_true hc
  obtain rfl:i=0:=by
   have h:(i:Int)<1:=hc
   omega
  rw [if_pos rfl,if_pos rfl]
  conv=>whnf
  refine ⟨_,fun _=>G02.call56 q 1073741824, ?_⟩
  rw [decide_eq_true hq]
  conv=>whnf
  refine ⟨by exact g0,fun h=>(by cases h),fun _=> ?_⟩
  conv=>whnf
  refine ⟨_,fun _=>PureCall.arg_le (call188 (lendT τ) r w q h hw hq) rfl (by unfold lendT;exact ent), ?_⟩
  generalize pasW r w q=W
  generalize pasO r w q=o
  conv=>whnf
  refine ⟨by exact g0,fun h=>(by cases h),fun _=> ?_⟩
  conv=>whnf
  refine ⟨rfl, ?_⟩
  conv=>whnf
  have qq:=fl_push eInt [] o
  refine ⟨by exact g0,1,Nat.le_refl _,by omega,rfl,rfl, ?_, ?_⟩<;>exact ent
 ·obtain rfl:i=1:=by
    have h:¬(i:Int)<1:=of_decide_eq_false hc
    omega
  rw [if_neg (by decide),if_neg (by decide)]
  generalize pasW r w q=W
  generalize pasO r w q=o
  conv=>whnf
  exact ret
theorem call129 (τ:Nat) (r:Rch) (w:List Int) (q:Int) (g:Nat→List PV) (h:RcOK r) (hw:WvOK r w) (hq:0≤q∧q≤1073741824) (hs:w.sum+q*r.den≤100000000000000) (hg:RowEq 1 g (fl eInt [q])):
  PureCall Tryz.prog 129 [.agg (eRch τ r), .agg (eWv 2 w), .sl 2 1 1 g] [] ⟨.tup [.agg (eWv 0 (pasW r w q)), .sl 0 1 1 (fl eInt [pasO r w q]), .int .i64 0], [], []⟩:=
 PureCall.arg_le (call129a τ r w q h hw hq hs) rfl (by exact ent)
theorem call60 (τ:Nat) (r:Rch) (w:List Int) (q:Int) (h:RcOK r) (hw:WvOK r w) (hq:0≤q∧q≤1073741824) (hs:w.sum+q*r.den≤100000000000000):
  PureCall Tryz.prog 60 [.agg (eRch τ r), .agg (eWv 2 w), .int .i64 q] [] ⟨.tup [.agg (eWv 0 (pasW r w q)), .int .i64 (pasO r w q), .int .i64 0], [], []⟩:=by
 refine pure_call mix Tryz.func60 fits60 rfl ?_
 conv=>whnf
 refine ⟨_,fun _=>call129 _ r w q _ h hw hq hs (fun k hk=>by obtain rfl:k=0:=by omega
                                                             rfl), ?_⟩
 generalize pasW r w q=W
 generalize pasO r w q=o
 conv=>whnf
 refine ⟨by exact g0,fun h=>(by cases h),fun _=> ?_⟩
 conv=>whnf
 refine ⟨rfl, ?_⟩
 conv=>whnf
 exact ret
def c118:C:=(sr [kk 2 (.bx 2 0),kk 4 (.mv cf)] (sr [km 5 1,kf 6 0 2,kl 7 6,kb 8 .sub 7 (cn 1),kc 9 56 [5,8],km 4 9] .ret))
theorem fits118:fits Tryz.prog false Tryz.f118 2 10 [(4,none)]=some c118.er:=by kernel_rfl
def c52L1:C:=(sr [kb 18 .lss 17 16] (.seq (.cond 18 .skip (.exit 0)) (.seq (.block 1 (sr [km 19 17,ki 20 4 15 17,kt 21 4 20,kk 4 (.al [z0,z0,(.nil 1),z0]),km 3 19,kx 4 4 21] (.seq (.block 2 (sr [kt 23 2 1,kf 24 0 4,kl 25 24,kc 26 118 [23,25],kk 27 (.un false .not 26),km 28 27,kg 29 28 false (.ld 2 true 1),kg 30 28 false (.fa 1 4),kg 31 28 false (.ld 1 false 30),kg 32 28 false (cl 118 [29,31]),kg 33 28 false (.un false .not 32),kk 34 (.pick 28 ct 33),km 22 34] (.cond 22 (sr [kk 2 (.mv (cn 11))] .ret) (sr [kf 36 1 4,kl 37 36,kf 38 0 4,kl 39 38,kb 40 .leq 37 39,km 35 40] (.cond 35 (sr [kk 2 (.mv (cn 12))] .ret) (.seq (.drw [km 42 3,kb 43 .gtr 42 (cn 0),km 44 43,kg 45 44 true (.fa 0 4),kg 46 44 true (.ld 1 false 45),kg 47 44 true (.fa 1 1),kg 48 44 true (.ld 1 false 47),kg 49 44 true (.mv 3),kg 50 44 true (.bi false .sub 49 (cn 1)),kg 51 44 true (.ia 4 48 50),kg 52 44 true (.fa 0 51),kg 53 44 true (.ld 1 false 52),kg 54 44 true (.bi false .leq 46 53),kk 55 (.pick 44 54 cf),km 41 55] (pl [(3,[5,6,7,8,9,10,11],45),(4,[5,6,7,8,9,10,11],46),(5,[7,8],47),(6,[7,8],48)])) (.cond 41 (sr [kk 2 (.mv (cn 4))] .ret) .skip))))))) (sr [kf 56 2 4,kt 57 2 56,kc 58 119 [57],km 5 58] (sr [km 59 5,kb 60 .neq 59 (cn 0)] (.cond 60 (sr [km 61 5,km 2 61] .ret) .skip)))))) (.reg [kb 62 .add 17 (cn 1),km 17 62]))))
def c52:C:=(sr [kk 1 (.bx 2 0),kk 2 (.mv (cn 0))] (.seq (sr [kf 6 0 1,kl 7 6,kb 8 .lss 7 (cn 1),km 9 8,kg 10 9 false (.fa 0 1),kg 11 9 false (.ld 1 false 10),kg 12 9 false (.bi false .gtr 11 (cn 40)),kk 13 (.pick 9 ct 12)] (.cond 13 (sr [kk 2 (.mv (cn 3))] .ret) .skip)) (.seq (sr [kf 14 1 1,kl 15 14,kk 16 (.len 15),kk 17 (.mv (cn 0))] (.block 0 (.loop c52L1))) (sr [kk 2 (.mv (cn 0))] .ret))))
theorem fits52:fits Tryz.prog false Tryz.f52 1 63 [(2,none)]=some c52.er:=by kernel_rfl
def c10:C:=(sr [kk 1 (.bx 2 0),kk 2 (.mv (.c (.nil 1))),kk 3 (.mv (cn 0))] (.seq (sr [kt 5 2 1,kc 6 52 [5],km 4 6] (sr [km 7 4,kb 8 .neq 7 (cn 0)] (.cond 8 (sr [km 9 4,kk 2 (.mv (.c (.nil 1))),km 3 9] .ret) .skip))) (sr [kf 10 1 1,kl 11 10,kk 12 (.len 11),kk 13 (.mks 60 1 24 [(.sl 0 1 0 (fun _=> []))] 12 12),km 2 13,kk 3 (.mv (cn 0))] .ret)))
theorem fits10:fits Tryz.prog false Tryz.f10 1 14 [(2,none),(3,none)]=some c10.er:=by kernel_rfl
def c126L1:C:=(sr [kb 23 .lss 22 21] (.seq (.cond 23 .skip (.exit 0)) (.seq (.block 1 (sr [km 24 22,ki 25 4 20 22,kt 26 4 25,kk 7 (.al [z0,z0,(.nil 1),z0]),km 6 24,kx 4 7 26] (.seq (.drw [kf 27 2 7,kt 28 2 27,km 29 1,km 30 6,ki 31 1 29 30,kt 32 1 31,kc 33 184 [28,32],kk 34 (.un false .not 33)] (pl [(0,[2,3,4,5],27),(1,[2,3,4,5],28),(2,[3],29)])) (.cond 34 (sr [kk 4 (.mv (cn 3))] .ret) .skip)))) (.reg [kb 35 .add 22 (cn 1),km 22 35]))))
def c126:C:=(sr [kk 2 (.bx 2 0),kk 4 (.mv (cn 0))] (.seq (sr [kt 8 2 2,kc 9 52 [8],km 5 9] (sr [km 10 5,kb 11 .neq 10 (cn 0)] (.cond 11 (sr [km 12 5,km 4 12] .ret) .skip))) (.seq (sr [km 13 1,kk 14 (.len 13),kf 15 1 2,kl 16 15,kk 17 (.len 16),kb 18 .neq 14 17] (.cond 18 (sr [kk 4 (.mv (cn 3))] .ret) .skip)) (.seq (sr [kf 19 1 2,kl 20 19,kk 21 (.len 20),kk 22 (.mv (cn 0))] (.block 0 (.loop c126L1))) (sr [kk 4 (.mv (cn 0))] .ret)))))
theorem fits126:fits Tryz.prog false Tryz.f126 2 36 [(4,none)]=some c126.er:=by kernel_rfl
def c234:C:=(sr [kk 2 (.bx 4 0),kk 3 (.mv cf)] (sr [kf 4 0 2,kl 5 4,kl 6 1,kb 7 .eql 5 6,km 3 7] .ret))
theorem fits234:fits Tryz.prog false Tryz.f234 2 8 [(3,none)]=some c234.er:=by kernel_rfl
def c233L1:C:=(sr [kb 9 .lss 8 7] (.seq (.cond 9 .skip (.exit 0)) (.seq (.block 1 (sr [km 10 8,km 5 10] (sr [km 11 1,km 12 0,km 13 5,ki 14 4 12 13,kt 15 4 14,kk 16 (.call 11 [15])] (.cond 16 (sr [km 17 5,km 4 17] .ret) .skip)))) (.reg [kb 18 .add 8 (cn 1),km 8 18]))))
def c233:C:=(sr [kk 4 (.mv (cn 0))] (.seq (sr [km 6 0,kk 7 (.len 6),kk 8 (.mv (cn 0))] (.block 0 (.loop c233L1))) (sr [kk 4 (.mv (cn (-1)))] .ret)))
theorem fits233:fits Tryz.prog false Tryz.f233 2 19 [(4,none)]=some c233.er:=by kernel_rfl
def c186:C:=(sr [kk 2 (.bx 2 0),kk 3 (.bx 1 1),kk 4 (.mv (cn 0))] (sr [kf 5 1 2,kl 6 5,kk 7 (.mf (.func 234) [] [3]),kc 8 233 [6,7],km 4 8] .ret))
theorem fits186:fits Tryz.prog false Tryz.f186 2 9 [(4,none)]=some c186.er:=by kernel_rfl
def eLr (σ:Nat) (r:Rch):List PV:= [.int .i64 0, .int .i64 1, .sl σ 1 r.ws.length (fl eInt r.ws), .int .i64 r.den]
def eRi (τ:Nat) (r:Rch):List PV:= [.int .i64 2, .sl τ 4 1 (fl (eLr 0) [r])]
theorem call118 (τ:Nat) (r:Rch) (n:Int):PureCall Tryz.prog 118 [.agg (eRi τ r), .int .i64 n] [] ⟨.bool (decide (0≤n∧n≤1)), [], []⟩:=by
 refine pure_call mix Tryz.func118 fits118 rfl ?_
 conv=>whnf
 refine ⟨_,fun _=>G02.call56 n 1, ?_⟩
 conv=>whnf
 exact ret
theorem call52 (τ:Nat) (r:Rch) (h:RcOK r):PureCall Tryz.prog 52 [.agg (eRi τ r)] [] ⟨.int .i64 0, [], []⟩:=by
 refine pure_call mix Tryz.func52 fits52 rfl ?_
 conv=>whnf
 refine ⟨by exact g0,fun h=>(by cases h),fun _=> ?_⟩
 conv=>whnf
 refine ⟨by exact g0, ?_⟩
 refine LSem.loop (n:=63) mix (α:=Nat) (fun i=>i≤1)
  (fun i=> [(1, .pt 16 0 0),(15, .sl τ 4 1 (fl (eLr 0) [r])),(16, .int .i64 1),(17, .int .i64 i)])
  (fun i=> [(16, .box (eRi τ r))]) (fun i=>1 - i) 0 (Nat.zero_le _) ?_ ?_
 ·refine ⟨rfl,rfl, ?_, ?_⟩<;>exact ent
 intro i hi
 conv=>whnf
 refine ⟨trivial,fun hc=> ?_,fun hc=> ?_⟩
 ·replace hc:=of_decide_eq_true hc
  obtain rfl:i=0:=by
   have h:(i:Int)<1:=hc
   omega
  conv=>whnf
  refine ⟨_,fun _=>call118 _ r 0, ?_⟩
  conv=>whnf
  refine ⟨_,fun _=>call118 _ r 1, ?_⟩
  conv=>whnf
  refine ⟨by exact g0,fun h=>(by cases h),fun _=> ?_⟩
  conv=>whnf
  refine ⟨by exact g0,fun h=>(by cases h),fun _=> ?_⟩
  conv=>whnf
  refine ⟨rfl, ?_⟩
  conv=>whnf
  refine ⟨by exact g0,fun h=>(by cases h),fun _=> ?_⟩
  conv=>whnf
  refine ⟨_,fun _=>call119 _ r h, ?_⟩
  conv=>whnf
  refine ⟨by exact g0,fun h=>(by cases h),fun _=> ?_⟩
  conv=>whnf
  refine ⟨by exact g0,1,Nat.le_refl _,by omega,rfl,rfl, ?_, ?_⟩<;>exact ent
 ·conv=>whnf
  exact ret
theorem call10 (τ:Nat) (r:Rch) (h:RcOK r):PureCall Tryz.prog 10 [.agg (eRi τ r)] [] ⟨.tup [.sl 0 1 1 (fun _=> [.sl 0 1 0 (fun _=> [])]), .int .i64 0], [], []⟩:=by
 have hml:1≤maxLen:=maxLen_ge (by omega)
 refine pure_call mix Tryz.func10 fits10 rfl ?_
 conv=>whnf
 refine ⟨_,fun _=>call52 _ r h, ?_⟩
 conv=>whnf
 refine ⟨by exact g0,fun h=>(by cases h),fun _=> ?_⟩
 conv=>whnf
 exact ret
theorem call126 (τ τ':Nat) (r:Rch) (w:List Int) (h:RcOK r) (hw:WvOK r w):PureCall Tryz.prog 126 [.agg (eRi τ r), .sl τ' 1 1 (fl (eWv 0) [w])] [] ⟨.int .i64 0, [], []⟩:=by
 refine pure_call mix Tryz.func126 fits126 rfl ?_
 conv=>whnf
 refine ⟨_,fun _=>call52 _ r h, ?_⟩
 conv=>whnf
 refine ⟨by exact g0,fun h=>(by cases h),fun _=> ?_⟩
 conv=>whnf
 refine ⟨by exact g0,fun h=>(by cases h),fun _=> ?_⟩
 conv=>whnf
 refine ⟨by exact g0, ?_⟩
 refine LSem.loop (n:=36) mix (α:=Nat) (fun i=>i≤1)
  (fun i=> [(1, .sl τ' 1 1 (fl (eWv 0) [w])),(2, .pt 32 0 0),(20, .sl τ 4 1 (fl (eLr 0) [r])),(21, .int .i64 1),(22, .int .i64 i)])
  (fun i=> [(32, .box (eRi τ r))]) (fun i=>1 - i) 0 (Nat.zero_le _) ?_ ?_
 ·refine ⟨rfl,rfl, ?_, ?_⟩<;>exact ent
 intro i hi
 conv=>whnf
 refine ⟨trivial,fun hc=> ?_,fun hc=> ?_⟩
 ·replace hc:=of_decide_eq_true hc
  obtain rfl:i=0:=by
   have h:(i:Int)<1:=hc
   omega
  conv=>whnf
  refine ⟨_,fun _=>call184 _ _ r w h hw, ?_⟩
  conv=>whnf
  refine ⟨rfl, ?_⟩
  conv=>whnf
  refine ⟨by exact g0,fun h=>(by cases h),fun _=> ?_⟩
  conv=>whnf
  refine ⟨by exact g0,1,Nat.le_refl _,by omega,rfl,rfl, ?_, ?_⟩<;>exact ent
 ·conv=>whnf
  exact ret
theorem call234 (σ:Nat) (r:Rch) (n:Int):PureCall Tryz.prog 234 [.agg (eLr σ r), .pt 0 0 0] [.box [.int .i64 n]] ⟨.bool (0==n), [.box [.int .i64 n]], []⟩:=by
 refine pure_call mix Tryz.func234 fits234 rfl ?_
 conv=>whnf
 exact retB
def lnkF (n:Int):Int:=if n=0 then 0 else -1
theorem call233 (τ:Nat) (r:Rch) (n:Int):PureCall Tryz.prog 233 [.sl τ 4 1 (fl (eLr 0) [r]), .fn (.func 234) [] [.pt 0 0 0]] [.box [.int .i64 n]] ⟨.int .i64 (lnkF n), [.box [.int .i64 n]], []⟩:=by
 refine pure_call mix Tryz.func233 fits233 rfl ?_
 conv=>whnf
 refine ⟨trivial, ?_⟩
 refine LSem.loop (n:=19) mix (α:=Nat) (fun i=>i≤1∧(0<i→n≠0))
  (fun i=> [(0, .sl τ 4 1 (fl (eLr 0) [r])),(1, .fn (.func 234) [] [.pt 0 0 0]),(7, .int .i64 1),(8, .int .i64 i)])
  (fun i=> [(0, .box [.int .i64 n])]) (fun i=>1 - i) 0 ⟨Nat.zero_le _,fun h=>absurd h (Nat.lt_irrefl _)⟩ ?_ ?_
 ·refine ⟨rfl,rfl, ?_, ?_⟩<;>exact ent
 rintro i ⟨hi,hn⟩
 conv=>whnf
 refine ⟨trivial,fun hc=> ?_,fun hc=> ?_⟩
 ·replace hc:=of_decide_eq_true hc
  obtain rfl:i=0:=by
   have h:(i:Int)<1:=hc
   omega
  conv=>whnf
  refine ⟨_,fun _=>call234 _ r n, ?_⟩
  conv=>whnf
  refine ⟨by exact g0,fun he=> ?_,fun he=> ?_⟩
  ·have he:((0:Int)==n)=true:=he
   have he:n=0:=(by simpa using he:(0:Int)=n).symm
   unfold lnkF
   rw [if_pos he]
   conv=>whnf
   exact retB
  ·have he:((0:Int)==n)=false:=he
   have he:n≠0:=fun e=>by rw [e] at he;cases he
   conv=>whnf
   refine ⟨by exact g0,1,⟨Nat.le_refl _,fun _=>he⟩,by omega,rfl,rfl, ?_, ?_⟩<;>exact ent
 ·have h:¬(i:Int)<1:=of_decide_eq_false hc
  unfold lnkF
  rw [if_neg (hn (by omega))]
  conv=>whnf
  exact retB
theorem call186 (τ:Nat) (r:Rch) (n:Int):PureCall Tryz.prog 186 [.agg (eRi τ r), .int .i64 n] [] ⟨.int .i64 (lnkF n), [], []⟩:=by
 refine pure_call mix Tryz.func186 fits186 rfl ?_
 conv=>whnf
 refine ⟨_,fun _=>call233 _ r n, ?_⟩
 conv=>whnf
 exact ret
end TE
def idxN:List Nat→Nat→Nat→Option Nat
 | [],_,_=>none
 | x::l,i,r=>match Nat.beq x r with
   | true=>some i
   | false=>idxN l (i+1) r
theorem idxN_get:∀{l:List Nat} {i r k:Nat},idxN l i r=some k→i≤k∧l[k - i]? =some r
 | [],i,r,k,h=>by simp [idxN] at h
 | x::l,i,r,k,h=>by
   simp only [idxN] at h
   split at h
   ·rename_i hb
    injection h with h;subst h
    exact ⟨Nat.le_refl _,by rw [Nat.sub_self,Nat.eq_of_beq_eq_true hb];rfl⟩
   ·obtain ⟨h1,h2⟩:=idxN_get h
    refine ⟨by omega, ?_⟩
    rw [show k - i=(k - (i+1))+1 by omega]
    exact h2
mutual
def mxP (ρ:Nat→Option Nat):PV→Option PV
 | .os r=>match ρ r with
   | some k=>some (.os k)
   | none=>none
 | .pt r i j=>match ρ r with
   | some k=>some (.pt k i j)
   | none=>none
 | .agg cs=>match mxL ρ cs with
   | some ds=>some (.agg ds)
   | none=>none
 | .fn f [] caps=>match mxL ρ caps with
   | some ds=>some (.fn f [] ds)
   | none=>none
 | p=>lendCell p
def mxL (ρ:Nat→Option Nat):List PV→Option (List PV)
 | []=>some []
 | p::ps=>match mxP ρ p,mxL ρ ps with
   | some q,some qs=>some (q::qs)
   | _,_=>none
end
def mxS (ρ:Nat→Option Nat):SE→Option SE
 | .box l=>match mxL ρ l with
   | some l'=>some (.box l')
   | none=>none
 | .row τ e z n f=>some (.row (lendT τ) e z n f)
 | .bld .. =>none
def mxEs (ρ:Nat→Option Nat) (st:Nat→Option SE):List Nat→Option (List SE)
 | []=>some []
 | r::rs=>match st r with
   | some e=>match mxS ρ e,mxEs ρ st rs with
     | some e',some es=>some (e'::es)
     | _,_=>none
   | none=>none
theorem mxEs_get {ρ:Nat→Option Nat} {st:Nat→Option SE}:∀{rs:List Nat} {es:List SE},mxEs ρ st rs=some es→es.length=rs.length∧∀(k r:Nat),rs[k]? =some r→∃e e',st r=some e∧es[k]? =some e'∧mxS ρ e=some e'
 | [],es,h=>by simp only [mxEs,Option.some.injEq] at h;subst h;exact ⟨rfl,fun k r hk=>by simp at hk⟩
 | r0::rs,es,h=>by
   simp only [mxEs] at h
   split at h
   ·rename_i e he
    split at h
    ·rename_i e' es' h1 h2
     injection h with h;subst h
     obtain ⟨g1,g2⟩:=mxEs_get h2
     refine ⟨by simp [g1],fun k r hk=> ?_⟩
     cases k with
     | zero=>simp only [List.getElem?_cons_zero,Option.some.injEq] at hk;subst hk;exact ⟨e,e',he,rfl,h1⟩
     | succ k=>exact g2 k r (by simpa using hk)
    ·cases h
   ·cases h
section
variable {P:Program} {X X':Cx} {γ γc:Gh} {w:World} {ρ:Nat→Option Nat}
mutual
theorem mxP_sound (hL:Lent X X' γ γc w) (hρ:∀r k ge,ρ r=some k→γ r=some ge→γc k=some ge):∀(p q:PV) (v:Value),mxP ρ p=some q→Rep X γ w p v→Rep X' γc w q v
 | .os r,q,v,h,hr=>by
   simp only [mxP] at h
   split at h
   ·rename_i k hk
    injection h with h;subst h
    cases hr with
    | os _ ge hg h1 h2=>exact .os k ge (hρ r k ge hk hg) h1 h2
   ·cases h
 | .pt r i j,q,v,h,hr=>by
   simp only [mxP] at h
   split at h
   ·rename_i k hk
    injection h with h;subst h
    cases hr with
    | pt _ _ _ ge b hg hb=>exact .pt k i j ge b (hρ r k ge hk hg) hb
   ·cases h
 | .agg cs,q,v,h,hr=>by
   simp only [mxP] at h
   split at h
   ·rename_i ds hd
    injection h with h;subst h
    obtain ⟨vs,rfl,h1,h2⟩:=hr.agg_inv
    have h3:=mxL_sound hL hρ cs ds vs hd h1
    exact .agg ds vs h3.1 h2 h3.2
   ·cases h
 | .fn f [] caps,q,v,h,hr=>by
   simp only [mxP] at h
   split at h
   ·rename_i ds hd
    injection h with h;subst h
    cases hr with
    | fn _ _ _ vs us hl hl' h1 h2=>
      have h3:=mxL_sound hL hρ caps ds us hd ⟨hl',h2⟩
      exact .fn f [] ds vs us hl h3.1 (fun k c u hk=>by cases hk) h3.2
   ·cases h
 | .fn f (x::xs) caps,q,v,h,hr=>(lendCell_sound hr hL (by simpa only [mxP] using h)).1
 | .vw a b c d,q,v,h,hr=>(lendCell_sound hr hL (by simpa only [mxP] using h)).1
 | .rf a b,q,v,h,hr=>(lendCell_sound hr hL (by simpa only [mxP] using h)).1
 | .mpv a b c d e f,q,v,h,hr=>(lendCell_sound hr hL (by simpa only [mxP] using h)).1
 | .tup a,q,v,h,hr=>(lendCell_sound hr hL (by simpa only [mxP] using h)).1
 | .cnd a b,q,v,h,hr=>(lendCell_sound hr hL (by simpa only [mxP] using h)).1
 | .int a b,q,v,h,hr=>(lendCell_sound hr hL (by simpa only [mxP] using h)).1
 | .bool a,q,v,h,hr=>(lendCell_sound hr hL (by simpa only [mxP] using h)).1
 | .str a,q,v,h,hr=>(lendCell_sound hr hL (by simpa only [mxP] using h)).1
 | .sl a b c d,q,v,h,hr=>(lendCell_sound hr hL (by simpa only [mxP] using h)).1
 | .nil a,q,v,h,hr=>(lendCell_sound hr hL (by simpa only [mxP] using h)).1
 | .rp a b,q,v,h,hr=>(lendCell_sound hr hL (by simpa only [mxP] using h)).1
 | .raw a,q,v,h,hr=>(lendCell_sound hr hL (by simpa only [mxP] using h)).1
 | .junk,q,v,h,hr=>(lendCell_sound hr hL (by simpa only [mxP] using h)).1
theorem mxL_sound (hL:Lent X X' γ γc w) (hρ:∀r k ge,ρ r=some k→γ r=some ge→γc k=some ge):∀(ps qs:List PV) (vs:List Value),mxL ρ ps=some qs→RepL X γ w ps vs→RepL X' γc w qs vs
 | [],qs,vs,h,hr=>by
   simp only [mxL,Option.some.injEq] at h;subst h
   rw [hr.nil_inv];exact RepL.nil_
 | p::ps,qs,vs,h,hr=>by
   simp only [mxL] at h
   split at h
   ·rename_i q qs' h1 h2
    injection h with h;subst h
    obtain ⟨u,us,rfl,hu,hus⟩:=hr.cons_inv
    exact RepL.cons_ (mxP_sound hL hρ p q u h1 hu) (mxL_sound hL hρ ps qs' us h2 hus)
   ·cases h
end
theorem mxS_sound (hL:Lent X X' γ γc w) (hρ:∀r k ge,ρ r=some k→γ r=some ge→γc k=some ge) {ge:GE} {e e':SE} (h:mxS ρ e=some e') (hr:RepS X γ w ge e):RepS X' γc w ge e':=by
 cases e with
 | box l=>
   simp only [mxS] at h
   split at h
   ·rename_i l' hl
    injection h with h;subst h
    obtain ⟨b,m1,m2⟩:=hr
    refine ⟨b,m1,m2.map_ rfl (fun us hu=>mxL_sound hL hρ l l' us hl hu) (fun ks vks ka va hh f e=> ?_)⟩
    subst e
    simp only [mxL,mxP,lendCell,Option.some.injEq] at hl
    exact hl.symm
   ·cases h
 | row τ e z n f=>
   simp only [mxS,Option.some.injEq] at h;subst h
   obtain ⟨vs,h1,h2,h2',h3,h4,h5,h6,h7⟩:=hr
   refine ⟨vs,h1,h2,h2',h3,h4,h5,h6,fun i j c u hi hc hu=> ?_⟩
   have hfl:=h6 i hi c (List.mem_of_getElem? hc)
   have:=(h7 i j c u hi hc hu).lend hL (flat_mark hfl τ) (lendT τ) (lendT_mono (tau_mark c τ))
   rwa [mark_mark] at this
 | bld _ _ _=>cases h
end
def mxOut:List SE→List SE→Bool
 | [], []=>true
 | .box _::a, .box _::b=>mxOut a b
 | .row _ _ z _ _::a, .row τ _ z' _ _::b=>match Nat.beq z z',Nat.ble τ 2 with
   | true,true=>mxOut a b
   | _,_=>false
 | _,_=>false
def mxNew:List SE→Bool
 | []=>true
 | .box _::l=>mxNew l
 | .row τ _ _ _ _::l=>match Nat.ble τ 2 with
   | true=>mxNew l
   | false=>false
 | .bld .. ::_=>false
theorem mxOut_get:∀{a b:List SE},mxOut a b=true→b.length=a.length∧∀(k:Nat) (e e':SE),a[k]? =some e→b[k]? =some e'→((∃l l',e= .box l∧e'= .box l')∨∃τ t z n f τ' t' n' f',e= .row τ t z n f∧e'= .row τ' t' z n' f'∧τ'≤2)
 | [], [],_=>⟨rfl,fun k e e' h=>by simp at h⟩
 | .box l::a, .box l'::b,h=>by
   obtain ⟨h1,h2⟩:=mxOut_get (a:=a) (b:=b) h
   refine ⟨by simp [h1],fun k e e' ha hb=> ?_⟩
   cases k with
   | zero=>simp only [List.getElem?_cons_zero,Option.some.injEq] at ha hb;subst ha;subst hb;exact .inl ⟨l,l',rfl,rfl⟩
   | succ k=>exact h2 k e e' (by simpa using ha) (by simpa using hb)
 | .row τ t z n f::a, .row τ' t' z' n' f'::b,h=>by
   simp only [mxOut] at h
   split at h
   ·rename_i hz ht
    obtain ⟨h1,h2⟩:=mxOut_get (a:=a) (b:=b) h
    refine ⟨by simp [h1],fun k e e' ha hb=> ?_⟩
    cases k with
    | zero=>
      simp only [List.getElem?_cons_zero,Option.some.injEq] at ha hb;subst ha;subst hb
      exact .inr ⟨τ,t,z,n,f,τ',t',n',f',rfl,by rw [Nat.eq_of_beq_eq_true hz],Nat.le_of_ble_eq_true ht⟩
    | succ k=>exact h2 k e e' (by simpa using ha) (by simpa using hb)
   ·cases h
 | [],_::_,h=>by simp [mxOut] at h
 | .box _::_, [],h=>by simp [mxOut] at h
 | .row .. ::_, [],h=>by simp [mxOut] at h
 | .bld .. ::_, [],h=>by simp [mxOut] at h
 | .box _::_, .row .. ::_,h=>by simp [mxOut] at h
 | .box _::_, .bld .. ::_,h=>by simp [mxOut] at h
 | .row .. ::_, .box _::_,h=>by simp [mxOut] at h
 | .row .. ::_, .bld .. ::_,h=>by simp [mxOut] at h
 | .bld .. ::_,_::_,h=>by simp [mxOut] at h
theorem mxNew_get:∀{a:List SE},mxNew a=true→∀(k:Nat) (e:SE),a[k]? =some e→fixR e=false
 | [],_,k,e,h=>by simp at h
 | .box l::a,h,0,e,he=>by simp only [List.getElem?_cons_zero,Option.some.injEq] at he;subst he;rfl
 | .box l::a,h,k+1,e,he=>mxNew_get (a:=a) h k e (by simpa using he)
 | .row τ t z n f::a,h,k,e,he=>by
   simp only [mxNew] at h
   split at h
   ·rename_i ht
    cases k with
    | zero=>simp only [List.getElem?_cons_zero,Option.some.injEq] at he;subst he;exact fix_low (Nat.le_of_ble_eq_true ht)
    | succ k=>exact mxNew_get (a:=a) h k e (by simpa using he)
   ·cases h
 | .bld .. ::_,h,_,_,_=>by simp [mxNew] at h
def updL:List Nat→List SE→(Nat→Option SE)→Nat→Option SE
 | r::rs,e::es,st=>updL rs es (upd st r e)
 | _,_,st=>st
theorem updL_other:∀{rs:List Nat} {es:List SE} {st:Nat→Option SE} {r:Nat},r∉rs→updL rs es st r=st r
 | [],_,st,r,_=>by unfold updL;rfl
 | _::_, [],st,r,_=>by unfold updL;rfl
 | r0::rs,e::es,st,r,h=>by
   rw [List.mem_cons,not_or] at h
   rw [updL,updL_other h.2,upd_ne _ _ h.1]
theorem updL_at:∀{rs:List Nat} {es:List SE} {st:Nat→Option SE} {k r:Nat} {e:SE},rs.Nodup→rs[k]? =some r→es[k]? =some e→updL rs es st r=some e
 | [],_,st,k,r,e,_,h,_=>by simp at h
 | _::_, [],st,k,r,e,_,_,h=>by simp at h
 | r0::rs,e0::es,st,k,r,e,hn,h1,h2=>by
   obtain ⟨g1,g2⟩:=List.nodup_cons.1 hn
   cases k with
   | zero=>
     simp only [List.getElem?_cons_zero,Option.some.injEq] at h1 h2;subst h1;subst h2
     rw [updL,updL_other g1,upd_same]
   | succ k=>rw [updL];exact updL_at g2 (by simpa using h1) (by simpa using h2)
theorem idxN_at:∀{l:List Nat} {i k r:Nat},l.Nodup→l[k]? =some r→idxN l i r=some (i+k)
 | [],i,k,r,_,h=>by simp at h
 | x::l,i,k,r,hn,h=>by
   obtain ⟨g1,g2⟩:=List.nodup_cons.1 hn
   simp only [idxN]
   cases k with
   | zero=>
     simp only [List.getElem?_cons_zero,Option.some.injEq] at h;subst h
     simp
   | succ k=>
     have h:l[k]? =some r:=by simpa using h
     have hne:x≠r:=fun e=>g1 (by rw [e];exact List.mem_of_getElem? h)
     have hb:Nat.beq x r=false:=by
      cases hb:Nat.beq x r with
      | false=>rfl
      | true=>exact absurd (Nat.eq_of_beq_eq_true hb) hne
     rw [hb]
     simp only
     rw [idxN_at g2 h]
     congr 1;omega
theorem idxN_none:∀{l:List Nat} {i r:Nat},r∉l→idxN l i r=none
 | [],_,_,_=>rfl
 | x::l,i,r,h=>by
   rw [List.mem_cons,not_or] at h
   simp only [idxN]
   have hb:Nat.beq x r=false:=by
    cases hb:Nat.beq x r with
    | false=>rfl
    | true=>exact absurd (Nat.eq_of_beq_eq_true hb).symm h.1
   rw [hb]
   exact idxN_none h.2
def mxB (rs nm:List Nat) (k:Nat):Nat:=if newBase≤k then nm.getD (k - newBase) 0 else rs.getD k 0
section
variable {P:Program} {X:Cx} {γ:Gh} {w w0:World} {st:Nat→Option SE}
theorem mix_calls {F:FuncId} {ps caps args:List PV} {ein eout news:List SE} {val:PV} {rs nm:List Nat} (hst:RepSt X γ w st) (hX:∀b,X.as b∨X.ls b→b<w.heap.size) (hlo:X.lo≤w.heap.size)
  (hnd:(rs++nm).Nodup) (h16:rs.length≤16) (hmx:mxEs (idxN rs 0) st rs=some ein) (hma:mxL (idxN rs 0) (ps++caps)=some args) (hnb:nbx ein=ein.length) (hC:PureCall P F args ein ⟨val,eout,news⟩)
  (hout:mxOut ein eout=true) (hnw:mxNew news=true) (hnl:news.length=nm.length) (hfree:∀r∈nm,st r=none)
  {vs us:List Value} (hvs:RepL X γ w ps vs) (hus:RepL X γ w caps us):
  Calls P F (vs++us).toArray w fun e w'=>∃v γ2,e= .returned v∧EffOK X γ w st ⟨val.ren (mxB rs nm), [], [], [], [], []⟩ v w' γ2 (updL nm (news.map (SE.ren (mxB rs nm))) (updL rs (eout.map (SE.ren (mxB rs nm))) st)):=by
 have hnb0:newBase=1000000000:=rfl
 obtain ⟨hel,heg⟩:=mxEs_get hmx
 obtain ⟨hol,hog⟩:=mxOut_get hout
 have hndr:rs.Nodup:=(List.nodup_append.1 hnd).1
 have hndm:nm.Nodup:=(List.nodup_append.1 hnd).2.1
 have hdis:∀r,r∈rs→r∉nm:=fun r h1 h2=>(List.nodup_append.1 hnd).2.2 r h1 r h2 rfl
 let γc:Gh:=fun k=>(rs[k]?).bind γ
 let aas':Nat→Prop:=fun b=>b<w.heap.size∧mayLie X γ 1 b
 let ls':Nat→Prop:=fun b=>b<w.heap.size∧∃τ,mayLie X γ τ b
 let X':Cx:=⟨w.heap.size,aas',ls',nbx ein,γc, []⟩
 have hγc:∀k r,rs[k]? =some r→γc k=γ r:=fun k r hk=>by
  show (rs[k]?).bind γ=_
  rw [hk];rfl
 have hγc':∀k ge,γc k=some ge→∃r,rs[k]? =some r∧γ r=some ge:=fun k ge hk=>by
  have hk:(rs[k]?).bind γ=some ge:=hk
  cases hr:rs[k]? with
  | none=>rw [hr] at hk;cases hk
  | some r=>rw [hr] at hk;exact ⟨r,rfl,hk⟩
 have hcown:∀b,γc.own b→γ.own b:=fun b ⟨k,ge,hk,hb⟩=>by
  obtain ⟨r,_,hr⟩:=hγc' k ge hk
  exact ⟨r,ge,hr,hb⟩
 have hL:Lent X X' γ γc w:=⟨fun b hb hm=>⟨fun ho=>hm.1 (hcown b ho), .inr (.inl ⟨Nat.le_refl _,hb,hm⟩)⟩,
  fun τ b hb hm=>⟨fun ho=>hm.1 (hcown b ho), .inr (.inr ⟨Nat.le_refl _,hb,τ,hm⟩)⟩⟩
 have hρ:∀r k ge,idxN rs 0 r=some k→γ r=some ge→γc k=some ge:=fun r k ge hk hg=>by
  have h1:=(idxN_get hk).2
  rw [Nat.sub_zero] at h1
  exact (hγc k r h1).trans hg
 have hget:∀k r,rs[k]? =some r→∃ge,γ r=some ge:=fun k r hk=>by
  obtain ⟨e,_,h1,_⟩:=heg k r hk
  exact hst.get h1
 have hstc:RepSt X' γc w (fun k=>ein[k]?):=by
  refine ⟨fun r=> ?_,fun r ge e hgr her=> ?_,fun r r' ge ge' b hgr hgr' hb hb'=> ?_,fun b hb=>⟨fun ha=>ha.2.1 (hcown b hb),fun ha=> ?_⟩,fun b hb=>hst.lt b (hcown b hb),fun b p hb=>⟨(hst.glob b p hb).1,fun ho=>(hst.glob b p hb).2.1 (hcown b ho), ?_⟩⟩
  ·by_cases hlt:r<rs.length
   ·have hr:rs[r]? =some rs[r]:=List.getElem?_eq_getElem hlt
    obtain ⟨ge,hge⟩:=hget r _ hr
    rw [hγc r _ hr,hge]
    simp [hel,hlt]
   ·show ((rs[r]?).bind γ).isSome=_
    rw [List.getElem?_eq_none (by omega)]
    simp [hel,hlt]
  ·obtain ⟨r0,hr0,hge⟩:=hγc' r ge hgr
   obtain ⟨e0,e1,k1,k2,k3⟩:=heg r r0 hr0
   have her:ein[r]? =some e:=her
   rw [k2] at her;injection her with her;subst her
   exact mxS_sound hL hρ k3 (hst.at_ r0 ge e0 hge k1)
  ·obtain ⟨r0,hr0,hge⟩:=hγc' r ge hgr
   obtain ⟨r1,hr1,hge1⟩:=hγc' r' ge' hgr'
   have:=hst.inj r0 r1 ge ge' b hge hge1 hb hb'
   subst this
   exact (List.getElem?_inj (List.getElem?_eq_some_iff.1 hr0).1 hndr).1 (hr0.trans hr1.symm)
  ·obtain ⟨τ,hm⟩:=ha.2
   exact hm.1 (hcown b hb)
  ·obtain ⟨⟨o,h1,_⟩,h3,h4⟩:=hst.glob b p hb
   exact ⟨(Array.getElem?_eq_some_iff.1 h1).1,h3, .inr (.inl ⟨Nat.le_refl _,h4⟩)⟩
 have hcall:=hC.2 w γc aas' ls' (vs++us) hstc (fun b hb=>hb.elim (fun h=>h.1) (fun h=>h.1)) (mxL_sound hL hρ _ _ _ hma (hvs.append hus))
 refine hcall.mono ?_
 rintro e w' ⟨v,γ',he,hval,hst',hk,hpar,hownE0⟩
 have hparN:parN ein ⟨val,eout,news⟩=ein.length:=by
  cases ein with
  | nil=>rfl
  | cons e0 es=>cases e0 with
    | row _ _ _ _ _=>simp [nbx] at hnb
    | _=>rfl
 have hres1:∀k,k<rs.length→resSt ⟨val,eout,news⟩ k=eout[k]? :=fun k hk=>by unfold resSt;rw [if_neg (by omega)]
 have hres2:∀j,resSt ⟨val,eout,news⟩ (newBase+j)=news[j]? :=fun j=>by unfold resSt;rw [if_pos (by omega),Nat.add_sub_cancel_left]
 have hsame:∀k,k<rs.length→γ' k=γc k:=fun k hk=>by
  have hp:=hpar k (by rw [hparN];omega)
  rw [hres1 k hk] at hp
  have e1:ein[k]? =some ein[k]:=List.getElem?_eq_getElem (by omega)
  have e2:eout[k]? =some eout[k]:=List.getElem?_eq_getElem (by omega)
  rw [e2] at hp
  rcases hog k _ _ e1 e2 with ⟨l,l',k1,k2⟩ | ⟨τ,t,z,n,f,τ',t',n',f',k1,k2,_⟩
  ·rw [k2] at hp;exact hp
  ·rw [k2] at hp
   obtain ⟨_,ge,ge0,q1,q2,q3,q4⟩:=hp
   obtain ⟨_,z1,_⟩:=hst'.at_ k ge _ q1 (by rw [hres1 k hk,e2,k2])
   obtain ⟨_,z2,_⟩:=hstc.at_ k ge0 _ q2 (by show ein[k]? =_;rw [e1,k1])
   rw [q1]
   have q2:γc k=some ge0:=q2
   rw [q2]
   cases ge;cases ge0
   simp only at q3 q4 z1 z2
   subst q3 q4 z1 z2;rfl
 have hrsk:∀r,r∈rs→∃k,k<rs.length∧rs[k]? =some r:=fun r hr=>by
  obtain ⟨k,hk⟩:=List.getElem?_of_mem hr
  exact ⟨k,(List.getElem?_eq_some_iff.1 hk).1,hk⟩
 have hnmk:∀r,r∈nm→∃j,j<nm.length∧nm[j]? =some r:=fun r hr=>by
  obtain ⟨k,hk⟩:=List.getElem?_of_mem hr
  exact ⟨k,(List.getElem?_eq_some_iff.1 hk).1,hk⟩
 have hnone:∀r,r∈nm→γ r=none:=fun r hr=>by
  have:=hst.dom r
  rw [hfree r hr] at this
  cases hg:γ r with
  | none=>rfl
  | some _=>rw [hg] at this;cases this
 let γ2:Gh:=fun r=>match idxN nm 0 r with
  | some j=>γ' (newBase+j)
  | none=>γ r
 have hg2n:∀j r,nm[j]? =some r→γ2 r=γ' (newBase+j):=fun j r hj=>by
  simp only [γ2];rw [idxN_at hndm hj,Nat.zero_add]
 have hg2o:∀r,r∉nm→γ2 r=γ r:=fun r hr=>by
  simp only [γ2];rw [idxN_none hr]
 have hg2:∀r ge,γ r=some ge→γ2 r=some ge:=fun r ge hr=>by
  rw [hg2o r (fun hm=>by rw [hnone r hm] at hr;cases hr)];exact hr
 have hdomc:∀k ge,γ' k=some ge→(k<rs.length∧∃r,rs[k]? =some r∧mxB rs nm k=r)∨∃j r,k=newBase+j∧nm[j]? =some r∧mxB rs nm k=r:=fun k ge hk=>by
  have hd:=hst'.dom k
  rw [hk] at hd
  unfold resSt at hd
  split at hd
  ·rename_i hb
   refine .inr ⟨k - newBase, ?_⟩
   have hlt:k - newBase<news.length:=by
    rcases Nat.lt_or_ge (k - newBase) news.length with h | h
    ·exact h
    ·simp only at hd;rw [List.getElem?_eq_none h] at hd;cases hd
   have h1:nm[k - newBase]? =some (nm[k - newBase]'(by omega)):=List.getElem?_eq_getElem (by omega)
   exact ⟨_,by omega,h1,by unfold mxB;rw [if_pos hb,List.getD_eq_getElem?_getD,h1];rfl⟩
  ·rename_i hb
   have hlt:k<eout.length:=by
    rcases Nat.lt_or_ge k eout.length with h | h
    ·exact h
    ·simp only at hd;rw [List.getElem?_eq_none h] at hd;cases hd
   have h1:rs[k]? =some (rs[k]'(by omega)):=List.getElem?_eq_getElem (by omega)
   exact .inl ⟨by omega,_,h1,by unfold mxB;rw [if_neg hb,List.getD_eq_getElem?_getD,h1];rfl⟩
 have hback:∀k ge,γ' k=some ge→γ2 (mxB rs nm k)=some ge:=fun k ge hk=>by
  rcases hdomc k ge hk with ⟨h1,r,h2,h3⟩ | ⟨j,r,rfl,h2,h3⟩
  ·rw [h3,hg2o r (hdis r (List.mem_of_getElem? h2)),←hγc k r h2,←hsame k h1];exact hk
  ·rw [h3,hg2n j r h2];exact hk
 have hnewown:∀j ge b,γ' (newBase+j)=some ge→ge.has b→w.heap.size≤b:=fun j ge b hj hb=>by
  rcases hownE0 _ ge b hj hb with h | ⟨h,k,g,h1,_⟩ | ⟨g,h,_⟩
  ·exact h
  ·obtain ⟨r,hr,_⟩:=hγc' k g h1
   have:=(List.getElem?_eq_some_iff.1 hr).1
   omega
  ·obtain ⟨r,hr,_⟩:=hγc' _ g h
   have:=(List.getElem?_eq_some_iff.1 hr).1
   omega
 have hsplit:∀r ge,γ2 r=some ge→(∃j,nm[j]? =some r∧γ' (newBase+j)=some ge)∨(r∉nm∧γ r=some ge):=fun r ge hr=>by
  by_cases hm:r∈nm
  ·obtain ⟨j,_,hj⟩:=hnmk r hm
   rw [hg2n j r hj] at hr
   exact .inl ⟨j,hj,hr⟩
  ·rw [hg2o r hm] at hr;exact .inr ⟨hm,hr⟩
 have hown2:∀b,γ2.own b→γ.own b∨w.heap.size≤b:=fun b ⟨r,ge,hr,hb⟩=>by
  rcases hsplit r ge hr with ⟨j,hj,h1⟩ | ⟨_,h1⟩
  ·exact .inr (hnewown j ge b h1 hb)
  ·exact .inl ⟨r,ge,h1,hb⟩
 have hlie:∀τ b,(true=true∨τ≤1)→b<w'.heap.size→mayLie X' γ' τ b→mayLie X γ2 τ b:=fun τ b _ hbl hm=>by
  obtain ⟨hm1,hm2⟩:=hm
  have hgiven:∀k ge0,γc k=some ge0→ge0.has b→False:=fun k ge0 hk hb=>by
   obtain ⟨r,hr,_⟩:=hγc' k ge0 hk
   have hlt:=(List.getElem?_eq_some_iff.1 hr).1
   exact hm1 ⟨k,ge0,by rw [hsame k hlt];exact hk,hb⟩
  have hno:(γ.own b→False)→w.heap.size≤b∨b<w.heap.size→¬γ2.own b:=fun h1 _ ⟨r,ge,hr,hb⟩=>by
   rcases hsplit r ge hr with ⟨j,hj,h2⟩ | ⟨_,h2⟩
   ·exact hm1 ⟨_,ge,h2,hb⟩
   ·exact h1 ⟨r,ge,h2,hb⟩
  rcases hm2 with (hm2 | ⟨r0,ge0,h1,h2,_⟩) | ⟨ht,hb1,hm2⟩ | ⟨ht,hb1,τ',hm2⟩
  ·have hm2:w.heap.size≤b:=hm2
   exact ⟨hno (fun ho=>absurd (hst.lt b ho) (by omega)) (.inl hm2), .inl (.inl (Nat.le_trans hlo hm2))⟩
  ·exact (hgiven r0 ge0 h1 (.inl h2)).elim
  ·exact ⟨hno hm2.1 (.inr hb1),(hm2.mono ht).2⟩
  ·refine ⟨hno hm2.1 (.inr hb1), ?_⟩
   rcases hm2.2 with h | ⟨h1,h2⟩ | ⟨h1,h2⟩
   ·exact .inl h
   ·exact .inr (.inl ⟨by omega,h2⟩)
   ·exact .inr (.inr ⟨ht,h2⟩)
 have hmono:∀p u,Rep X γ w p u→Rep X γ2 w' p u:=fun p u h=>h.monoG (fun r ge hr=>⟨ge,hg2 r ge hr,rfl,rfl,fun _=>rfl⟩) hown2 hk.size (fun b hb hlt=>hk.block b hlt (fun ho=>hb (hcown b ho)))
 have hs1:∀j r,nm[j]? =some r→updL nm (news.map (SE.ren (mxB rs nm))) (updL rs (eout.map (SE.ren (mxB rs nm))) st) r=(news[j]?).map (SE.ren (mxB rs nm)):=fun j r hj=>by
  have hlt:j<news.length:=by
   have:=(List.getElem?_eq_some_iff.1 hj).1
   omega
  have h1:news[j]? =some news[j]:=List.getElem?_eq_getElem hlt
  rw [updL_at (e:=(news[j]).ren (mxB rs nm)) hndm hj (by rw [List.getElem?_map,h1];rfl),h1];rfl
 have hs2:∀k r,rs[k]? =some r→updL nm (news.map (SE.ren (mxB rs nm))) (updL rs (eout.map (SE.ren (mxB rs nm))) st) r=(eout[k]?).map (SE.ren (mxB rs nm)):=fun k r hk=>by
  have hlt:k<eout.length:=by
   have:=(List.getElem?_eq_some_iff.1 hk).1
   omega
  have h1:eout[k]? =some eout[k]:=List.getElem?_eq_getElem hlt
  rw [updL_other (hdis r (List.mem_of_getElem? hk)),updL_at (e:=(eout[k]).ren (mxB rs nm)) hndr hk (by rw [List.getElem?_map,h1];rfl),h1];rfl
 have hs3:∀r,r∉nm→r∉rs→updL nm (news.map (SE.ren (mxB rs nm))) (updL rs (eout.map (SE.ren (mxB rs nm))) st) r=st r:=fun r h1 h2=>by rw [updL_other h1,updL_other h2]
 generalize hS:updL nm (news.map (SE.ren (mxB rs nm))) (updL rs (eout.map (SE.ren (mxB rs nm))) st)=st' at hs1 hs2 hs3
 refine ⟨v,γ2,he,⟨hval.back (nr:=true) hback hlie (.inl rfl),fun p u h=>by rw [void_nil];exact hmono p u h,⟨fun r=> ?_,fun r ge e hgr her=> ?_,fun r r' ge ge' b hgr hgr' hb hb'=> ?_,fun b hb=>⟨fun ha=> ?_,fun ha=> ?_⟩,fun b hb=> ?_, ?_⟩,hk.mono fun i _ h=>hcown i h,fun r ge b hr hb=> ?_,fun r l hr=> ?_,fun r T t x hr=> ?_,fun r e' hr hf=> ?_⟩⟩
 ·by_cases hm:r∈nm
  ·obtain ⟨j,hjl,hj⟩:=hnmk r hm
   rw [hg2n j r hj,hs1 j r hj,hst'.dom,hres2 j];simp
  ·rw [hg2o r hm]
   by_cases hm2:r∈rs
   ·obtain ⟨k,hkl,hk⟩:=hrsk r hm2
    rw [hs2 k r hk,←hγc k r hk,←hsame k hkl,hst'.dom,hres1 k hkl];simp
   ·rw [hs3 r hm hm2];exact hst.dom r
 ·rcases hsplit r ge hgr with ⟨j,hj,h1⟩ | ⟨hm,h1⟩
  ·rw [hs1 j r hj] at her
   obtain ⟨e0,h2,rfl⟩:=Option.map_eq_some_iff.1 her
   exact (hst'.at_ _ ge e0 h1 (by rw [hres2 j];exact h2)).back (nr:=true) hback hlie (.inl rfl)
  ·by_cases hm2:r∈rs
   ·obtain ⟨k,hkl,hk⟩:=hrsk r hm2
    rw [hs2 k r hk] at her
    obtain ⟨e0,h2,rfl⟩:=Option.map_eq_some_iff.1 her
    exact (hst'.at_ k ge e0 (by rw [hsame k hkl,hγc k r hk];exact h1) (by rw [hres1 k hkl];exact h2)).back (nr:=true) hback hlie (.inl rfl)
   ·rw [hs3 r hm hm2] at her
    refine (hst.at_ r ge e h1 her).mono hmono fun b hb=>hk.block b (hst.lt b ⟨r,ge,h1,hb⟩) (fun ho=> ?_)
    obtain ⟨k,ge1,hk1,hb1⟩:=ho
    obtain ⟨r1,hr1,hge1⟩:=hγc' k ge1 hk1
    have:=hst.inj r r1 ge ge1 b h1 hge1 hb hb1
    subst this
    exact hm2 (List.mem_of_getElem? hr1)
 ·have hmix:∀j r ge r' ge',nm[j]? =some r→γ' (newBase+j)=some ge→ge.has b→γ r'=some ge'→ge'.has b→False:=fun j r ge r' ge' hj h1 h2 h3 h4=>by
    have:=hst.lt b ⟨r',ge',h3,h4⟩
    have:=hnewown j ge b h1 h2
    omega
  rcases hsplit r ge hgr with ⟨j,hj,h1⟩ | ⟨_,h1⟩<;>rcases hsplit r' ge' hgr' with ⟨j',hj',h1'⟩ | ⟨_,h1'⟩
  ·have:=hst'.inj _ _ ge ge' b h1 h1' hb hb'
   have hjj:j=j':=by omega
   subst hjj
   rw [hj] at hj';injection hj'
  ·exact (hmix j r ge r' ge' hj h1 hb h1' hb').elim
  ·exact (hmix j' r' ge' r ge hj' h1' hb' h1 hb).elim
  ·exact hst.inj r r' ge ge' b h1 h1' hb hb'
 ·rcases hown2 b hb with h | h
  ·exact (hst.asOff b h).1 ha
  ·have:=hX b (.inl ha);omega
 ·rcases hown2 b hb with h | h
  ·exact (hst.asOff b h).2 ha
  ·have:=hX b (.inr ha);omega
 ·obtain ⟨r,ge,hr,hb⟩:=hb
  rcases hsplit r ge hr with ⟨j,hj,h1⟩ | ⟨_,h1⟩
  ·exact hst'.lt b ⟨_,ge,h1,hb⟩
  ·exact Nat.lt_of_lt_of_le (hst.lt b ⟨r,ge,h1,hb⟩) hk.size
 ·exact glob_keep hst.glob (fun b hlt hn=>hk.block b hlt (fun ho=>hn (hcown b ho))) hown2
 ·rcases hsplit r ge hr with ⟨j,hj,h1⟩ | ⟨_,h1⟩
  ·exact .inl (hnewown j ge b h1 hb)
  ·exact .inr ⟨ge,h1,hb⟩
 ·have hm:r∉nm:=fun hm=>by rw [hfree r hm] at hr;cases hr
  refine ⟨hg2o r hm, ?_⟩
  by_cases hm2:r∈rs
  ·obtain ⟨k,hkl,hk⟩:=hrsk r hm2
   obtain ⟨e0,e1,k1,k2,k3⟩:=heg k r hk
   rw [hr] at k1;injection k1 with k1;subst k1
   have e2:eout[k]? =some eout[k]:=List.getElem?_eq_getElem (by omega)
   rcases hog k _ _ k2 e2 with ⟨l1,l',q1,q2⟩ | ⟨τ,t,z,n,f,τ',t',n',f',q1,q2,_⟩
   ·rw [hs2 k r hk,e2,q2];exact ⟨_,rfl⟩
   ·subst q1
    simp only [mxS] at k3
    split at k3<;>cases k3
  ·exact ⟨l,by rw [hs3 r hm hm2];exact hr⟩
 ·have hm:r∉nm:=fun hm=>by rw [hfree r hm] at hr;cases hr
  have hm2:r∉rs:=fun hm2=>by
   obtain ⟨k,hkl,hk⟩:=hrsk r hm2
   obtain ⟨e0,e1,k1,k2,k3⟩:=heg k r hk
   rw [hr] at k1;injection k1 with k1;subst k1
   cases k3
  obtain ⟨ge,hge⟩:=hst.get hr
  exact ⟨ge,ge,hge,hg2 r ge hge,rfl,rfl,T,t,x,by rw [hs3 r hm hm2];exact hr⟩
 ·by_cases hm:r∈nm
  ·obtain ⟨j,hjl,hj⟩:=hnmk r hm
   rw [hs1 j r hj] at hr
   obtain ⟨e0,h2,rfl⟩:=Option.map_eq_some_iff.1 hr
   have:=mxNew_get hnw j e0 h2
   cases e0<;>first | (cases hf;done) | (rw [SE.ren] at hf;rw [this] at hf;cases hf)
  ·by_cases hm2:r∈rs
   ·obtain ⟨k,hkl,hk⟩:=hrsk r hm2
    rw [hs2 k r hk] at hr
    obtain ⟨e0,h2,rfl⟩:=Option.map_eq_some_iff.1 hr
    have e1:ein[k]? =some (ein[k]'(by omega)):=List.getElem?_eq_getElem (by omega)
    rcases hog k _ _ e1 h2 with ⟨l1,l',q1,q2⟩ | ⟨τ,t,z,n,f,τ',t',n',f',q1,q2,q3⟩
    ·rw [q2] at hf;cases hf
    ·rw [q2,SE.ren,fix_low q3] at hf;cases hf
   ·rw [hs3 r hm hm2] at hr
    exact ⟨⟨e',hr,hf⟩,by simp⟩
end
section
variable {P:Program} {wr:Bool} {np:Nat} {Q:Lv→PS→Prop}
def MixAt (P:Program) (k d:Nat) (y:A) (ys:List A) (rest:List Ins) (K:PS→Prop) (s1:PS):Prop:=
 s1.ok∧∃(F:FuncId) (caps ps args:List PV) (ein eout news:List SE) (val:PV) (rs nm:List Nat),
  A.val s1.fr y=some (.fn (.func F) [] caps)∧valL s1.fr ys=some ps∧(rs++nm).Nodup∧rs.length≤16∧mxEs (idxN rs 0) s1.st rs=some ein∧mxL (idxN rs 0) (ps++caps)=some args∧nbx ein=ein.length∧
  PureCall P F args ein ⟨val,eout,news⟩∧mxOut ein eout=true∧mxNew news=true∧news.length=nm.length∧(∀r∈nm,s1.st r=none)∧Nat.blt d s1.n=true∧
  evK (PureCall P) false (k+1) rest ⟨s1.n,upd s1.fr d (val.ren (mxB rs nm)),updL nm (news.map (SE.ren (mxB rs nm))) (updL rs (eout.map (SE.ren (mxB rs nm))) s1.st),True,s1.log⟩ K
theorem LSem.mix {l:List Ins} {s:PS} (k d id:Nat) (y:A) (ys:List A) (hk:l[k]? =some ⟨some d,id,none, .call y ys⟩)
  (hpre:evK (PureCall P) false 0 (l.take k) s (MixAt P k d y ys (l.drop (k+1)) (fun s'=>Q .nrm s'))):LSem P wr np (.reg l) Q s:=by
 intro hQ code hc X w0 may a w γ hX hR
 have hcode:∃id ops,code= .region id ops false∧mapO (compO P wr ops) ops.toList=some l:=by
  cases code with
  | region id ops dr=>
    cases dr with
    | false=>
      simp only [comp,C.er] at hc
      split at hc
      ·rename_i hm
       simp only [Option.some.injEq,C.reg.injEq] at hc
       subst hc
       exact ⟨id,ops,rfl,hm⟩
      ·cases hc
    | true=>simp only [comp,C.er] at hc;(repeat' (split at hc))<;>cases hc
  | _=>simp only [comp,C.er] at hc<;>(repeat' (split at hc))<;>simp_all
 obtain ⟨rid,ops,rfl,hm⟩:=hcode
 obtain ⟨cr,s1,hev,hok1,F,caps,ps,args,ein,eout,news,val,rs,nm,e1,e2,hnd,h16,hmx,hma,hnb,hC,hout,hnw,hnl,hfree,hd,hrest⟩:=evK_evL hpre
 obtain ⟨cr2,s3,hev2,hQ3⟩:=evK_evL hrest
 have hok3:=hQ _ _ hQ3
 refine wp_region ?_
 have hkl:k<l.length:=(List.getElem?_eq_some_iff.1 hk).1
 have hlen:ops.size=l.length:=by have:=mapO_length hm;simp at this;omega
 have hget:∀j o,ops[j]? =some o→∃x,l[j]? =some x∧compO P wr ops o=some x:=fun j o hj=>comp_ins hm j o hj
 have hrange:List.range ops.size=(num 0 (l.take k)).map (·.1)++(k::(num (k+1) (l.drop (k+1))).map (·.1)):=by
  rw [num_fst,num_fst,hlen,List.range_eq_range',List.length_take,List.length_drop,Nat.min_eq_left (Nat.le_of_lt hkl)]
  have:l.length=k+(1+(l.length - (k+1))):=by omega
  rw [show List.range' 0 l.length=List.range' 0 (k+(1+(l.length - (k+1)))) by rw [←this],←List.range'_append_1,Nat.add_comm 1,List.range'_succ,Nat.zero_add]
 rw [hrange]
 refine pre_sound (wr:=wr) (fun p hp=> ?_) hR hev hok1 fun a1 w1 γ1 hR1=> ?_
 ·obtain ⟨hg0,hg⟩:=num_get (l.take k) 0 p hp
  have hlt:=(List.getElem?_eq_some_iff.1 hg).1
  rw [List.length_take] at hlt
  have ho:ops[p.1]? =some (ops[p.1]'(by omega)):=Array.getElem?_eq_getElem (by omega)
  obtain ⟨x,hx,hco⟩:=hget _ _ ho
  rw [Nat.sub_zero,List.getElem?_take,if_pos (by omega),hx] at hg
  injection hg with hg;subst hg
  exact ⟨_,ho,hco⟩
 ·have ho:ops[k]? =some (ops[k]'(by omega)):=Array.getElem?_eq_getElem (by omega)
  obtain ⟨x,hx,hco⟩:=hget _ _ ho
  rw [hk] at hx
  injection hx with hx;subst hx
  obtain ⟨hg1,hi1,hd1⟩:=compO_parts hco
  rw [wpOps_cons]
  unfold wpOp
  rw [ho]
  simp only
  rw [guard_none hg1 rfl,if_pos rfl]
  refine .inl ?_
  have hlo:X.lo≤w1.heap.size:=by rw [hR1.lo];exact hR1.keeps.size
  refine call_wp2 (ps:=ps) (R:=fun v w'=>∃γ2,EffOK X γ1 w1 s1.st ⟨val.ren (mxB rs nm), [], [], [], [], []⟩ v w' γ2 (updL nm (news.map (SE.ren (mxB rs nm))) (updL rs (eout.map (SE.ren (mxB rs nm))) s1.st))) hR1 hi1 e1 e2 hC.1 (fun vs us hvs hus=> ?_) (fun v w' hE=> ?_)
  ·refine (mix_calls hR1.st hR1.hX hlo hnd h16 hmx hma hnb hC hout hnw hnl hfree hvs hus).mono ?_
   rintro e w' ⟨v,γ2,he,hE⟩
   exact ⟨v,he,γ2,hE⟩
  ·obtain ⟨γ2,hE⟩:=hE
   have hdst:(ops[k]'(by omega)).dst=some d:=hd1.symm
   rw [hdst]
   have hR2:Rel X w0 may (a1.put (some d) v) w' ⟨s1.n,upd s1.fr d (val.ren (mxB rs nm)),updL nm (news.map (SE.ren (mxB rs nm))) (updL rs (eout.map (SE.ren (mxB rs nm))) s1.st),True,s1.log⟩ γ2:=
    ents_put (E:=⟨val.ren (mxB rs nm), [], [], [], [], []⟩) hR1 hE (fun r hr=>by cases hr) rfl (by simpa [Nat.blt_eq] using hd) (by simp [voidF_nil])
   exact reg_sound (l:=num (k+1) (l.drop (k+1))) (fun p hp=>by
    obtain ⟨hg0,hg⟩:=num_get (l.drop (k+1)) (k+1) p hp
    have hlt:=(List.getElem?_eq_some_iff.1 hg).1
    rw [List.length_drop] at hlt
    have ho:ops[p.1]? =some (ops[p.1]'(by omega)):=Array.getElem?_eq_getElem (by omega)
    obtain ⟨x,hx,hco⟩:=hget _ _ ho
    rw [List.getElem?_drop,show k+1+(p.1 - (k+1))=p.1 by omega,hx] at hg
    injection hg with hg;subst hg
    exact ⟨_,ho,hco⟩) hR2 hev2 hok3 (fun a' w' γ' hR'=>⟨_,_,_,rfl,hQ3,hR'⟩)
end
namespace TE
def c185:C:=(sr [kk 6 (.mv (cn 0))] (.seq (sr [kl 11 1,km 12 0,ki 13 1 11 12,kl 14 13,kc 15 56 [14,(cn 1073741824)],kk 16 (.un false .not 15)] (.cond 16 (sr [kk 6 (.mv (cn 1))] .ret) .skip)) (.seq (.drw [kl 17 2,km 18 0,ki 19 1 17 18,kl 20 19,kl 21 1,km 22 0,ki 23 1 21 22,kl 24 23,kb 25 .add 20 24,ki 26 1 17 18,kx 1 26 25] (pl [(0,[1,4,5,6,7],17),(1,[4,5,6,7],18),(2,[4,5,6,7],19),(3,[4,5,6,7],20),(4,[5],21)])) (sr [kt 27 2 3,km 28 0,kc 29 186 [27,28],km 7 29] (.seq (sr [km 30 7,kb 31 .lss 30 (cn 0)] (.cond 31 (sr [kk 6 (.mv (cn 0))] .ret) .skip)) (.seq (.drw [kf 33 1 3,kl 34 33,km 35 7,ki 36 4 34 35,kf 37 2 36,kt 38 2 37,kl 39 4,km 40 7,ki 41 1 39 40,kt 42 1 41,kl 43 2,km 44 0,ki 45 1 43 44,kl 46 45,kc 47 60 [38,42,46],km 32 47,ke 48 32 0,ke 49 32 1,ke 50 32 2,kk 8 (.al [(.nil 1)]),kx 1 8 48,km 9 49,km 10 50] (pl [(0,[2,6,7,8,9,10,11,12,13,19],33),(1,[2,6,7,8,9,10,11,12,13,19],34),(2,[6,7,8,9,10,11,12,13,19],35),(3,[6,7,8,9,10,11,12,13,19],36),(4,[6,7,8,9,10,11,12,13,19],37),(5,[6,7,8,9,10,11,12,13,19],38),(6,[7,10,11,12,13,19],39),(7,[10,11,12,13,19],40),(8,[10,11,12,13,19],41),(9,[10,11,12,13,19],42),(10,[11,19],43),(11,[19],44),(12,[19],45),(13,[19],46),(14,[19],47),(15,[19],32),(16,[17,18,19],48),(17,[18,19,20],49),(18,[19,20,21],50)])) (.seq (sr [km 51 10,kb 52 .neq 51 (cn 0)] (.cond 52 (sr [kk 6 (.mv (cn 1))] .ret) .skip)) (sr [kl 53 4,km 54 7,kt 55 1 8,ki 56 1 53 54,kx 1 56 55] (.seq (.drw [kl 57 2,kf 58 1 3,kl 59 58,km 60 7,ki 61 4 59 60,kf 62 1 61,kl 63 62,ki 64 1 57 63,kl 65 64,km 66 9,kb 67 .add 65 66,ki 68 1 57 63,kx 1 68 67] (pl [(0,[1,2,3,4,5,6,9],57),(1,[3,9],58),(2,[3,9],59),(3,[9],60),(4,[9],61),(5,[9],62),(6,[9],63),(7,[9],64),(8,[9],65)])) (sr [kk 6 (.mv (cn 0))] .ret))))))))))
theorem fits185:fits Tryz.prog false Tryz.f185 5 69 [(6,none)]=some c185.er:=by kernel_rfl
theorem rowEq2 {f g:Nat→List PV} (h0:f 0=g 0) (h1:f 1=g 1):RowEq 2 f g:=fun i hi=>by
 match i,hi with
 | 0,_=>exact h0
 | 1,_=>exact h1
theorem rowEq1 {f g:Nat→List PV} (h0:f 0=g 0):RowEq 1 f g:=fun i hi=>by
 match i,hi with
 | 0,_=>exact h0
def bs185 (lf:Nat→List PV) (r:Rch) (a0 a1:Int) (w:List Int):List SE:= [.box [.sl 2 1 2 lf], .box [.os 4], .box (eRi 1 r), .box [.os 5], .row 1 3 1 2 (fl eInt [a0,a1]), .row 1 60 1 1 (fl (eWv 0) [w])]
theorem call185_1 (lf:Nat→List PV) (r:Rch) (a0 a1 l0 l1:Int) (w:List Int) (hl:RowEq 2 lf (fl eInt [l0,l1])) (h1:0≤l1∧l1≤1073741824) (ha:0≤a1∧a1≤1000000000000):
  PureCall Tryz.prog 185 [.int .i64 1, .pt 0 0 0, .pt 1 0 0, .pt 2 0 0, .pt 3 0 0] (bs185 (fl eInt [l0,l1]) r a0 a1 w) ⟨.int .i64 0,bs185 (fl eInt [l0,l1]) r a0 (a1+l1) w, []⟩:=by
 refine pure_call mix Tryz.func185 fits185 rfl ?_
 conv=>whnf
 refine ⟨_,fun _=>G02.call56 l1 1073741824, ?_⟩
 rw [decide_eq_true h1]
 conv=>whnf
 refine ⟨by exact g0,fun h=>(by cases h),fun _=> ?_⟩
 conv=>whnf
 refine ⟨rfl, ?_⟩
 conv=>whnf
 refine ⟨_,fun _=>call186 _ r 1, ?_⟩
 conv=>whnf
 rw [show [a0,a1].getD (Int.toNat 1) default=a1 from rfl,show [l0,l1].getD (Int.toNat 1) default=l1 from rfl]
 refine ⟨by exact g0,fun _=> ?_,fun h=>(by cases h)⟩
 conv=>whnf
 have q:RowEq 2 (fun k=>if k=Int.toNat 1 then setAt (fl eInt [a0,a1] (Int.toNat 1)) 0 (PV.int .i64 (a1+l1)).cells else fl eInt [a0,a1] k) (fl eInt [a0,a1+l1]):=rowEq2 rfl rfl
 exact retB
theorem call185_0 (r:Rch) (a0 a1 l0 l1:Int) (w:List Int) (h:RcOK r) (hw:WvOK r w) (h0:0≤l0∧l0≤1073741824) (ha:0≤a0) (hb:a0+l0≤1073741824) (hs:w.sum+(a0+l0)*r.den≤100000000000000) (ha1:0≤a1∧a1≤1000000000000) (ho:pasO r w (a0+l0)≤1000000000000000):
  PureCall Tryz.prog 185 [.int .i64 0, .pt 0 0 0, .pt 1 0 0, .pt 2 0 0, .pt 3 0 0] (bs185 (fl eInt [l0,l1]) r a0 a1 w) ⟨.int .i64 0,bs185 (fl eInt [l0,l1]) r (a0+l0) (a1+pasO r w (a0+l0)) (pasW r w (a0+l0)), []⟩:=by
 have hop:=pasO_rng h hw (q:=a0+l0) ⟨by omega,hb⟩
 refine pure_call mix Tryz.func185 fits185 rfl ?_
 conv=>whnf
 refine ⟨_,fun _=>G02.call56 l0 1073741824, ?_⟩
 rw [decide_eq_true h0]
 conv=>whnf
 refine ⟨by exact g0,fun h=>(by cases h),fun _=> ?_⟩
 conv=>whnf
 refine ⟨rfl, ?_⟩
 conv=>whnf
 refine ⟨_,fun _=>call186 _ r 0, ?_⟩
 conv=>whnf
 rw [show [a0,a1].getD (Int.toNat 0) default=a0 from rfl,show [l0,l1].getD (Int.toNat 0) default=l0 from rfl]
 refine ⟨by exact g0,fun h=>(by cases h),fun _=> ?_⟩
 conv=>whnf
 refine ⟨_,fun _=>PureCall.arg_le (call60 _ r w (a0+l0) h hw ⟨by omega,hb⟩ hs) rfl (by unfold lendT rdT;exact ent), ?_⟩
 generalize pasO r w (a0+l0)=o at hop ho⊢
 generalize pasW r w (a0+l0)=W
 conv=>whnf
 refine ⟨rfl, ?_⟩
 conv=>whnf
 refine ⟨by exact g0,fun h=>(by cases h),fun _=> ?_⟩
 conv=>whnf
 refine ⟨rfl, ?_⟩
 conv=>whnf
 rw [show lnkF 0=0 from rfl,show [a0,a1].getD (Int.toNat 1) default=a1 from rfl]
 have q1:RowEq 2 (fun k=>if k=Int.toNat 1 then setAt ((fun k=>if k=Int.toNat 0 then setAt (fl eInt [a0,a1] (Int.toNat 0)) 0 (PV.int .i64 (a0+l0)).cells else fl eInt [a0,a1] k) (Int.toNat 1)) 0 (PV.int .i64 (a1+o)).cells else (fun k=>if k=Int.toNat 0 then setAt (fl eInt [a0,a1] (Int.toNat 0)) 0 (PV.int .i64 (a0+l0)).cells else fl eInt [a0,a1] k) k) (fl eInt [a0+l0,a1+o]):=rowEq2 rfl rfl
 have q2:RowEq 1 (fun k=>if k=Int.toNat 0 then setAt (fl (eWv 0) [w] (Int.toNat 0)) 0 (PV.agg [.sl 0 1 W.length (fl eInt W)]).cells else fl (eWv 0) [w] k) (fl (eWv 0) [W]):=rowEq1 rfl
 exact retB
def c128L1:C:=(sr [kb 24 .lss 23 22] (.seq (.cond 24 .skip (.exit 0)) (.seq (.block 1 (sr [km 25 23,km 10 25] (.seq (.cut (.reg [km 26 9,km 27 10,kk 28 (.call 26 [27]),km 11 28])) (sr [km 29 11,kb 30 .neq 29 (cn 0)] (.cond 30 (sr [km 31 11,kk 6 (.mv (.c (.nil 1))),km 7 31] .ret) .skip))))) (.reg [kb 32 .add 23 (cn 1),km 23 32]))))
def c128:C:=(sr [kk 3 (.bx 2 0),kk 4 (.bx 1 1),kk 5 (.bx 1 2),kk 6 (.mv (.c (.nil 1))),kk 7 (.mv (cn 0))] (.seq (sr [kl 12 5,kk 13 (.len 12),kf 14 0 3,kl 15 14,kb 16 .neq 13 15] (.cond 16 (sr [kk 6 (.mv (.c (.nil 1))),kk 7 (.mv (cn 3))] .ret) .skip)) (sr [kf 17 0 3,kl 18 17,kk 19 (.mks 3 1 8 [z0] 18 18),kk 8 (.al [(.nil 1)]),kx 1 8 19] (sr [kk 20 (.mf (.func 185) [] [5,8,3,4]),km 9 20] (.seq (sr [kf 21 0 3,kl 22 21,kk 23 (.mv (cn 0))] (.block 0 (.loop c128L1))) (sr [kl 33 8,km 6 33,kk 7 (.mv (cn 0))] .ret))))))
theorem fits128:fits Tryz.prog false Tryz.f128 3 34 [(6,none),(7,none)]=some c128.er:=by kernel_rfl
theorem pasO_le {r:Rch} {w:List Int} {q:Int} (h:RcOK r) (hw:WvOK r w) (hq:0≤q∧q≤1073741824):pasO r w q≤w.sum+q*r.den:=by
 have h1:=pas_sum (q:=q) h hw
 have h2:=pasO_rng h hw hq
 have h3:=h.den
 have h4:0≤(pasW r w q).sum:=by
  have:=take_rng (M:=100000000000000000000) (l:=pasW r w q) (fun i hi=>⟨pasW_nn h hw hq i hi, ?_⟩) (pasW r w q).length (Nat.le_refl _)
  ·rw [take_all] at this;exact this.1
  ·have hlt:=pasL_get h hw hq (i+1)
   have hl2:=pasL_get h hw hq 0
   rw [pasW_len h hw] at hi
   unfold pasW
   rw [take_get _ _ _ hi,pas3_get h hw]
   have h5:=Int.emod_lt_of_pos ((pasL r w q).getD 0 default) (show 0<r.den by omega)
   have hb:∀k,w.getD k default≤100000000000000:=fun k=>by
    by_cases hk:k<w.length
    ·exact (hw.rng k hk).2
    ·rw [List.getD_eq_getElem?_getD,List.getElem?_eq_none (by omega)];exact (by decide:(0:Int)≤100000000000000)
   have:=hb (i+1)
   split<;>omega
 have h5:pasO r w q≤r.den*pasO r w q:=by
  have:=Int.mul_le_mul_of_nonneg_right (show (1:Int)≤r.den by omega) h2
  omega
 omega
def aI (r:Rch) (w:List Int) (l0 l1:Int):Nat→List Int
 | 0=> [0,0]
 | 1=> [0+l0,0+pasO r w (0+l0)]
 | _=> [0+l0,0+pasO r w (0+l0)+l1]
def wI (r:Rch) (w:List Int) (l0:Int):Nat→List Int
 | 0=>w
 | _=>pasW r w (0+l0)
def bs128 (r:Rch) (w:List Int):List SE:= [.box (eRi 1 r), .row 1 60 1 1 (fl (eWv 0) [w])]
theorem call128 (r:Rch) (w:List Int) (l0 l1:Int) (h:RcOK r) (hw:WvOK r w) (h0:0≤l0∧l0≤1073741824) (h1:0≤l1∧l1≤1073741824) (hs:w.sum+l0*r.den≤1000000000000):
  PureCall Tryz.prog 128 [.agg (eRi 1 r), .os 1, .sl 2 1 2 (fl eInt [l0,l1])] (bs128 r w) ⟨.tup [.os 1000000000, .int .i64 0],bs128 r (pasW r w (0+l0)), [.row 1 3 1 2 (fl eInt (aI r w l0 l1 2))]⟩:=by
 have hml:2≤maxLen:=maxLen_ge (by omega)
 have hz:(0:Int)+l0=l0:=by omega
 have hpo:=pasO_rng h hw h0
 have hpl:=pasO_le h hw h0
 refine pure_call mix Tryz.func128 fits128 rfl ?_
 conv=>whnf
 refine ⟨by exact g0,fun h=>(by cases h),fun _=> ?_⟩
 conv=>whnf
 refine ⟨by exact g0, ?_⟩
 refine LSem.loop (n:=34) mix (α:=Nat) (fun i=>i≤2)
  (fun i=> [(8, .pt 128 0 0),(9, .fn (.func 185) [] [.pt 80 0 0, .pt 128 0 0, .pt 48 0 0, .pt 64 0 0]),(22, .int .i64 2),(23, .int .i64 i)])
  (fun i=> [(0, .box (eRi 1 r)),(1, .row 1 60 1 1 (fl (eWv 0) [wI r w l0 i])),(48, .box (eRi 1 r)),(64, .box [.os 1]),(80, .box [.sl 2 1 2 (fl eInt [l0,l1])]),(128, .box [.os 304]),(304, .row 1 3 1 2 (fl eInt (aI r w l0 l1 i)))]) (fun i=>2 - i) 0 (Nat.zero_le _) ?_ ?_
 ·have q:RowEq 2 (fun _=> [PV.int .i64 0]) (fl eInt (aI r w l0 l1 0)):=rowEq2 rfl rfl
  refine ⟨rfl,rfl, ?_, ?_⟩<;>exact ent
 intro i hi
 conv=>whnf
 refine ⟨trivial,fun hc=> ?_,fun hc=> ?_⟩
 ·replace hc:=of_decide_eq_true hc
  have hi2:i=0∨i=1:=by
   have h:(i:Int)<2:=hc
   omega
  rcases hi2 with rfl | rfl
  ·conv=>whnf
   refine ⟨by exact g0,LSem.mix 2 28 448 (.t 26) [.t 27] rfl ?_⟩
   conv=>whnf
   refine ⟨by exact g0,185, [.pt 80 0 0, .pt 128 0 0, .pt 48 0 0, .pt 64 0 0], [.int .i64 0], [.int .i64 0, .pt 0 0 0, .pt 1 0 0, .pt 2 0 0, .pt 3 0 0],bs185 (fl eInt [l0,l1]) r 0 0 w,bs185 (fl eInt [l0,l1]) r (0+l0) (0+pasO r w (0+l0)) (pasW r w (0+l0)), [], .int .i64 0, [80,128,48,64,304,1], [],
    rfl,rfl,by decide,by decide,rfl,rfl,rfl,call185_0 r 0 0 l0 l1 w h hw h0 (by omega) (by omega) (by rw [hz];omega) ⟨by omega,by omega⟩ (by rw [hz];omega),rfl,rfl,rfl,(fun r hr=>by cases hr),rfl, ?_⟩
   conv=>whnf
   refine ⟨by exact g0,fun h=>(by cases h),fun _=> ?_⟩
   conv=>whnf
   refine ⟨by exact g0,1,by omega,by omega,rfl,rfl, ?_, ?_⟩<;>exact ent
  ·conv=>whnf
   refine ⟨by exact g0,LSem.mix 2 28 448 (.t 26) [.t 27] rfl ?_⟩
   conv=>whnf
   refine ⟨by exact g0,185, [.pt 80 0 0, .pt 128 0 0, .pt 48 0 0, .pt 64 0 0], [.int .i64 1], [.int .i64 1, .pt 0 0 0, .pt 1 0 0, .pt 2 0 0, .pt 3 0 0],bs185 (fl eInt [l0,l1]) r (0+l0) (0+pasO r w (0+l0)) (pasW r w (0+l0)),bs185 (fl eInt [l0,l1]) r (0+l0) (0+pasO r w (0+l0)+l1) (pasW r w (0+l0)), [], .int .i64 0, [80,128,48,64,304,1], [],
    rfl,rfl,by decide,by decide,rfl,rfl,rfl,call185_1 (fl eInt [l0,l1]) r (0+l0) (0+pasO r w (0+l0)) l0 l1 (pasW r w (0+l0)) (fun _ _=>rfl) h1 (by rw [hz];omega),rfl,rfl,rfl,(fun r hr=>by cases hr),rfl, ?_⟩
   conv=>whnf
   refine ⟨by exact g0,fun h=>(by cases h),fun _=> ?_⟩
   conv=>whnf
   refine ⟨by exact g0,2,by omega,by omega,rfl,rfl, ?_, ?_⟩<;>exact ent
 ·obtain rfl:i=2:=by
    have h:¬(i:Int)<2:=of_decide_eq_false hc
    omega
  conv=>whnf
  refine ⟨by exact g0, [304], ?_⟩
  conv=>whnf
  refine ⟨rfl, ?_, ?_, ?_⟩<;>exact ent
end TE
open Go.RowKit
theorem ints_vals {X:Cx} {γ:Gh} {w:World} {τ:Nat} {f:Nat→List PV} {l:List Int} {vs:List Value} (h5:RowsRep X γ w τ 1 l.length f vs) (hf:RowEq l.length f (fl (fun n:Int=> [PV.int .i64 n]) l)):vs=l.map (Value.int .i64):=by
 refine List.ext_getElem? fun j=> ?_
 have hlen:vs.length=l.length:=by rw [h5.len,Nat.mul_one]
 by_cases hj:j<l.length
 ·have hc:(f j)[0]? =some (.int .i64 (l.getD j default)):=by rw [hf j hj];rfl
  have hu:vs[j]? =some (vs[j]'(by omega)):=List.getElem?_eq_getElem (by omega)
  have:=h5.rep j 0 _ (vs[j]'(by omega)) hj hc (by rw [Nat.mul_one,Nat.add_zero];exact hu)
  have hi:vs[j]'(by omega)= .int .i64 (l.getD j default):=by
   have h6:Rep X γ w (.int .i64 (l.getD j default)) (vs[j]'(by omega)):=this
   exact h6.int_inv
  rw [hu,hi,List.getElem?_map,getD_some hj];rfl
 ·rw [List.getElem?_eq_none (by omega),List.getElem?_eq_none (by simp;omega)]
theorem ints_rows {X:Cx} {γ:Gh} {w:World} (l:List Int):RowsRep X γ w 0 1 l.length (fl (fun n:Int=> [PV.int .i64 n]) l) (l.map (Value.int .i64)):=by
 refine ⟨by simp,fun u hu=> ?_,fun i hi=>rfl,fun i hi c hc=> ?_,fun i j c u hi hc hu=> ?_⟩
 ·obtain ⟨n,_,rfl⟩:=List.mem_map.1 hu;rfl
 ·have:c= .int .i64 (l.getD i default):=by simpa [fl] using hc
  subst this;rfl
 ·have hj:j=0:=by
    have:=(List.getElem?_eq_some_iff.1 hc).1
    simp [fl] at this;omega
  subst hj
  have:c= .int .i64 (l.getD i default):=by
   have h0:some (PV.int .i64 (l.getD i default))=some c:=hc
   injection h0 with h0;exact h0.symm
  subst this
  rw [Nat.mul_one,Nat.add_zero,List.getElem?_map,getD_some hi] at hu
  injection hu with hu;subst hu
  exact .int _ _
theorem pure_new {P:Program} {f:FuncId} {τ e:Nat} {l l':List Int} (hfn:∃fn,P.funcs[f]? =some fn∧fn.body.isSome=true∧(fn.name== "runtime.NumGoroutine")=false)
  (h:∀(w:World) (ad:Option Addr) (cap:Nat),l.length≤cap→(0<l.length→∃b off,ad=some ⟨b,off,none⟩∧∀j,j<l.length→w.cell? ⟨b,off+j,none⟩=some (.int .i64 (l.getD j 0)))→
   Calls P f #[.slice ad l.length cap] w fun ev w'=>∃v',ev= .returned v'∧w'.ownsRow w.heap.size e 1 v' l'.length (l'.map (Value.int .i64))∧Keeps (fun _=>False) w w'):
  PureCall P f [.sl τ 1 l.length (fl (fun n:Int=> [PV.int .i64 n]) l)] [] ⟨.os 1000000000, [], [.row 0 e 1 l'.length (fl (fun n:Int=> [PV.int .i64 n]) l')]⟩:=by
 refine ⟨hfn,fun w γ as_ ls vals hst hX hargs=> ?_⟩
 obtain ⟨v,us,rfl,hv,hus⟩:=hargs.cons_inv
 cases hus.nil_inv
 obtain ⟨ad,cap,vs,rfl,hcap,hr,hor,hcell⟩:=sl_rows hv
 have hvs:=ints_vals hr (fun _ _=>rfl)
 subst hvs
 refine (h w ad cap hcap (fun h0=> ?_)).mono ?_
 ·rcases hor with h1 | ⟨a,rfl,hm,hlt⟩
  ·omega
  ·have hc:=hcell a rfl
   obtain ⟨b,off,sp⟩:=a
   have h1:=hc 0 (.int .i64 (l.getD 0 default)) (by rw [List.getElem?_map,getD_some h0];rfl)
   have hsp:sp=none:=by
    simp only [Addr.add,if_pos] at h1
    unfold World.cell? at h1
    simp only at h1
    split at h1
    ·cases sp with
     | none=>rfl
     | some _=>simp at h1
    ·cases h1
   subst hsp
   refine ⟨b,off,rfl,fun j hj=> ?_⟩
   have h2:=hc j (.int .i64 (l.getD j default)) (by rw [List.getElem?_map,getD_some hj];rfl)
   by_cases hj0:j=0
   ·subst hj0;simpa [Addr.add] using h2
   ·simpa [Addr.add,hj0] using h2
 ·rintro ev w' ⟨v',he,ho,hk⟩
  have ho0:OwnsG w' e 1 v' l'.length (l'.map (Value.int .i64)):=OwnsG_of ho
  have hone:v'.oneCell'=true:=slice_one ho0
  have hblk:∀b,v'.ownBlock=some b→w.heap.size≤b∧b<w'.heap.size:=fun b hb=>by
   refine ⟨?_,own_lt' ho0 b hb⟩
   rcases ho.2 with ⟨h0,_⟩ | ⟨g,cap,cur,h0,h1,_⟩
   ·subst h0;cases hb
   ·subst h0;injection hb with hb;subst hb;exact h1
  have hnone:∀r,γ r=none:=fun r=>by
   have:=hst.dom r
   simp at this
   exact this
  refine ⟨v',fun r=>if r=1000000000 then some ⟨v'.ownBlock,v',1⟩ else none,he, .os _ ⟨v'.ownBlock,v',1⟩ (by simp) hone rfl, ?_,⟨hk.os,hk.tape,hk.output,hk.size,fun b hb _=>hk.block b hb (fun h=>h)⟩,fun r hr=>by simp [parN,nbx] at hr,fun r ge b hr hb=> ?_⟩
  ·refine ⟨fun r=> ?_,fun r ge se hr hs=> ?_,fun r r' ge ge' b hr hr' _ _=> ?_,fun b ⟨r,ge,hr,hb⟩=> ?_,fun b ⟨r,ge,hr,hb⟩=> ?_, ?_⟩
   rotate_right
   ·refine glob_keep hst.glob (fun b hlt _=>hk.block b hlt (fun h=>h)) (fun b ⟨r,ge,hr,hb⟩=> ?_)
    by_cases h:r=1000000000
    ·simp only [h,if_true,Option.some.injEq] at hr
     subst hr
     exact .inr (hblk b ((GE.has_row rfl).1 hb)).1
    ·simp only [h,if_false] at hr;cases hr
   ·by_cases h:r=1000000000
    ·subst h;simp [resSt,newBase]
    ·simp only [h,if_false,resSt]
     by_cases h2:newBase≤r
     ·have:1≤r - newBase:=by unfold newBase at *;omega
      rw [if_pos h2,List.getElem?_eq_none (by simpa using this)];rfl
     ·rw [if_neg h2];simp
   ·by_cases h:r=1000000000
    ·subst h
     simp only [if_true,Option.some.injEq] at hr
     subst hr
     simp [resSt,newBase] at hs
     subst hs
     exact (ints_rows l').repS rfl rfl hone ho0
    ·simp only [h,if_false] at hr;cases hr
   ·by_cases h:r=1000000000
    ·by_cases h':r'=1000000000
     ·rw [h,h']
     ·simp only [h',if_false] at hr';cases hr'
    ·simp only [h,if_false] at hr;cases hr
   ·by_cases h:r=1000000000
    ·simp only [h,if_true,Option.some.injEq] at hr
     subst hr
     have:=(hblk b ((GE.has_row rfl).1 hb)).1
     exact ⟨fun ha=>by have:=hX b (.inl ha);omega,fun ha=>by have:=hX b (.inr ha);omega⟩
    ·simp only [h,if_false] at hr;cases hr
   ·by_cases h:r=1000000000
    ·simp only [h,if_true,Option.some.injEq] at hr
     subst hr
     exact (hblk b ((GE.has_row rfl).1 hb)).2
    ·simp only [h,if_false] at hr;cases hr
  ·by_cases h:r=1000000000
   ·simp only [h,if_true,Option.some.injEq] at hr
    subst hr
    exact .inl (hblk b ((GE.has_row rfl).1 hb)).1
   ·simp only [h,if_false] at hr;cases hr
theorem call_clone (τ:Nat) (l:List Int) (hl:l.length*8≤140737488355328):PureCall Tryz.prog 127 [.sl τ 1 l.length (fl (fun n:Int=> [PV.int .i64 n]) l)] [] ⟨.os 1000000000, [], [.row 0 3 1 l.length (fl (fun n:Int=> [PV.int .i64 n]) l)]⟩:=by
 have hbel:∀{w w':World},Below w.heap.size w w'→Keeps (fun _=>False) w w':=fun {w w'} hb=>⟨hb.os,hb.tape,hb.output,hb.size,fun b hb' _=>hb.block b hb'⟩
 refine pure_new ⟨_,Tryz.func127,rfl,rfl⟩ fun w ad cap hcap hc=> ?_
 by_cases h0:0<l.length
 ·obtain ⟨b,off,rfl,hcell⟩:=hc h0
  refine (Sh.slices_Clone_int b off l.length cap l w (Nat.le_refl _) hl hcell).mono ?_
  rintro ev w' ⟨v',he,ho,_,hb⟩
  rw [List.take_length] at ho
  exact ⟨v',he,ho,hbel hb⟩
 ·have hl0:l= []:=List.eq_nil_of_length_eq_zero (by omega)
  subst hl0
  cases ad with
  | none=>
    refine (Sh.slices_Clone_int_nil 0 cap w).mono ?_
    rintro ev w' ⟨he,rfl⟩
    exact ⟨_,he,⟨rfl, .inl ⟨rfl,rfl⟩⟩,Keeps.refl _ _⟩
  | some a=>
    refine (Sh.slices_Clone_int_zero a cap w).mono ?_
    rintro ev w' ⟨v',he,ho,_,hb⟩
    exact ⟨v',he,ho,hbel hb⟩
namespace TE
def c59L1:C:=(sr [kb 30 .lss 29 28] (.seq (.cond 30 .skip (.exit 0)) (.seq (.block 1 (sr [ki 31 1 27 29,kt 32 1 31,kk 12 (.al [(.nil 1)]),kx 1 12 32] (.reg [km 33 10,kf 34 0 12,kl 35 34,kc 36 127 [35],kk 37 (.bd [(.nil 1)] [(0,1,36)]),kk 38 (.bs 60 1 [37]),kk 39 (.app 60 1 24 33 38),km 10 39]))) (.reg [kb 40 .add 29 (cn 1),km 29 40]))))
def c59L2:C:=(sr [kb 44 .lss 43 42] (.seq (.cond 44 .skip (.exit 2)) (.seq (.block 3 (sr [ki 45 1 41 43,kl 46 45,km 15 46] (.seq (.cut (.reg [kt 48 2 3,km 49 10,km 50 15,kc 51 128 [48,49,50],km 47 51,ke 52 47 0,ke 53 47 1,km 16 52,km 17 53])) (.seq (sr [km 54 17,kb 55 .neq 54 (cn 0)] (.cond 55 (sr [km 56 17,kk 6 (.mv (.c (.nil 1))),kk 7 (.mv (.c (.nil 1))),km 8 56] .ret) .skip)) (.reg [km 57 13,km 58 16,kk 59 (.bs 22 1 [58]),kk 60 (.app 22 1 24 57 59),km 13 60]))))) (.reg [kb 61 .add 43 (cn 1),km 43 61]))))
def c59:C:=(sr [kk 3 (.bx 2 0),kk 6 (.mv (.c (.nil 1))),kk 7 (.mv (.c (.nil 1))),kk 8 (.mv (cn 0))] (.seq (sr [kt 18 2 3,km 19 1,kc 20 126 [18,19],km 9 20] (sr [km 21 9,kb 22 .neq 21 (cn 0)] (.cond 22 (sr [km 23 9,kk 6 (.mv (.c (.nil 1))),kk 7 (.mv (.c (.nil 1))),km 8 23] .ret) .skip))) (.seq (sr [km 24 2,kk 25 (.len 24),kb 26 .gtr 25 (cn 4096)] (.cond 26 (sr [kk 6 (.mv (.c (.nil 1))),kk 7 (.mv (.c (.nil 1))),kk 8 (.mv (cn 10))] .ret) .skip)) (sr [kk 10 (.mv (.c (.nil 1)))] (.seq (sr [km 27 1,kk 28 (.len 27),kk 29 (.mv (cn 0))] (.block 0 (.loop c59L1))) (sr [kk 13 (.mv (.c (.nil 1)))] (.seq (sr [km 41 2,kk 42 (.len 41),kk 43 (.mv (cn 0))] (.block 2 (.loop c59L2))) (sr [km 62 10,km 63 13,km 6 62,km 7 63,kk 8 (.mv (cn 0))] .ret))))))))
theorem fits59:fits Tryz.prog false Tryz.f59 3 64 [(6,none),(7,none),(8,none)]=some c59.er:=by kernel_rfl
def c13:C:=(sr [kk 3 (.bx 2 0),kk 6 (.mv (.c (.nil 1))),kk 7 (.mv (.c (.nil 1))),kk 8 (.mv (cn 0))] (sr [kt 13 2 3,km 14 1,km 15 2,kk 16 (.bs 22 1 [15]),kc 17 59 [13,14,16],km 12 17,ke 18 12 0,ke 19 12 1,ke 20 12 2,km 9 18,km 10 19,km 11 20] (.seq (sr [km 21 11,kb 22 .neq 21 (cn 0)] (.cond 22 (sr [km 23 11,kk 6 (.mv (.c (.nil 1))),kk 7 (.mv (.c (.nil 1))),km 8 23] .ret) .skip)) (.seq (.drw [km 24 9,km 25 10,ki 26 1 25 (cn 0),kl 27 26,km 6 24,km 7 27,kk 8 (.mv (cn 0))] (pl [(0,[1,2,3],24),(1,[4],25),(2,[4],26),(3,[4],27)])) .ret))))
theorem fits13:fits Tryz.prog false Tryz.f13 3 28 [(6,none),(7,none),(8,none)]=some c13.er:=by kernel_rfl
theorem call59 (τ':Nat) (r:Rch) (w:List Int) (l0 l1:Int) (h:RcOK r) (hw:WvOK r w) (h0:0≤l0∧l0≤1073741824) (h1:0≤l1∧l1≤1073741824) (hs:w.sum+l0*r.den≤1000000000000):
  PureCall Tryz.prog 59 [.agg (eRi 1 r), .sl τ' 1 1 (fl (eWv 0) [w]), .sl 2 1 1 (fun _=> [.sl 2 1 2 (fl eInt [l0,l1])])] []
   ⟨.tup [.sl 1 1 1 (fl (eWv 0) [pasW r w (0+l0)]), .sl 1 1 1 (fun _=> [.sl 1 1 2 (fl eInt (aI r w l0 l1 2))]), .int .i64 0], [], []⟩:=by
 have hn:=h.n
 have hwl:=hw.le
 refine pure_call mix Tryz.func59 fits59 rfl ?_
 conv=>whnf
 refine ⟨_,fun _=>call126 _ _ r w h hw, ?_⟩
 conv=>whnf
 refine ⟨by exact g0,fun h=>(by cases h),fun _=> ?_⟩
 conv=>whnf
 refine ⟨by exact g0,fun h=>(by cases h),fun _=> ?_⟩
 conv=>whnf
 refine ⟨by exact g0, ?_⟩
 refine LSem.adopt 10 1000000 60 1 1 rfl rfl ?_
 refine LSem.loop (n:=64) mix (α:=Nat) (fun i=>i≤1)
  (fun i=> [(2, .sl 2 1 1 (fun _=> [.sl 2 1 2 (fl eInt [l0,l1])])),(3, .pt 48 0 0),(10, .os 1000000),(27, .sl τ' 1 1 (fl (eWv 0) [w])),(28, .int .i64 1),(29, .int .i64 i)])
  (fun i=> [(48, .box (eRi 1 r)),(1000000, .row 0 60 1 i (fl (eWv 0) [w]))]) (fun i=>1 - i) 0 (Nat.zero_le _) ?_ ?_
 ·refine ⟨rfl,rfl, ?_, ?_⟩<;>exact ent
 intro i hi
 conv=>whnf
 refine ⟨trivial,fun hc=> ?_,fun hc=> ?_⟩
 ·replace hc:=of_decide_eq_true hc
  obtain rfl:i=0:=by
   have h:(i:Int)<1:=hc
   omega
  conv=>whnf
  refine ⟨_,fun _=>call_clone _ w (by omega), ?_⟩
  conv=>whnf
  have qq:RowEq (0+ [[PV.sl 0 1 w.length (fl (fun n=> [PV.int .i64 n]) w)]].length) (appF 0 (fl (eWv 0) [w]) fun i=> [[PV.sl 0 1 w.length (fl (fun n=> [PV.int .i64 n]) w)]].getD i []) (fl (eWv 0) [w]):=rowEq1 rfl
  refine ⟨by exact g0,1,Nat.le_refl _,by omega,rfl,rfl, ?_, ?_⟩<;>exact ent
 conv=>whnf
 refine ⟨by exact g0, ?_⟩
 refine LSem.adopt 13 1000001 22 1 1 rfl rfl ?_
 refine LSem.loop (n:=64) mix (α:=Nat) (fun i=>i≤1)
  (fun i=> [(3, .pt 48 0 0),(10, .os 1000000),(13, .os 1000001),(41, .sl 2 1 1 (fun _=> [.sl 2 1 2 (fl eInt [l0,l1])])),(42, .int .i64 1),(43, .int .i64 i)])
  (fun i=> [(48, .box (eRi 1 r)),(1000000, .row 1 60 1 1 (fl (eWv 0) [if i=0 then w else pasW r w (0+l0)])),(1000001, .row 1 22 1 i (fun _=> [.sl 1 1 2 (fl eInt (aI r w l0 l1 2))]))]) (fun i=>1 - i) 0 (Nat.zero_le _) ?_ ?_
 ·obtain rfl:i=1:=by
    have h:¬(i:Int)<1:=of_decide_eq_false hc
    omega
  refine ⟨rfl,rfl, ?_, ?_⟩<;>exact ent
 intro i hi
 conv=>whnf
 refine ⟨trivial,fun hc=> ?_,fun hc=> ?_⟩
 ·replace hc:=of_decide_eq_true hc
  obtain rfl:i=0:=by
   have h:(i:Int)<1:=hc
   omega
  rw [if_pos rfl]
  conv=>whnf
  refine ⟨by exact g0,LSem.mix 3 51 816 (.c (.fn (.func 128) [] [])) [.t 48, .t 49, .t 50] rfl ?_⟩
  conv=>whnf
  refine ⟨by exact g0,128, [], [.agg (eRi 1 r), .os 1000000, .sl 2 1 2 (fl eInt [l0,l1])], [.agg (eRi 1 r), .os 1, .sl 2 1 2 (fl eInt [l0,l1])],bs128 r w,bs128 r (pasW r w (0+l0)), [.row 1 3 1 2 (fl eInt (aI r w l0 l1 2))], .tup [.os 1000000000, .int .i64 0], [48,1000000], [1000002],
   rfl,rfl,by decide,by decide,rfl,rfl,rfl,call128 r w l0 l1 h hw h0 h1 hs,rfl,rfl,rfl,(fun r hr=>by rw [List.mem_singleton] at hr;subst hr;rfl),rfl, ?_⟩
  generalize pasW r w (0+l0)=W
  generalize aI r w l0 l1 2=B
  conv=>whnf
  refine ⟨by exact g0,fun h=>(by cases h),fun _=> ?_⟩
  have qq:RowEq (0+ [[PV.sl 1 1 2 (fl eInt B)]].length) (appF 0 (fun _=> [PV.sl 1 1 2 (fl eInt B)]) fun i=> [[PV.sl 1 1 2 (fl eInt B)]].getD i []) (fun _=> [PV.sl 1 1 2 (fl eInt B)]):=rowEq1 rfl
  conv=>whnf
  refine ⟨by exact g0,1,Nat.le_refl _,by omega,rfl,rfl, ?_, ?_⟩<;>exact ent
 ·obtain rfl:i=1:=by
    have h:¬(i:Int)<1:=of_decide_eq_false hc
    omega
  rw [if_neg (by decide)]
  generalize pasW r w (0+l0)=W
  generalize aI r w l0 l1 2=B
  conv=>whnf
  exact ret
theorem call13 (τ':Nat) (r:Rch) (w:List Int) (l0 l1:Int) (h:RcOK r) (hw:WvOK r w) (h0:0≤l0∧l0≤1073741824) (h1:0≤l1∧l1≤1073741824) (hs:w.sum+l0*r.den≤1000000000000):
  PureCall Tryz.prog 13 [.agg (eRi 1 r), .sl τ' 1 1 (fl (eWv 0) [w]), .sl 2 1 2 (fl eInt [l0,l1])] []
   ⟨.tup [.sl 1 1 1 (fl (eWv 0) [pasW r w (0+l0)]), .sl 1 1 2 (fl eInt (aI r w l0 l1 2)), .int .i64 0], [], []⟩:=by
 refine pure_call mix Tryz.func13 fits13 rfl ?_
 conv=>whnf
 have q:RowEq 1 (fun i=> [[PV.sl 2 1 2 (fl eInt [l0,l1])]].getD i []) (fun _=> [PV.sl 2 1 2 (fl eInt [l0,l1])]):=rowEq1 rfl
 refine ⟨_,fun _=>PureCall.arg_le (call59 (lendT τ') r w l0 l1 h hw h0 h1 hs) rfl (by exact ent), ?_⟩
 generalize pasW r w (0+l0)=W
 generalize aI r w l0 l1 2=B
 conv=>whnf
 refine ⟨by exact g0,fun h=>(by cases h),fun _=> ?_⟩
 conv=>whnf
 refine ⟨rfl, ?_⟩
 conv=>whnf
 exact ret
theorem step_riv {r:Rch} {w:List Int} {l0 l1:Int} (h:RcOK r) (hw:WvOK r w) (h0:0≤l0∧l0≤1073741824) (h1:0≤l1∧l1≤1073741824) (hs:w.sum+l0*r.den≤1000000000000):
  ∃(W:List Int) (o:Int),(∀τ',PureCall Tryz.prog 13 [.agg (eRi 1 r), .sl τ' 1 1 (fl (eWv 0) [w]), .sl 2 1 2 (fl eInt [l0,l1])] []
   ⟨.tup [.sl 1 1 1 (fl (eWv 0) [W]), .sl 1 1 2 (fl eInt [l0,o+l1]), .int .i64 0], [], []⟩)∧WvOK r W∧W.sum+r.den*o=w.sum+l0*r.den∧0≤o:=by
 refine ⟨pasW r w l0,pasO r w l0,fun τ'=> ?_,pasW_ok h hw h0 (by omega),pas_sum h hw,pasO_rng h hw h0⟩
 have hc:=call13 τ' r w l0 l1 h hw h0 h1 hs
 have e:(0:Int)+l0=l0:=by omega
 have e2:aI r w l0 l1 2= [l0,pasO r w l0+l1]:=by
  show [0+l0,0+pasO r w (0+l0)+l1]=_
  rw [e,Int.zero_add]
 rw [e2,e] at hc
 exact hc
end TE
open Go.RowKit
theorem Rep.sl_congr {X:Cx} {γ:Gh} {w:World} {τ z n:Nat} {f f':Nat→List PV} {v:Value} (h:Rep X γ w (.sl τ z n f) v) (hl:∀i,i<n→(f' i).length=z) (hfl:∀i,i<n→∀c∈f' i,c.flat=true)
  (hc:∀(i j:Nat) (c':PV),i<n→(f' i)[j]? =some c'→∃c,(f i)[j]? =some c∧∀u,Rep X γ w (c.mark τ) u→Rep X γ w (c'.mark τ) u):Rep X γ w (.sl τ z n f') v:=by
 cases h with
 | sl _ _ _ _ ad cap vs hcap hz hf hb h=>
   refine .sl τ z n f' ad cap vs hcap hl hfl hb fun i j c' hi hj=> ?_
   obtain ⟨c,h1,h2⟩:=hc i j c' hi hj
   exact h2 _ (h i j c hi h1)
theorem Rep.sl_row {X:Cx} {γ:Gh} {w:World} {τ z n:Nat} {f f':Nat→List PV} {v:Value} (h:Rep X γ w (.sl τ z n f) v) (he:RowEq n f f'):Rep X γ w (.sl τ z n f') v:=by
 cases h with
 | sl _ _ _ _ ad cap vs hcap hz hf hb h=>
   exact .sl τ z n f' ad cap vs hcap (fun i hi=>by rw [←he i hi];exact hz i hi) (fun i hi=>by rw [←he i hi];exact hf i hi) hb fun i j c hi hj=>h i j c hi (by rw [he i hi];exact hj)
theorem Rep.sl_nest {X:Cx} {γ:Gh} {w:World} {τ n:Nat} {f f':Nat→List PV} {v:Value} (h:Rep X γ w (.sl τ 1 n f) v)
  (hn:∀i,i<n→∃σ z m g g',f i= [.sl σ z m g]∧f' i= [.sl σ z m g']∧RowEq m g g'):Rep X γ w (.sl τ 1 n f') v:=by
 refine h.sl_congr (fun i hi=> ?_) (fun i hi c hc=> ?_) fun i j c' hi hj=> ?_
 ·obtain ⟨σ,z,m,g,g',_,e,_⟩:=hn i hi;rw [e];rfl
 ·obtain ⟨σ,z,m,g,g',_,e,_⟩:=hn i hi
  rw [e,List.mem_singleton] at hc;subst hc;rfl
 ·obtain ⟨σ,z,m,g,g',e1,e2,e3⟩:=hn i hi
  rw [e2] at hj
  cases j with
  | zero=>
    simp only [List.getElem?_cons_zero,Option.some.injEq] at hj
    subst hj
    refine ⟨.sl σ z m g,by rw [e1];rfl,fun u hu=> ?_⟩
    exact Rep.sl_row hu e3
  | succ j=>simp at hj
theorem rowEq2 {f f':Nat→List PV} (h0:f 0=f' 0) (h1:f 1=f' 1):RowEq 2 f f':=fun i hi=>by
 match i,hi with
 | 0,_=>exact h0
 | 1,_=>exact h1
namespace TE
def c3L1:C:=(sr [kb 87 .lss 86 (cn 8)] (.seq (.cond 87 .skip (.exit 0)) (.seq (.block 1 (.seq (.drw [kt 89 9 4,kt 90 4 5,km 91 3,kc 92 12 [91,(cn 120)],km 93 3,kc 94 12 [93,(cn 10)],km 95 3,kc 96 12 [95,(cn 60)],kc 97 11 [89,90,92,94,96],km 88 97,ke 98 88 0,ke 99 88 1,ke 100 88 2,kk 18 (.al [z0,z0,(.nil 3),(.nil 2)]),kk 19 (.al [z0,z0,z0,z0,z0,z0,z0]),kx 4 18 98,kx 7 19 99,km 20 100] (pl [(0,[1,2,3,4,5,6,7,13,14],89),(1,[2,3,4,5,6,7,13,14],90),(2,[4,6,13,14],91),(3,[4,6,13,14],92),(4,[6,13,14],93),(5,[6,13,14],94),(6,[13,14],95),(7,[13,14],96),(8,[13,14],97),(9,[13,14],88),(10,[11,12,13,14],98),(11,[12,13,14,15],99),(12,[13,14,15,16],100),(13,[14],18)])) (.seq (.drw [kt 102 2 8,km 103 10,kt 104 7 19,kc 105 14 [104],km 106 3,kc 107 12 [106,(cn 30)],kk 108 (.bs 3 1 [105,107]),kc 109 13 [102,103,108],km 101 109,ke 110 101 0,ke 111 101 1,ke 112 101 2,km 21 110,km 22 111,km 23 112] (pl [(0,[1,2,3,4,5,6],102),(1,[2,3,4,5,6],103),(2,[4],104),(3,[4],105),(9,[10,11],110),(10,[11,12],111),(11,[12,13],112)])) (.seq (sr [km 113 20,km 114 23,kb 115 .add 113 114,kb 116 .neq 115 (cn 0),km 117 116,kg 118 117 false (.mv 22),kg 119 117 false (.len 118),kg 120 117 false (.bi false .neq 119 (cn 2)),kk 121 (.pick 117 ct 120)] (.cond 121 (sr [kk 2 (.mv cf)] .ret) .skip)) (sr [km 122 22,ki 123 1 122 (cn 1),kl 124 123,km 24 124] (.seq (.drw [kt 126 9 6,kt 127 4 7,km 128 24,km 129 3,kc 130 12 [129,(cn 10)],km 131 3,kc 132 12 [131,(cn 60)],kc 133 11 [126,127,128,130,132],km 125 133,ke 134 125 0,ke 135 125 1,ke 136 125 2,kk 25 (.al [z0,z0,(.nil 3),(.nil 2)]),kk 26 (.al [z0,z0,z0,z0,z0,z0,z0]),kx 4 25 134,kx 7 26 135,km 27 136] (pl [(0,[1,2,3,4,5,6,12,13],126),(1,[2,3,4,5,6,12,13],127),(2,[3,4,5,6,12,13],128),(3,[5,12,13],129),(4,[5,12,13],130),(5,[12,13],131),(6,[12,13],132),(7,[12,13],133),(8,[12,13],125),(9,[10,11,12,13],134),(10,[11,12,13,14],135),(11,[12,13,14,15],136),(12,[13],25)])) (.seq (.drw [kt 138 2 9,km 139 12,kt 140 7 26,kc 141 14 [140],kk 142 (.bs 3 1 [141,(cn 0)]),kc 143 13 [138,139,142],km 137 143,ke 144 137 0,ke 145 137 1,ke 146 137 2,km 28 144,km 29 145,km 30 146] (pl [(0,[1,2,3,4],138),(1,[2,3,4],139),(7,[8,9],144),(8,[9,10],145),(9,[10,11],146)])) (.seq (sr [km 147 27,km 148 30,kb 149 .add 147 148,kb 150 .neq 149 (cn 0),km 151 150,kg 152 151 false (.mv 29),kg 153 151 false (.len 152),kg 154 151 false (.bi false .neq 153 (cn 2)),kk 155 (.pick 151 ct 154),km 156 155,kg 157 156 false (.mv 21),kg 158 156 false (.len 157),kg 159 156 false (.bi false .neq 158 (cn 1)),kk 160 (.pick 156 ct 159),km 161 160,kg 162 161 false (.mv 28),kg 163 161 false (.len 162),kg 164 161 false (.bi false .neq 163 (cn 1)),kk 165 (.pick 161 ct 164)] (.cond 165 (sr [kk 2 (.mv cf)] .ret) .skip)) (.seq (.drw [km 166 15,kf 167 0 19,kl 168 167,kf 169 1 19,kl 170 169,kb 171 .sub 168 170,kf 172 1 26,kl 173 172,kb 174 .sub 171 173,km 175 29,ki 176 1 175 (cn 1),kl 177 176,kb 178 .sub 174 177,kb 179 .add 166 178,km 15 179] (pl [(0,[1,2,3,4,5,6,7,8,9,10,11,12],166),(1,[3,4,6,7,9,10,11],167),(2,[3,4,6,7,9,10,11],168),(3,[6,7,9,10,11],169),(4,[6,7,9,10,11],170),(5,[6,7,9,10,11],171),(6,[9,10,11],172),(7,[9,10,11],173),(8,[9,10,11],174)])) (.seq (.drw [km 180 10,ki 181 1 180 (cn 0),kt 182 1 181,kc 183 15 [182],km 184 16,kt 185 7 19,kc 186 14 [185],kb 187 .mul 184 186,kb 188 .add 183 187,km 189 21,ki 190 1 189 (cn 0),kt 191 1 190,kc 192 15 [191],kb 193 .sub 188 192,km 31 193] (pl [(0,[4,5,9,10,11],180),(1,[4,5,9,10,11],181),(2,[4,5,9,10,11],182),(3,[4,5,9,10,11],183),(4,[5,6,9,10,11,12],184),(5,[9,10,11],185),(6,[9,10,11],186),(7,[9,10,11,12],187),(8,[9,10,11,12],188)])) (.seq (sr [km 194 31,kb 195 .lss 194 (cn 0),km 196 195,kg 197 196 false (.mv 31),kg 198 196 false (.mv 16),kg 199 196 false (.bi false .rem 197 198),kg 200 196 false (.bi false .neq 199 (cn 0)),kk 201 (.pick 196 ct 200)] (.cond 201 (sr [kk 2 (.mv cf)] .ret) .skip)) (sr [km 202 15,km 203 24,km 204 31,km 205 16,kb 206 .quo 204 205,kb 207 .sub 203 206,kb 208 .add 202 207,km 15 208] (.drw [kt 209 4 18,kt 210 4 25,km 211 21,km 212 28,kx 4 5 209,kx 4 7 210,km 10 211,km 12 212] (pl [(0,[1,2,3],209),(1,[2,3,4],210),(2,[3,4,5],211),(3,[4,5,6],212)])))))))))))))) (.reg [kb 213 .add 86 (cn 1),km 86 213]))))
def c3:C:=(sr [kk 2 (.mv cf)] (sr [km 33 0,kc 34 7 [33],km 3 34] (sr [km 36 3,kc 37 8 [36],km 35 37,ke 38 35 0,ke 39 35 1,kk 4 (.al [(.nil 2),z0,z0,z0,z0,z0,(.nil 6),(.nil 3),z0]),kk 5 (.al [z0,z0,(.nil 3),(.nil 2)]),kx 9 4 38,kx 4 5 39] (sr [km 41 3,kc 42 8 [41],km 40 42,ke 43 40 0,ke 44 40 1,kk 6 (.al [(.nil 2),z0,z0,z0,z0,z0,(.nil 6),(.nil 3),z0]),kk 7 (.al [z0,z0,(.nil 3),(.nil 2)]),kx 9 6 43,kx 4 7 44] (sr [km 45 3,kc 46 9 [45],kk 47 (.bd [z0,z0,(.nil 1),z0] [(0,1,(cn 0)),(1,1,(cn 1)),(2,2,46)]),kk 48 (.bs 42 4 [47]),kk 49 (.bd [z0,(.nil 4)] [(0,1,(cn 2)),(1,1,48)]),kk 8 (.al [z0,(.nil 4)]),kx 2 8 49] (sr [km 50 3,kc 51 9 [50],kk 52 (.bd [z0,z0,(.nil 1),z0] [(0,1,(cn 0)),(1,1,(cn 1)),(2,2,51)]),kk 53 (.bs 42 4 [52]),kk 54 (.bd [z0,(.nil 4)] [(0,1,(cn 2)),(1,1,53)]),kk 9 (.al [z0,(.nil 4)]),kx 2 9 54] (sr [kt 56 2 8,kc 57 10 [56],km 55 57,ke 58 55 0,ke 59 55 1,km 10 58,km 11 59] (sr [kt 61 2 9,kc 62 10 [61],km 60 62,ke 63 60 0,ke 64 60 1,km 12 63,km 13 64] (.seq (sr [km 65 11,km 66 13,kb 67 .add 65 66,kb 68 .neq 67 (cn 0)] (.cond 68 (sr [kk 2 (.mv cf)] .ret) .skip)) (sr [kf 69 0 5,kl 70 69,kf 71 0 7,kl 72 71,kb 73 .add 70 72,km 14 73] (sr [kk 15 (.mv (cn 0))] (.seq (.drw [kf 74 1 8,kl 75 74,ki 76 4 75 (cn 0),kf 77 2 76,kf 78 1 77,kl 79 78,kf 80 1 9,kl 81 80,ki 82 4 81 (cn 0),kf 83 2 82,kf 84 1 83,kl 85 84,km 16 79,km 17 85] (pl [(0,[6,7,8,9,10,11],74),(1,[6,7,8,9,10,11],75),(2,[6,7,8,9,10,11],76),(3,[6,7,8,9,10,11],77),(4,[6,7,8,9,10,11],78),(5,[6,7,8,9,10,11],79),(6,[12],80),(7,[12],81),(8,[12],82),(9,[12],83),(10,[12],84),(11,[12],85)])) (.seq (sr [kk 86 (.mv (cn 0))] (.block 0 (.loop c3L1))) (.seq (.drw [kf 214 0 5,kl 215 214,kf 216 0 7,kl 217 216,kb 218 .add 215 217,km 219 14,kb 220 .sub 218 219,km 221 16,kb 222 .mul 220 221,km 223 17,kb 224 .mul 222 223,km 225 10,ki 226 1 225 (cn 0),kt 227 1 226,kc 228 15 [227],km 229 17,kb 230 .mul 228 229,kb 231 .add 224 230,km 232 12,ki 233 1 232 (cn 0),kt 234 1 233,kc 235 15 [234],km 236 16,kb 237 .mul 235 236,kb 238 .add 231 237,km 32 238] (pl [(0,[2,3,5,7,9,11,12,13,14,15,16,18,19,20,21,22,23],214),(1,[2,3,5,7,9,11,12,13,14,15,16,18,19,20,21,22,23],215),(2,[5,7,9,11,12,13,14,15,16,18,19,20,21,22,23],216),(3,[5,7,9,11,12,13,14,15,16,18,19,20,21,22,23],217),(4,[5,7,9,11,12,13,14,15,16,18,19,20,21,22,23],218),(5,[7,9,11,12,13,14,15,16,18,19,20,21,22,23],219),(6,[7,9,11,12,13,14,15,16,18,19,20,21,22,23],220),(7,[9,11,12,13,14,15,16,18,19,20,21,22,23],221),(8,[9,11,12,13,14,15,16,18,19,20,21,22,23],222),(9,[11,12,13,14,15,16,18,19,20,21,22,23],223),(10,[11,12,13,14,15,16,18,19,20,21,22,23],224),(11,[15,18,19,20,22],225),(12,[15,18,19,20,22],226),(13,[15,18,19,20,22],227),(14,[15,18,19,20,22],228),(15,[18,19,20,21,22,23],229),(16,[18,19,20,21,22,23],230),(17,[18,19,20,21,22,23],231),(18,[22],232),(19,[22],233),(20,[22],234),(21,[22],235)])) (sr [km 239 32,km 240 15,km 241 16,kb 242 .mul 240 241,km 243 17,kb 244 .mul 242 243,kb 245 .eql 239 244,km 246 245,kg 247 246 true (cl 16 []),kk 248 (.pick 246 247 cf),km 2 248] .ret)))))))))))))))
theorem fits3:fits Tryz.prog false Tryz.f3 1 249 [(2,none)]=some c3.er:=by kernel_rfl
theorem rch_den (d:Dk):(rchF d).den≤20:=by
 obtain ⟨⟨h1,h2⟩,h3⟩:=rcI_made ((nxt d 5).toNat+1) ([],0,nxtD d 5) ⟨fun i hi=>by simp at hi,rfl⟩
 have hk:=(reachF_ok d).1
 have h4:=take_rng h1 _ (Nat.le_refl _)
 rw [take_all,h2] at h4
 change 0≤(reachF d).2.1∧(reachF d).2.1≤4*((reachF d).1.length:Int) at h4
 show (reachF d).2.1≤20
 omega
theorem wv_sum {r:Rch} {w:List Int} (hw:WvOK r w):0≤w.sum:=by
 have:=take_rng hw.rng w.length (Nat.le_refl _)
 rw [take_all] at this
 exact this.1
structure Cs where
 i:Nat
 s:Ds
 t:Ds
 p:List Int
 q:List Int
 d:Dk
 bal:Int
structure CsOK (a b:Dm) (r q:Rch) (g:Int) (x:Cs):Prop where
 hi:x.i≤8
 hs:DsOK a x.s
 ht:DsOK b x.t
 hp:WvOK r x.p
 hq:WvOK q x.q
 hd:x.d.at_≤1000+6*x.i
 pb:x.p.sum≤202380*x.i
 qb:x.q.sum≤36628980*x.i
 bb: -(400000000*x.i)≤x.bal∧x.bal≤400000000*x.i
 eq:(x.s.vol+x.t.vol - g)*r.den*q.den+x.p.sum*q.den+x.q.sum*r.den=x.bal*r.den*q.den
theorem cas_eq {sv tv g m n P Q bal inf lo1 lo2 F G o1 l1 o2 sv' tv' P' Q':Int} (h0:(sv+tv - g)*m*n+P*n+Q*m=bal*m*n) (h1:sv'+F+lo1=sv+inf) (h2:P'+m*o1=P+F*m) (h3:tv'+G+lo2=tv+(o1+l1)) (h4:Q'+n*o2=Q+G*n):
  (sv'+tv' - g)*m*n+P'*n+Q'*m=(bal+(inf - lo1 - lo2 - (o2+0))+(o1+l1 - o1))*m*n:=by
 obtain rfl:sv'=sv+inf - F - lo1:=by omega
 obtain rfl:tv'=tv+(o1+l1) - G - lo2:=by omega
 obtain rfl:P'=P+F*m - m*o1:=by omega
 obtain rfl:Q'=Q+G*n - n*o2:=by omega
 grind
theorem mul_sgn {a b:Int} (A B:Int) (h1: -A≤a∧a≤A) (h2:0≤b∧b≤B): -(A*B)≤a*b∧a*b≤A*B:=by
 have h3:A*b≤A*B:=Int.mul_le_mul_of_nonneg_left h2.2 (by omega)
 have h4:a*b≤A*b:=Int.mul_le_mul_of_nonneg_right h1.2 h2.1
 have h5: -A*b≤a*b:=Int.mul_le_mul_of_nonneg_right h1.1 h2.1
 rw [Int.neg_mul] at h5
 omega
theorem wv_nil (r:Rch):WvOK r []:=⟨Nat.zero_le _,fun h=>absurd h (Nat.lt_irrefl _),fun i hi=>absurd hi (Nat.not_lt_zero _)⟩
theorem PureCall.val_sem {P:Program} {f:FuncId} {args:List PV} {bs:List SE} {val val':PV} {st news:List SE} (h:PureCall P f args bs ⟨val,st,news⟩) (hs:∀(X:Cx) (γ:Gh) (w:World) (v:Value),Rep X γ w val v→Rep X γ w val' v):PureCall P f args bs ⟨val',st,news⟩:=
 ⟨h.1,fun w γ aas ls vals h1 h2 h3=>(h.2 w γ aas ls vals h1 h2 h3).mono fun _ _ ⟨v,γ',e,hr,rest⟩=>⟨v,γ',e,hs _ _ _ _ hr,rest⟩⟩
theorem call10e (τ:Nat) (r:Rch) (h:RcOK r):PureCall Tryz.prog 10 [.agg (eRi τ r)] [] ⟨.tup [.sl 0 1 1 (fl (eWv 0) [[]]), .int .i64 0], [], []⟩:=
 PureCall.val_sem (call10 τ r h) fun X γ w v hv=>by
  cases hv with
  | tup cs vs hl hh=>
    refine .tup _ vs hl fun k c u hk hu=> ?_
    match k,hk with
    | 0,hk=>
      injection hk with hk;subst hk
      refine (hh 0 _ u rfl hu).sl_nest fun i hi=> ?_
      obtain rfl:i=0:=by omega
      exact ⟨0,1,0,_,_,rfl,rfl,rowEq0 _ _⟩
    | 1,hk=>
      injection hk with hk;subst hk
      exact hh 1 _ u rfl hu
theorem call3_of (h16:PureCall Tryz.prog 16 [] [] ⟨.bool true, [], []⟩) (l:List Int):PureCall Tryz.prog 3 [.sl 1 1 l.length (fl eInt l)] [] ⟨.bool true, [], []⟩:=by
 refine pure_call mix Tryz.func3 fits3 rfl ?_
 conv=>whnf
 refine ⟨_,fun _=>call_new 1 l, ?_⟩
 conv=>whnf
 refine ⟨_,fun _=>call8 ⟨l,0⟩ (by dsimp only;omega), ?_⟩
 have a1:=damF_at ⟨l,0⟩
 obtain ⟨ha,hs,hac⟩:=dam_made ⟨l,0⟩
 generalize damF ⟨l,0⟩=D at a1 ha hs hac⊢
 obtain ⟨a,s0,d1⟩:=D
 dsimp only at a1 ha hs hac⊢
 conv=>whnf
 refine ⟨_,fun _=>call8 d1 (by omega), ?_⟩
 have a2:=damF_at d1
 obtain ⟨hb,ht,hbc⟩:=dam_made d1
 generalize damF d1=D at a2 hb ht hbc⊢
 obtain ⟨b,t0,d2⟩:=D
 dsimp only at a2 hb ht hbc⊢
 conv=>whnf
 refine ⟨_,fun _=>call9r d2 (by omega), ?_⟩
 have a3:=(reachF_ok d2).2
 have hr:=rch_made d2
 have hrd:=rch_den d2
 generalize (reachF d2).2.2=d3 at a3⊢
 generalize rchF d2=r at hr hrd⊢
 conv=>whnf
 refine ⟨_,fun _=>call9r d3 (by omega), ?_⟩
 have a4:=(reachF_ok d3).2
 have hq:=rch_made d3
 have hqd:=rch_den d3
 generalize (reachF d3).2.2=d4 at a4⊢
 generalize rchF d3=q at hq hqd⊢
 conv=>whnf
 have qr:RowEq 1 (fun i=> [[PV.int .i64 0,PV.int .i64 1,PV.sl 0 1 r.ws.length (fl eInt r.ws),PV.int .i64 r.den]].getD i []) (fl (eLr 0) [r]):=rowEq1 rfl
 have qq:RowEq 1 (fun i=> [[PV.int .i64 0,PV.int .i64 1,PV.sl 0 1 q.ws.length (fl eInt q.ws),PV.int .i64 q.den]].getD i []) (fl (eLr 0) [q]):=rowEq1 rfl
 have tr:tauR [[PV.int .i64 0,PV.int .i64 1,PV.sl 0 1 r.ws.length (fl eInt r.ws),PV.int .i64 r.den]]≤1:=Nat.zero_le 1
 have tq:tauR [[PV.int .i64 0,PV.int .i64 1,PV.sl 0 1 q.ws.length (fl eInt q.ws),PV.int .i64 q.den]]≤1:=Nat.zero_le 1
 refine ⟨_,fun _=>PureCall.arg_le (call10e 2 r hr) rfl (by exact ent), ?_⟩
 conv=>whnf
 refine ⟨_,fun _=>PureCall.arg_le (call10e 2 q hq) rfl (by exact ent), ?_⟩
 conv=>whnf
 refine ⟨by exact g0,fun h=>(by cases h),fun _=> ?_⟩
 conv=>whnf
 refine ⟨rfl, ?_⟩
 have vs:=hs.vol
 have vt:=ht.vol
 have dr:=hr.den
 have dq:=hq.den
 conv=>whnf
 refine ⟨by exact g0, ?_⟩
 refine LSem.loop (n:=249) mix (α:=Cs) (CsOK a b r q (s0.vol+t0.vol))
  (fun x=> [(3, .pt 544 0 0),(4, .pt 64 0 0),(5, .pt 80 0 0),(6, .pt 96 0 0),(7, .pt 112 0 0),(8, .pt 128 0 0),(9, .pt 144 0 0),(10, .sl 1 1 1 (fl (eWv 0) [x.p])),(12, .sl 1 1 1 (fl (eWv 0) [x.q])),(14, .int .i64 (s0.vol+t0.vol)),(15, .int .i64 x.bal),(16, .int .i64 r.den),(17, .int .i64 q.den),(86, .int .i64 x.i)])
  (fun x=> [(544, .box (eDk 1 x.d)),(64, .box (eDm 1 a)),(80, .box (eDs 1 x.s)),(96, .box (eDm 1 b)),(112, .box (eDs 1 x.t)),(128, .box (eRi 1 r)),(144, .box (eRi 1 q))]) (fun x=>8 - x.i) ⟨0,s0,t0, [], [],d4,0⟩ ?_ ?_ ?_
 ·refine ⟨Nat.zero_le _,hs,ht,wv_nil _,wv_nil _,by dsimp only;omega,by simp,by simp,by simp, ?_⟩
  dsimp only
  rw [Int.sub_self]
  simp
 ·refine ⟨rfl,rfl, ?_, ?_⟩<;>exact ent
 intro x hx
 have hi:=hx.hi
 conv=>whnf
 refine ⟨trivial,fun hc=> ?_,fun hc=> ?_⟩
 ·replace hc:=of_decide_eq_true hc
  have hc:(x.i:Int)<8:=hc
  conv=>whnf
  refine ⟨_,fun _=>call_next 1 x.d 120 (by have:=hx.hd;omega) (by omega), ?_⟩
  have k0:=hx.hd
  have r1:=nxt_lt x.d (n:=120) (by omega)
  have k1:=nxtD_at x.d 120
  generalize nxt x.d 120=inf at r1⊢
  generalize nxtD x.d 120=e1 at k1⊢
  conv=>whnf
  refine ⟨_,fun _=>call_next 1 e1 10 (by omega) (by omega), ?_⟩
  have r2:=nxt_lt e1 (n:=10) (by omega)
  have k2:=nxtD_at e1 10
  generalize nxt e1 10=lo1 at r2⊢
  generalize nxtD e1 10=e2 at k2⊢
  conv=>whnf
  refine ⟨_,fun _=>call_next 1 e2 60 (by omega) (by omega), ?_⟩
  have r3:=nxt_lt e2 (n:=60) (by omega)
  have k3:=nxtD_at e2 60
  generalize nxt e2 60=rel1 at r3⊢
  generalize nxtD e2 60=e3 at k3⊢
  obtain ⟨S,R,hc1,hS,hV1,hI1,hL1,hT1,hP1,hO1⟩:=step_dam (inf:=inf) (loss:=lo1) (rel:=rel1) ha hx.hs (by omega) (by omega) (by omega)
  have xs:=hx.hs.vol
  have xS:=hS.vol
  conv=>whnf
  refine ⟨_,fun _=>hc1, ?_⟩
  conv=>whnf
  refine ⟨rfl, ?_⟩
  conv=>whnf
  refine ⟨_,fun _=>call14 R (by omega) (by omega) (by omega), ?_⟩
  conv=>whnf
  refine ⟨_,fun _=>call_next 1 e3 30 (by omega) (by omega), ?_⟩
  have r4:=nxt_lt e3 (n:=30) (by omega)
  have k4:=nxtD_at e3 30
  generalize nxt e3 30=l1 at r4⊢
  generalize nxtD e3 30=e4 at k4⊢
  obtain ⟨F,hF⟩:∃F,F=R.tu+R.sp+R.ov:=⟨_,rfl⟩
  rw [←hF] at hV1⊢
  have hpn:=wv_sum hx.hp
  have hpb:=hx.pb
  have hFm:0≤F*r.den∧F*r.den≤202380:=by
   refine ⟨Int.mul_nonneg (by omega) (by omega),Int.le_trans (Int.mul_le_mul (show F≤10119 by omega) hrd (by omega) (by omega)) (by decide)⟩
  obtain ⟨W,o1,hc2,hW,hP,ho1⟩:=step_riv (l0:=F) (l1:=l1) hr hx.hp (by omega) (by omega) (by omega)
  have q2:RowEq 2 (fun i=> [[PV.int .i64 F], [PV.int .i64 l1]].getD i []) (fl eInt [F,l1]):=rowEq2 rfl rfl
  conv=>whnf
  refine ⟨_,fun _=>PureCall.arg_le (hc2 1) rfl (by exact ent), ?_⟩
  conv=>whnf
  refine ⟨rfl, ?_⟩
  conv=>whnf
  refine ⟨by exact g0,fun h=>(by cases h),fun _=> ?_⟩
  conv=>whnf
  refine ⟨_,fun _=>call_next 1 e4 10 (by omega) (by omega), ?_⟩
  have r5:=nxt_lt e4 (n:=10) (by omega)
  have k5:=nxtD_at e4 10
  generalize nxt e4 10=lo2 at r5⊢
  generalize nxtD e4 10=e5 at k5⊢
  conv=>whnf
  refine ⟨_,fun _=>call_next 1 e5 60 (by omega) (by omega), ?_⟩
  have r6:=nxt_lt e5 (n:=60) (by omega)
  have k6:=nxtD_at e5 60
  generalize nxt e5 60=rel2 at r6⊢
  generalize nxtD e5 60=e6 at k6⊢
  have hmo:o1≤r.den*o1:=by
   have:=Int.mul_le_mul_of_nonneg_right dr.1 ho1
   omega
  have hWn:=wv_sum hW
  have ho2:o1≤1821420:=by omega
  obtain ⟨T,V,hc3,hT,hV2,hI2,hL2,hT2,hP2,hO2⟩:=step_dam (inf:=o1+l1) (loss:=lo2) (rel:=rel2) hb hx.ht (by omega) (by omega) (by omega)
  have xt:=hx.ht.vol
  have xT:=hT.vol
  conv=>whnf
  refine ⟨_,fun _=>hc3, ?_⟩
  conv=>whnf
  refine ⟨rfl, ?_⟩
  conv=>whnf
  refine ⟨_,fun _=>call14 V (by omega) (by omega) (by omega), ?_⟩
  conv=>whnf
  obtain ⟨G,hG⟩:∃G,G=V.tu+V.sp+V.ov:=⟨_,rfl⟩
  rw [←hG] at hV2⊢
  have hqn:=wv_sum hx.hq
  have hqb:=hx.qb
  have hGn:0≤G*q.den∧G*q.den≤36628980:=by
   refine ⟨Int.mul_nonneg (by omega) (by omega),Int.le_trans (Int.mul_le_mul (show G≤1831449 by omega) hqd (by omega) (by omega)) (by decide)⟩
  obtain ⟨Z,o2,hc4,hZ,hQ,ho3⟩:=step_riv (l0:=G) (l1:=0) hq hx.hq (by omega) (by omega) (by omega)
  have q3:RowEq 2 (fun i=> [[PV.int .i64 G], [PV.int .i64 0]].getD i []) (fl eInt [G,0]):=rowEq2 rfl rfl
  refine ⟨_,fun _=>PureCall.arg_le (hc4 1) rfl (by exact ent), ?_⟩
  conv=>whnf
  refine ⟨rfl, ?_⟩
  conv=>whnf
  rw [show ([F,o1+l1]:List Int).getD (Int.toNat 1) default=o1+l1 from rfl]
  refine ⟨by exact g0,fun h=>(by cases h),fun _=> ?_⟩
  have hno:o2≤q.den*o2:=by
   have:=Int.mul_le_mul_of_nonneg_right dq.1 ho3
   omega
  have hZn:=wv_sum hZ
  have ho4:o2≤329660820:=by omega
  have hbal:=hx.bb
  conv=>whnf
  rw [show ([G,o2+0]:List Int).getD (Int.toNat 1) default=o2+0 from rfl]
  refine ⟨rfl, ?_⟩
  conv=>whnf
  have hwl:=hx.hp.le
  have hWl:=hW.le
  have hrl:=hr.n
  refine ⟨_,fun _=>call15 _ x.p (by omega) hx.hp.rng, ?_⟩
  conv=>whnf
  refine ⟨_,fun _=>call14 R (by omega) (by omega) (by omega), ?_⟩
  rw [←hF]
  conv=>whnf
  refine ⟨_,fun _=>call15 _ W (by omega) hW.rng, ?_⟩
  conv=>whnf
  refine ⟨rfl, ?_⟩
  conv=>whnf
  have hcm:r.den*F=F*r.den:=Int.mul_comm _ _
  obtain ⟨cm,hc5⟩:∃cm,cm=r.den*o1:=⟨_,rfl⟩
  have hcame:x.p.sum+r.den*F - W.sum=cm:=by omega
  have htd:Int.tdiv cm r.den=o1:=by rw [hc5];exact Int.mul_tdiv_cancel_left _ (by omega)
  have htm:Int.tmod cm r.den=0:=by rw [hc5];exact Int.mul_tmod_right _ _
  rw [hcame]
  refine ⟨by exact g0,fun h=> ?_,fun _=> ?_⟩
  ·exfalso
   have h:(bif decide (cm<0) then true else (Int.tmod cm r.den != 0))=true:=h
   simp only [bp] at h
   omega
  conv=>whnf
  refine ⟨rfl, ?_⟩
  conv=>whnf
  rw [htd]
  refine ⟨by exact g0,⟨x.i+1,S,T,W,Z,e6,x.bal+(R.inf - R.loss - V.loss - (o2+0))+(o1+l1 - o1)⟩, ?_, ?_,rfl,rfl, ?_, ?_⟩
  ·refine ⟨by dsimp only;omega,hS,hT,hW,hZ,by dsimp only;omega,by dsimp only;omega,by dsimp only;omega,by dsimp only;omega, ?_⟩
   dsimp only
   rw [hI1]
   exact cas_eq hx.eq hV1 hP hV2 hQ
  ·dsimp only;omega
  ·exact ent
  ·exact ent
 ·have hc:¬(x.i:Int)<8:=of_decide_eq_false hc
  have hpl:=hx.hp.le
  have hql:=hx.hq.le
  have hrl:=hr.n
  have hqn:=hq.n
  have xs:=hx.hs.vol
  have xt:=hx.ht.vol
  have hpb:=hx.pb
  have hqb:=hx.qb
  have hbb:=hx.bb
  have hpn:=wv_sum hx.hp
  have hzn:=wv_sum hx.hq
  have b1:=mul_sgn (a:=x.s.vol+x.t.vol - (s0.vol+t0.vol)) (b:=r.den) 20000 20 (by omega) (by omega)
  have b2:=mul_sgn (a:=(x.s.vol+x.t.vol - (s0.vol+t0.vol))*r.den) (b:=q.den) 400000 20 (by omega) (by omega)
  have b3:=mul_sgn (a:=x.p.sum) (b:=q.den) 10000000 20 (by omega) (by omega)
  have b4:=mul_sgn (a:=x.q.sum) (b:=r.den) 1000000000 20 (by omega) (by omega)
  have b5:=mul_sgn (a:=x.bal) (b:=r.den) 10000000000 20 (by omega) (by omega)
  have b6:=mul_sgn (a:=x.bal*r.den) (b:=q.den) 200000000000 20 (by omega) (by omega)
  conv=>whnf
  refine ⟨_,fun _=>call15 _ x.p (by omega) hx.hp.rng, ?_⟩
  conv=>whnf
  refine ⟨_,fun _=>call15 _ x.q (by omega) hx.hq.rng, ?_⟩
  conv=>whnf
  refine ⟨rfl, ?_⟩
  conv=>whnf
  refine ⟨_,fun _=>h16, ?_⟩
  refine ⟨by exact g0, [], ?_⟩
  conv=>whnf
  refine ⟨rfl, ?_,trivial,trivial⟩
  rw [hx.eq,beq_self_eq_true]
  exact ent
end TE
def c209:C:=(sr [kk 2 (.mv cf)] (sr [km 3 0,km 4 0,kb 5 .neq 3 4,km 2 5] .ret))
theorem fits209:fits Tryz.prog false Tryz.f209 1 6 [(2,none)]=some c209.er:=by kernel_rfl
def c165:C:=(sr [kk 4 (.mv (cn 0))] (sr [km 7 0,kc 8 209 [7],km 5 8] (sr [km 9 1,kc 10 209 [9],km 6 10] (.seq (sr [km 11 5] (.cond 11 (.seq (sr [km 12 6] (.cond 12 (sr [kk 4 (.mv (cn 0))] .ret) .skip)) (sr [kk 4 (.mv (cn (-1)))] .ret)) .skip)) (.seq (sr [km 13 6] (.cond 13 (sr [kk 4 (.mv (cn 1))] .ret) .skip)) (.seq (sr [km 14 0,km 15 1,kb 16 .lss 14 15] (.cond 16 (sr [kk 4 (.mv (cn (-1)))] .ret) .skip)) (.seq (sr [km 17 0,km 18 1,kb 19 .gtr 17 18] (.cond 19 (sr [kk 4 (.mv (cn 1))] .ret) .skip)) (sr [kk 4 (.mv (cn 0))] .ret))))))))
theorem fits165:fits Tryz.prog false Tryz.f165 2 20 [(4,none)]=some c165.er:=by kernel_rfl
def c196:C:=(sr [kk 5 (.mv (cn 0))] (.seq (.drw [kl 6 2,km 7 0,ki 8 7 6 7,kf 9 0 8,kl 10 9,kl 11 2,km 12 1,ki 13 7 11 12,kf 14 0 13,kl 15 14,kc 16 165 [10,15],km 5 16] (pl [(0,[1,5,6,7,8,9],6),(1,[5,6,7,8,9],7),(2,[5,6,7,8,9],8),(3,[5,6,7,8,9],9),(4,[5,6,7,8,9],10),(5,[6],11)])) .ret))
theorem fits196:fits Tryz.prog false Tryz.f196 3 17 [(5,none)]=some c196.er:=by kernel_rfl
def c297L2:C:=(.seq (.seq (.drw [km 18 9,km 19 1,kb 20 .gtr 18 19,km 21 20,kg 22 21 true (.mv 3),kg 23 21 true (.mv 0),kg 24 21 true (.mv 9),kg 25 21 true (.ia 1 23 24),kg 26 21 true (.ld 1 false 25),kg 27 21 true (.mv 0),kg 28 21 true (.mv 9),kg 29 21 true (.bi false .sub 28 (cn 1)),kg 30 21 true (.ia 1 27 29),kg 31 21 true (.ld 1 false 30),kg 32 21 true (.call 22 [26,31]),kg 33 21 true (.bi false .lss 32 (cn 0)),kk 34 (.pick 21 33 cf)] (pl [(0,[1],18),(4,[5,6,7,8,9,10,11,12,13],22),(5,[6,9,10,11,12,13],23),(6,[9,10,11,12,13],24),(7,[9,10,11,12,13],25),(8,[9,10,11,12,13],26),(9,[10,11],27)])) (.cond 34 .skip (.exit 2))) (.seq (.block 3 (.drw [km 37 0,km 38 9,km 39 0,km 40 9,kb 41 .sub 40 (cn 1),km 42 0,km 43 9,kb 44 .sub 43 (cn 1),ki 45 1 42 44,kl 46 45,km 47 0,km 48 9,ki 49 1 47 48,kl 50 49,ki 51 1 37 38,kx 1 51 46,ki 52 1 39 41,kx 1 52 50] (pl [(0,[1,2,3,4,5,6,7,8,9,10,11,12,13],37),(1,[2,3,4,5,6,7,8,9,10,11,12,13],38),(2,[3,4,5,6,7,8,9,10,11,12,13,14,15],39),(3,[5,6,7,8,9,10,11,12,13,14,15],40),(4,[5,6,7,8,9,10,11,12,13,14,15],41),(5,[6,7,10,11,12,13],42),(6,[10,11,12,13],43),(7,[10,11,12,13],44),(8,[10,11,12,13],45),(9,[10,11,12,13],46),(10,[11],47)]))) (.reg [km 35 9,kb 36 .sub 35 (cn 1),km 9 36])))
def c297L1:C:=(.seq (sr [km 12 8,km 13 2,kb 14 .lss 12 13] (.cond 14 .skip (.exit 0))) (.seq (.block 1 (sr [km 17 8,km 9 17] (.block 2 (.loop c297L2)))) (.reg [km 15 8,kb 16 .add 15 (cn 1),km 8 16])))
def c297:C:=(sr [km 10 1,kb 11 .add 10 (cn 1),km 8 11] (.block 0 (.loop c297L1)))
theorem fits297:fits Tryz.prog false Tryz.f297 4 53 []=some c297.er:=by kernel_rfl
def c251L1:C:=(.seq (sr [km 11 8,km 12 1,kb 13 .leq 11 12] (.cond 13 .skip (.exit 0))) (.block 1 (sr [km 14 0,km 15 7,km 16 8,km 17 2,kc 18 297 [14,15,16,17]] (sr [km 19 8,km 7 19] (.reg [km 20 8,km 21 6,kb 22 .add 20 21,km 8 22])))))
def c251L3:C:=(.seq (sr [km 33 8,km 34 1,kb 35 .leq 33 34] (.cond 35 .skip (.exit 4))) (.block 5 (sr [km 36 0,km 37 7,km 38 7,km 39 6,kb 40 .add 38 39,km 41 8,km 42 2,kc 43 298 [36,37,40,41,42]] (sr [km 44 8,km 7 44] (.reg [km 45 8,km 46 6,kb 47 .mul (cn 2) 46,kb 48 .add 45 47,km 8 48])))))
def c251L2:C:=(.seq (sr [km 28 6,km 29 1,kb 30 .lss 28 29] (.cond 30 .skip (.exit 2))) (.block 3 (sr [km 31 6,kb 32 .mul (cn 2) 31,kk 7 (.mv (cn 0)),km 8 32] (.seq (.block 4 (.loop c251L3)) (.seq (sr [km 49 7,km 50 6,kb 51 .add 49 50,km 9 51] (sr [km 52 9,km 53 1,kb 54 .lss 52 53] (.cond 54 (.reg [km 55 0,km 56 7,km 57 9,km 58 1,km 59 2,kc 60 298 [55,56,57,58,59]]) .skip))) (.reg [km 61 6,kb 62 .mul 61 (cn 2),km 6 62]))))))
def c251:C:=(sr [kk 6 (.mv (cn 20))] (sr [km 10 6,kk 7 (.mv (cn 0)),km 8 10] (.seq (.block 0 (.loop c251L1)) (sr [km 23 0,km 24 7,km 25 1,km 26 2,kc 27 297 [23,24,25,26]] (.block 2 (.loop c251L2))))))
theorem fits251:fits Tryz.prog false Tryz.f251 3 63 []=some c251.er:=by kernel_rfl
def c195:C:=(.reg [km 4 0,km 5 0,kk 6 (.len 5),km 7 1,kc 8 251 [4,6,7]])
theorem fits195:fits Tryz.prog false Tryz.f195 2 9 []=some c195.er:=by kernel_rfl
theorem call209 (n:Int):PureCall Tryz.prog 209 [.int .i64 n] [] ⟨.bool false, [], []⟩:=by
 refine pure_call mix Tryz.func209 fits209 rfl ?_
 conv=>whnf
 refine ⟨?_, [], ?_⟩
 ·exact g0
 conv=>whnf
 refine ⟨rfl, ?_,trivial,trivial⟩
 all_goals repeat' (first | exact True.intro | refine leF_cons rfl ?_ ?_ | refine leS_cons rfl ?_ ?_ | (show PLe _ _ _ _;conv=>whnf) | (show SLe _ _ _ _;conv=>whnf) | (show PLeL _ _ _ _;conv=>whnf) | apply And.intro | rfl | exact Nat.le_refl _ | exact fun _ _=>rfl | exact rowEq0 _ _)
 simp
def cmpI (a b:Int):Int:=if a<b then -1 else if b<a then 1 else 0
theorem cmpI_lt {a b:Int}:cmpI a b<0↔a<b:=by
 unfold cmpI
 by_cases h1:a<b
 ·simp [h1]
 ·by_cases h2:b<a<;>simp [h1,h2]
theorem call165 (a b:Int):PureCall Tryz.prog 165 [.int .i64 a, .int .i64 b] [] ⟨.int .i64 (cmpI a b), [], []⟩:=by
 refine pure_call mix Tryz.func165 fits165 rfl ?_
 conv=>whnf
 refine ⟨_,fun _=>call209 a, ?_⟩
 conv=>whnf
 refine ⟨_,fun _=>call209 b, ?_⟩
 conv=>whnf
 refine ⟨?_,fun hc=>(by cases hc),fun _=> ?_⟩
 ·exact g0
 conv=>whnf
 refine ⟨?_,fun hc=>(by cases hc),fun _=> ?_⟩
 ·exact g0
 conv=>whnf
 refine ⟨?_,fun hc=> ?_,fun hc=> ?_⟩
 ·exact g0
 ·have h:cmpI a b= -1:=if_pos (of_decide_eq_true hc)
  rw [h]
  conv=>whnf
  refine ⟨?_, [], ?_⟩
  ·exact g0
  conv=>whnf
  refine ⟨rfl, ?_,trivial,trivial⟩
  all_goals exact ent
 have h1:¬a<b:=of_decide_eq_false hc
 conv=>whnf
 refine ⟨?_,fun hc=> ?_,fun hc=> ?_⟩
 ·exact g0
 ·have h:cmpI a b=1:=by unfold cmpI;rw [if_neg h1,if_pos (of_decide_eq_true hc)]
  rw [h]
  conv=>whnf
  refine ⟨?_, [], ?_⟩
  ·exact g0
  conv=>whnf
  refine ⟨rfl, ?_,trivial,trivial⟩
  all_goals exact ent
 ·have h:cmpI a b=0:=by unfold cmpI;rw [if_neg h1,if_neg (of_decide_eq_false hc)]
  rw [h]
  conv=>whnf
  refine ⟨?_, [], ?_⟩
  ·exact g0
  conv=>whnf
  refine ⟨rfl, ?_,trivial,trivial⟩
  all_goals exact ent
def rkC (l:List Cd) (i:Int):Int:=(l.getD i.toNat default).r
theorem call196 (σ τ:Nat) (l:List Cd) (hl:l.length≤4611686018427387904) (a b:Int) (ha:0≤a∧a<l.length) (hb:0≤b∧b<l.length):
  PureCall Tryz.prog 196 [.int .i64 a, .int .i64 b, .rp σ [.sl τ 7 l.length (fl eCd l)]] [] ⟨.int .i64 (cmpI (rkC l a) (rkC l b)), [], []⟩:=by
 refine pure_call mix Tryz.func196 fits196 rfl ?_
 conv=>whnf
 refine ⟨_,fun _=>call165 _ _, ?_⟩
 conv=>whnf
 refine ⟨rfl, ?_⟩
 conv=>whnf
 refine ⟨?_, [], ?_⟩
 ·exact g0
 conv=>whnf
 refine ⟨rfl, ?_,trivial,trivial⟩
 all_goals exact ent
def swp (g:Nat→Int) (j:Nat):Nat→Int:=fun k=>if k=j then g (j+1) else if k=j+1 then g j else g k
def sink (rk:Int→Int):(Nat→Int)→Nat→Nat→Int
 | g,0=>g
 | g,j+1=>if rk (g (j+1))<rk (g j) then sink rk (swp g j) j else g
def insN (rk:Int→Int) (g:Nat→Int):Nat→Nat→Int
 | 0=>g
 | i+1=>sink rk (insN rk g i) i
def eR (g:Nat→Int):Nat→List PV:=fun k=> [PV.int .i64 (g k)]
theorem sink_in {rk:Int→Int} {p:Int→Prop} {n:Nat}:∀(j:Nat) (g:Nat→Int),j<n→(∀k,k<n→p (g k))→∀k,k<n→p (sink rk g j k)
 | 0,g,_,h=>h
 | j+1,g,hj,h=>by
   unfold sink
   split
   ·refine sink_in j _ (by omega) fun k hk=> ?_
    unfold swp
    split
    ·exact h _ hj
    ·split
     ·exact h _ (by omega)
     ·exact h _ hk
   ·exact h
theorem insN_in {rk:Int→Int} {p:Int→Prop} {n:Nat} (g:Nat→Int) (h:∀k,k<n→p (g k)):∀i,i≤n→∀k,k<n→p (insN rk g i k)
 | 0,_=>h
 | i+1,hi=>sink_in i _ (by omega) (insN_in g h i (by omega))
theorem call297 (σ τ:Nat) (l:List Cd) (hl:l.length≤4611686018427387904) (n:Nat) (hn:n≤4611686018427387904) (g:Nat→Int) (hg:∀k,k<n→0≤g k∧g k<l.length):
  PureCall Tryz.prog 297 [.os 0, .int .i64 0, .int .i64 n, .fn (.func 196) [] [.rp σ [.sl τ 7 l.length (fl eCd l)]]] [.row 3 3 1 n (eR g)] ⟨.tup [], [.row 0 3 1 n (eR (insN (rkC l) g n))], []⟩:=by
 refine pure_write mix Tryz.func297 fits297 (.inr fun i _ c hc=>by simp [eR] at hc;subst hc;rfl) ?_
 conv=>whnf
 refine ⟨?_, ?_⟩
 ·exact g0
 refine LSem.loop (n:=53) mix (α:=Nat) (fun i=>i≤n+1∧1≤i∧(n<i→n=0))
  (fun i=> [(0, .os 0),(1, .int .i64 0),(2, .int .i64 n),(3, .fn (.func 196) [] [.rp σ [.sl τ 7 l.length (fl eCd l)]]),(8, .int .i64 i)])
  (fun i=> [(0, .row 3 3 1 n (eR (insN (rkC l) g i)))]) (fun i=>n+1 - i) 1 ?_ ?_ ?_
 ·exact ⟨by omega,Nat.le_refl _,fun h=>by omega⟩
 ·refine ⟨rfl,rfl, ?_, ?_⟩
  all_goals exact ent
 ·intro i hi
  obtain ⟨hi1,hi2,hi3⟩:=hi
  conv=>whnf
  refine ⟨trivial,fun hc=> ?_,fun hc=> ?_⟩
  ·replace hc:=of_decide_eq_true hc
   have hlt:i<n:=by omega
   conv=>whnf
   refine ⟨trivial, ?_⟩
   refine LSem.loop (n:=53) mix (α:=Nat×(Nat→Int)) (fun x=>x.1≤i∧sink (rkC l) x.2 x.1=insN (rkC l) g (i+1)∧∀k,k<n→0≤x.2 k∧x.2 k<l.length)
    (fun x=> [(0, .os 0),(1, .int .i64 0),(2, .int .i64 n),(3, .fn (.func 196) [] [.rp σ [.sl τ 7 l.length (fl eCd l)]]),(8, .int .i64 i),(9, .int .i64 x.1)])
    (fun x=> [(0, .row 3 3 1 n (eR x.2))]) (fun x=>x.1) (i,insN (rkC l) g i) ?_ ?_ ?_
   ·exact ⟨Nat.le_refl _,rfl,insN_in (p:=fun x=>0≤x∧x<l.length) g hg i (by omega)⟩
   ·refine ⟨rfl,rfl, ?_, ?_⟩
    all_goals exact ent
   ·rintro ⟨j,h⟩ ⟨hj,hs,hin⟩
    dsimp only at hj hs hin⊢
    rcases Nat.eq_zero_or_pos j with h0 | h0
    ·subst h0
     conv=>whnf
     refine ⟨⟨.int .i64 0, [], []⟩,fun hg=>by simp at hg, ?_⟩
     conv=>whnf
     refine ⟨rfl, ?_⟩
     conv=>whnf
     refine ⟨?_,fun hc=>by simp at hc,fun _=> ?_⟩
     ·exact g0
     conv=>whnf
     refine ⟨?_,i+1,⟨by omega,by omega,fun h=>by omega⟩,by omega,rfl,rfl, ?_, ?_⟩
     ·exact g0
     all_goals repeat' (first | exact True.intro | refine leF_cons rfl ?_ ?_ | refine leS_cons rfl ?_ ?_ | (show PLe _ _ _ _;conv=>whnf) | (show SLe _ _ _ _;conv=>whnf) | (show PLeL _ _ _ _;conv=>whnf) | apply And.intro | rfl | exact Nat.le_refl _ | exact fun _ _=>rfl | exact rowEq0 _ _)
     all_goals (intro k hk;show eR h k=eR (insN (rkC l) g (i+1)) k;rw [←hs];rfl)
    obtain ⟨j,rfl⟩:∃j',j=j'+1:=⟨j - 1,by omega⟩
    have e1:((j+1:Nat):Int).toNat=j+1:=by omega
    have e2:(((j+1:Nat):Int) - 1).toNat=j:=by omega
    conv=>whnf
    refine ⟨_,fun _=>call196 _ τ l hl (h (((j+1:Nat):Int)).toNat) (h (((j+1:Nat):Int) - 1).toNat) (by rw [e1];exact hin _ (by omega)) (by rw [e2];exact hin _ (by omega)), ?_⟩
    rw [e1,e2]
    conv=>whnf
    refine ⟨rfl, ?_⟩
    conv=>whnf
    refine ⟨?_,fun hc=> ?_,fun hc=> ?_⟩
    ·exact g0
    ·simp only [bp] at hc
     have hlt2:rkC l (h (j+1))<rkC l (h j):=cmpI_lt.1 hc.2
     conv=>whnf
     refine ⟨rfl, ?_⟩
     conv=>whnf
     refine ⟨?_,(j,swp h j),⟨by dsimp only;omega, ?_, ?_⟩,Nat.lt_succ_self j,rfl,rfl, ?_, ?_⟩
     ·exact g0
     ·rw [←hs]
      exact (if_pos hlt2).symm
     ·intro k hk
      dsimp only
      unfold swp
      split
      ·exact hin _ (by omega)
      ·split
       ·exact hin _ (by omega)
       ·exact hin _ hk
     all_goals repeat' (first | exact True.intro | refine leF_cons rfl ?_ ?_ | refine leS_cons rfl ?_ ?_ | (show PLe _ _ _ _;conv=>whnf) | (show SLe _ _ _ _;conv=>whnf) | (show PLeL _ _ _ _;conv=>whnf) | apply And.intro | rfl | exact Nat.le_refl _ | exact fun _ _=>rfl | exact rowEq0 _ _)
     all_goals first | (show ((j+1:Nat):Int) - 1=(j:Int);omega) | skip
     all_goals
      intro k hk
      dsimp only
      rw [e1,e2]
      by_cases hkj:k=j
      ·subst hkj
       rw [if_pos rfl,if_neg (by omega)]
       simp [eR,swp,setAt,PV.cells]
      ·rw [if_neg hkj]
       by_cases hk1:k=j+1
       ·subst hk1
        rw [if_pos rfl]
        simp [eR,swp,setAt,PV.cells]
       ·rw [if_neg hk1]
        simp [eR,swp,hkj,hk1]
    ·simp only [bp] at hc
     have hge2:¬rkC l (h (j+1))<rkC l (h j):=by
      intro hh
      rcases hc with hc | hc
      ·exact hc.2 (cmpI_lt.2 hh)
      ·omega
     conv=>whnf
     refine ⟨?_,i+1,⟨by omega,by omega,fun h=>by omega⟩,by omega,rfl,rfl, ?_, ?_⟩
     ·exact g0
     all_goals repeat' (first | exact True.intro | refine leF_cons rfl ?_ ?_ | refine leS_cons rfl ?_ ?_ | (show PLe _ _ _ _;conv=>whnf) | (show SLe _ _ _ _;conv=>whnf) | (show PLeL _ _ _ _;conv=>whnf) | apply And.intro | rfl | exact Nat.le_refl _ | exact fun _ _=>rfl | exact rowEq0 _ _)
     all_goals (intro k hk;show eR h k=eR (insN (rkC l) g (i+1)) k;rw [←hs];show _=eR (sink (rkC l) h (j+1)) k;unfold sink;rw [if_neg hge2])
  ·replace hc:=of_decide_eq_false hc
   have hge:¬(i<n):=by omega
   conv=>whnf
   have hrow:RowEq n (eR (insN (rkC l) g i)) (eR (insN (rkC l) g n)):=by
    rcases Nat.lt_or_ge n i with h1 | h1
    ·rw [hi3 h1];exact rowEq0 _ _
    ·have:i=n:=by omega
     rw [this];exact fun _ _=>rfl
   exact ⟨trivial,rfl,rfl,rfl,rfl,hrow⟩
theorem call251 (σ τ:Nat) (l:List Cd) (hl:l.length≤4611686018427387904) (n:Nat) (hn:n<20) (g:Nat→Int) (hg:∀k,k<n→0≤g k∧g k<l.length):
  PureCall Tryz.prog 251 [.os 0, .int .i64 n, .fn (.func 196) [] [.rp σ [.sl τ 7 l.length (fl eCd l)]]] [.row 3 3 1 n (eR g)] ⟨.tup [], [.row 0 3 1 n (eR (insN (rkC l) g n))], []⟩:=by
 refine pure_write mix Tryz.func251 fits251 (.inr fun i _ c hc=>by simp [eR] at hc;subst hc;rfl) ?_
 conv=>whnf
 refine ⟨?_, ?_⟩
 ·exact g0
 refine LSem.loop (n:=63) mix (α:=Nat) (fun i=>True)
  (fun i=> [(0, .os 0),(1, .int .i64 n),(2, .fn (.func 196) [] [.rp σ [.sl τ 7 l.length (fl eCd l)]]),(6, .int .i64 20),(7, .int .i64 0),(8, .int .i64 20)])
  (fun i=> [(0, .row 3 3 1 n (eR g))]) (fun i=>0) 0 trivial ?_ ?_
 ·refine ⟨rfl,rfl, ?_, ?_⟩
  all_goals exact ent
 intro i _
 conv=>whnf
 refine ⟨?_,fun hc=> ?_,fun hc=> ?_⟩
 ·exact g0
 ·simp only [bp] at hc
  omega
 conv=>whnf
 refine ⟨_,fun _=>call297 _ τ l hl n (by omega) g hg, ?_⟩
 conv=>whnf
 refine ⟨?_, ?_⟩
 ·exact g0
 refine LSem.loop (n:=63) mix (α:=Nat) (fun i=>True)
  (fun i=> [(0, .os 0),(1, .int .i64 n),(6, .int .i64 20)])
  (fun i=> [(0, .row 3 3 1 n (eR (insN (rkC l) g n)))]) (fun i=>0) 0 trivial ?_ ?_
 ·refine ⟨rfl,rfl, ?_, ?_⟩
  all_goals exact ent
 intro i _
 conv=>whnf
 refine ⟨?_,fun hc=> ?_,fun hc=> ?_⟩
 ·exact g0
 ·simp only [bp] at hc
  omega
 conv=>whnf
 exact ⟨trivial,rfl,rfl,rfl,rfl,fun _ _=>rfl⟩
theorem call195 (σ τ:Nat) (l:List Cd) (hl:l.length≤4611686018427387904) (n:Nat) (hn:n<20) (g:Nat→Int) (hg:∀k,k<n→0≤g k∧g k<l.length):
  PureCall Tryz.prog 195 [.os 0, .fn (.func 196) [] [.rp σ [.sl τ 7 l.length (fl eCd l)]]] [.row 3 3 1 n (eR g)] ⟨.tup [], [.row 0 3 1 n (eR (insN (rkC l) g n))], []⟩:=by
 refine pure_write mix Tryz.func195 fits195 (.inr fun i _ c hc=>by simp [eR] at hc;subst hc;rfl) ?_
 conv=>whnf
 refine ⟨_,fun _=>call251 _ τ l hl n hn g hg, ?_⟩
 conv=>whnf
 exact ⟨g0 (P:=_),rfl,rfl,rfl,rfl,fun _ _=>rfl⟩
end Pv
end Go.Proofs.YtdcgnfkkklbckaaGreatDoor
