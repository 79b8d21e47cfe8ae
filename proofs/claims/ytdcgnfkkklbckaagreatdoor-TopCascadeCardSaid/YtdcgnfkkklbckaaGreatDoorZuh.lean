/- CALLS THAT WRITE INTO A SLICE OF THE CALLER's OWN (numbers, one cell each): a rule for a region that begins with one. -/
import Derived.Test.YtdcgnfkkklbckaaGreatDoorZuf
set_option linter.unusedSimpArgs false
set_option linter.unusedVariables false
namespace Go.Proofs.YtdcgnfkkklbckaaGreatDoor
namespace Pv
open Go.RowKit
def IntsIn (w:World) (g:Nat) (T:TypeId) (cap:Nat) (l:List Int):Prop:=
 ∃(cur:Array Value) (fz:Nat×Nat),w.heap[g]? =some (.cells cur T fz)∧fzOff cur.size fz∧l.length≤cap∧cap≤maxLen∧cur.size=cap*1∧cur.toList.take (l.length*1)=l.map (Value.int .i64)
def InPlace (P:Program) (F:FuncId) (l l':List Int) (back:Bool):Prop:=
 (∃fn,P.funcs[F]? =some fn∧fn.body.isSome=true∧(fn.name== "runtime.NumGoroutine")=false)∧
 ∀(w:World) (g cap:Nat) (T:TypeId),IntsIn w g T cap l→Calls P F #[.slice (some ⟨g,0,none⟩) l.length cap] w fun e w'=>
  e= .returned (if back then .slice (some ⟨g,0,none⟩) l'.length cap else .tuple #[])∧Keeps (· =g) w w'∧IntsIn w' g T cap l'
section
variable {P:Program} {X:Cx} {γ:Gh} {w w0:World} {may:Nat→Prop} {a:Act} {s:PS}
theorem call_wp {wr:Bool} {o:Oper} {F:FuncId} {y:A} {p:PV} {K:Act→World→Prop} {Q:Exit→Act→World→Prop} {R:Value→World→Prop}
  (hR:Rel X w0 may a w s γ) (hc:compI P wr o=some (.call (.c (.fn (.func F) [] [])) [y])) (hv:A.val s.fr y=some p)
  (hfn:∃fn,P.funcs[F]? =some fn∧fn.body.isSome=true∧(fn.name== "runtime.NumGoroutine")=false)
  (hC:∀v,Rep X γ w p v→Calls P F #[v] w fun e w'=>∃u,e= .returned u∧R u w') (hK:∀u w',R u w'→K (a.put o.dst u) w'):o.wp P a w K Q:=by
 have H:=eval_opd hR
 have hcall:∃cl f y' ys,o.op= .call cl∧cl.callee= .value f∧arg f=some y'∧mapO (fun (q:Operand×TypeId)=>argT P q.2 q.1) (cl.args.toList.zip cl.argTypes.toList)=some ys∧cl.args.size=cl.argTypes.size∧y'= .c (.fn (.func F) [] [])∧ys= [y]:=by
  revert hc
  unfold compI
  intro hc
  repeat' (split at hc)
  all_goals first
   | (cases hc;done)
   | (injection hc with hc;injection hc;done)
   | (obtain ⟨y,hy,hh⟩:=Option.map_eq_some_iff.1 hc;cases hh;done)
   | (injection hc with hc;injection hc with e1 e2
      rename_i _ cl hop _ f hcal _ _ y' ys hy hys hsz
      exact ⟨_,_,_,_,hop,hcal,hy,hys,by simpa using hsz,e1,e2⟩)
 obtain ⟨cl,f,y',ys,hop,hcal,hy,hys,hsz,rfl,rfl⟩:=hcall
 have hz:(cl.args.toList.zip cl.argTypes.toList).map (fun q=>a.eval q.1)=(cl.args.map a.eval).toList:=by
  have hl:cl.args.toList.length=cl.argTypes.toList.length:=by simpa using hsz
  have h1:(cl.args.toList.zip cl.argTypes.toList).map (fun q=>q.1)=cl.args.toList:=List.map_fst_zip (by omega)
  rw [show (fun q:Operand×TypeId=>a.eval q.1)=a.eval∘(fun q=>q.1) from rfl,←List.map_map,h1]
  simp
 have hr1:Rep X γ w (.fn (.func F) [] []) (a.eval f):=arg_rep H hy (by rfl)
 have hr2:RepL X γ w [p] (cl.args.map a.eval).toList:=by
  have:=argsT_rep (P:=P) (α:=Operand×TypeId) H (fun q=>q.2) (fun q=>q.1) (xs:=cl.args.toList.zip cl.argTypes.toList) (ys:= [y]) (ps:= [p]) hys (by simp only [valL,hv])
  rwa [hz] at this
 obtain ⟨v,us,hvs,hrv,hrus⟩:=hr2.cons_inv
 have hus:=hrus.nil_inv
 subst hus
 obtain ⟨fn,hfn1,hbody,hname⟩:=hfn
 have hfe:∀fv,Rep X γ w (.fn (.func F) [] []) fv→fv= .func (.func F) #[] #[]:=by
  intro fv h
  cases h with
  | fn _ _ _ vs us hvl hul h h'=>
    have e1:vs= []:=List.eq_nil_of_length_eq_zero hvl
    have e2:us= []:=List.eq_nil_of_length_eq_zero hul
    subst e1 e2
    rfl
 have hfe:=hfe _ hr1
 have hrun:(execOp a.eval o).run P w= .ok (.enter F #[v]) w:=by
  unfold execOp
  rw [hop]
  have hb:fn.body≠none:=by intro h;rw [h] at hbody;cases hbody
  have hnm:fn.name≠ "runtime.NumGoroutine":=by simpa using hname
  have hav:cl.args.map a.eval= #[v]:=by rw [←Array.toList_inj,hvs]
  simp [resolve,hcal,hfe,Deferred.ofValue,invoke,callFunc,hfn1,hb,hnm,hav]
 unfold Oper.wp
 rw [hrun]
 simp only [Oper.upon]
 refine (hC v hrv).mono ?_
 rintro e w' ⟨u,rfl,hu⟩
 exact hK u w' hu
theorem row_ints {ge:GE} {τ e:Nat} {f:Nat→List PV} {l:List Int} (h:RepS X γ w ge (.row τ e 1 l.length f)) (hf:RowEq l.length f (fl (fun n:Int=> [PV.int .i64 n]) l)) (hl:0<l.length):
  ∃g cap,ge.hdr= .slice (some ⟨g,0,none⟩) l.length cap∧ge.blk=some g∧ge.z=1∧IntsIn w g e cap l:=by
 obtain ⟨vs,h1,h2,h3,h4,h5⟩:=h.rows
 have hvs:vs=l.map (Value.int .i64):=by
  refine List.ext_getElem? fun j=> ?_
  have hlen:vs.length=l.length:=by rw [h5.len,Nat.mul_one]
  by_cases hj:j<l.length
  ·have hc:(f j)[0]? =some (.int .i64 (l.getD j default)):=by rw [hf j hj];rfl
   have hu:vs[j]? =some (vs[j]'(by omega)):=List.getElem?_eq_getElem (by omega)
   have:=h5.rep j 0 _ (vs[j]'(by omega)) hj hc (by rw [Nat.mul_one,Nat.add_zero];exact hu)
   have hi:vs[j]'(by omega)= .int .i64 (l.getD j default):=by
    have h6:Rep X γ w (.int .i64 (l.getD j default)) (vs[j]'(by omega)):=this
    exact h6.int_inv
   rw [hu,hi,List.getElem?_map,getD_some hj];rfl
  ·rw [List.getElem?_eq_none (by omega),List.getElem?_eq_none (by simp;omega)]
 subst hvs
 rcases h4.2 with ⟨_,h0⟩ | ⟨g,cap,cur,fz,hh,hg,hfz,hnc,hcm,hsz,htk⟩
 ·omega
 ·exact ⟨g,cap,hh,by rw [h2,hh];rfl,h1,cur,fz,hg,hfz,hnc,hcm,hsz,htk⟩
theorem ints_row {w':World} {γ':Gh} {e g cap:Nat} {l:List Int} (h:IntsIn w' g e cap l):
  RepS X γ' w' ⟨some g, .slice (some ⟨g,0,none⟩) l.length cap,1⟩ (.row 0 e 1 l.length (fl (fun n:Int=> [PV.int .i64 n]) l)):=by
 obtain ⟨cur,fz,hg,hfz,hnc,hcm,hsz,htk⟩:=h
 refine ⟨l.map (Value.int .i64),rfl,rfl,rfl,⟨by simp, .inr ⟨g,cap,cur,fz,rfl,hg,hfz,hnc,hcm,hsz,htk⟩⟩,fun u hu=> ?_,fun i hi=>rfl,fun i hi c hc=> ?_,fun i j c u hi hc hu=> ?_⟩
 ·obtain ⟨n,_,rfl⟩:=List.mem_map.1 hu;rfl
 ·have:c= .int .i64 (l.getD i default):=by simpa [fl] using hc
  subst this;rfl
 ·have hj:j=0:=by
    have:=(List.getElem?_eq_some_iff.1 hc).1
    simp [fl] at this;omega
  subst hj
  have:c= .int .i64 (l.getD i default):=by
   have h0:some (PV.int .i64 (l.getD i default))=some c:=hc
   injection h0 with h0;exact h0.symm
  subst this
  rw [Nat.mul_one,Nat.add_zero,List.getElem?_map,getD_some hi] at hu
  injection hu with hu;subst hu
  exact .int _ _
end
section
variable {P:Program} {wr:Bool} {np:Nat} {Q:Lv→PS→Prop}
theorem ents_put {X:Cx} {w0 w w':World} {may:Nat→Prop} {a:Act} {s s':PS} {γ γ':Gh} {E:Eff} {v:Value} {d:Nat} (h:Rel X w0 may a w s γ) (hE:EffOK X γ w s.st E v w' γ' s'.st) (hpk:∀r∈E.kill,r=0∨16≤r) (hn:s'.n=s.n) (hd:d<s.n)
  (hfr:s'.fr=upd (voidF E.kill s.fr) d E.val):Rel X w0 may (a.put (some d) v) w' s' γ':=by
 refine h.after hE hpk hn fun t p hp=> ?_
 rw [hfr] at hp
 by_cases ht:t=d
 ·subst ht
  rw [upd_same] at hp;injection hp with hp;subst hp
  exact .inl ⟨rfl,hd,hE.val⟩
 ·rw [upd_ne _ _ ht] at hp
  simp only [voidF] at hp
  obtain ⟨q,hq,rfl⟩:=Option.map_eq_some_iff.1 hp
  exact .inr ⟨fun h=>ht (by injection h with h;exact h.symm),q,hq,rfl⟩
def inplaceSt (n:Nat) (fr:Nat→Option PV) (st:Nat→Option SE) (log:Nat→Option LogE) (ta tb r e:Nat) (l':List Int) (back:Bool):PS:=
 match back with
 | false=>⟨n,upd (upd fr ta (.os r)) tb (.tup []),upd st r (.row 0 e 1 l'.length (fl (fun n:Int=> [PV.int .i64 n]) l')),True,log⟩
 | true=>⟨n,upd (voidF [r] (upd fr ta (.os r))) tb (.os r),upd (voidS [r] st) r (.row 0 e 1 l'.length (fl (fun n:Int=> [PV.int .i64 n]) l')),True,log⟩
theorem LSem.inplace {F:FuncId} {l l':List Int} {back:Bool} (hF:InPlace P F l l' back) (hl:0<l.length) (hl':back=false→l'.length=l.length)
  {n:Nat} {fr:Nat→Option PV} {st:Nat→Option SE} {log:Nat→Option LogE} {slot ta ia tb ib r τ e:Nat} {f:Nat→List PV} {rest:List Ins}
  (h1:fr slot=some (.os r)) (h2:st r=some (.row τ e 1 l.length f)) (h3:RowEq l.length f (fl (fun n:Int=> [PV.int .i64 n]) l)) (ha:Nat.blt ta n=true) (hb:Nat.blt tb n=true)
  (hK:evK (PureCall P) false 2 rest (inplaceSt n fr st log ta tb r e l' back) (fun s'=>Q .nrm s')) (hr16:r=0∨16≤r:=by decide):
  LSem P wr np (.reg (⟨some ta,ia,none, .mv (.t slot)⟩::⟨some tb,ib,none, .call (.c (.fn (.func F) [] [])) [.t ta]⟩::rest)) Q ⟨n,fr,st,True,log⟩:=by
 intro hQ code hc X w0 may a w γ hX hR
 have hcode:∃id ops,code= .region id ops false∧mapO (compO P wr ops) ops.toList=some (⟨some ta,ia,none, .mv (.t slot)⟩::⟨some tb,ib,none, .call (.c (.fn (.func F) [] [])) [.t ta]⟩::rest):=by
  cases code with
  | region id ops dr=>
    cases dr with
    | false=>
      simp only [comp,C.er] at hc
      split at hc
      ·rename_i hm
       simp only [Option.some.injEq,C.reg.injEq] at hc
       subst hc
       exact ⟨id,ops,rfl,hm⟩
      ·cases hc
    | true=>simp only [comp,C.er] at hc;(repeat' (split at hc))<;>cases hc
  | _=>simp only [comp,C.er] at hc<;>(repeat' (split at hc))<;>simp_all
 obtain ⟨id,ops,rfl,hm⟩:=hcode
 obtain ⟨cr,s3,hev,hQ3⟩:=evK_evL hK
 have hok3:=hQ _ _ hQ3
 refine wp_region ?_
 have hlen:ops.size=2+rest.length:=by have:=mapO_length hm;simp at this;omega
 have hget:∀k o,ops[k]? =some o→∃x,(⟨some ta,ia,none, .mv (.t slot)⟩::⟨some tb,ib,none, .call (.c (.fn (.func F) [] [])) [.t ta]⟩::rest:List Ins)[k]? =some x∧compO P wr ops o=some x:=fun k o hk=>comp_ins hm k o hk
 have o0:ops[0]? =some (ops[0]'(by omega)):=Array.getElem?_eq_getElem (by omega)
 have o1:ops[1]? =some (ops[1]'(by omega)):=Array.getElem?_eq_getElem (by omega)
 obtain ⟨x0,hx0,hc0⟩:=hget 0 _ o0
 obtain ⟨x1,hx1,hc1⟩:=hget 1 _ o1
 simp only [List.getElem?_cons_zero,Option.some.injEq] at hx0
 simp only [List.getElem?_cons_succ,List.getElem?_cons_zero,Option.some.injEq] at hx1
 subst hx0 hx1
 have hrange:List.range ops.size=0::1::(num 2 rest).map (·.1):=by
  rw [num_fst,hlen,List.range_eq_range',Nat.add_comm 2,List.range'_succ,List.range'_succ]
 rw [hrange,wpOps_cons]
 refine step_sound (lg:=false) (c:=default) (i:=0) (s':=⟨n,upd fr ta (.os r),st,True,log⟩) o0 hR hc0 ?_ trivial fun a1 w1 γ1 hR1=> ?_
 ·simp [stepI,guardV,I.opr,valL,A.val,h1,stripI,stripS,PV.isCnd,I.acc,getL,eff,eMv,PV.topV,Eff.pure,logO,logCs,okO,newSt,newFr,PV.norm,ha]
 rw [wpOps_cons]
 obtain ⟨hg1,hi1,hd1⟩:=compO_parts hc1
 unfold wpOp
 rw [o1]
 simp only
 rw [guard_none hg1 rfl,if_pos rfl]
 refine .inl ?_
 obtain ⟨hfn,hC⟩:=hF
 have hgr:∃ge,γ1 r=some ge:=by
  have:=hR1.st.dom r
  simp only [h2] at this
  exact Option.isSome_iff_exists.1 this
 obtain ⟨ge,hge⟩:=hgr
 obtain ⟨g,cap,hhdr,hblk,hz,hin⟩:=row_ints (hR1.st.at_ r ge _ hge h2) h3 hl
 have hnd:o1=o1:=rfl
 refine call_wp (p:= .os r) (R:=fun u w'=>u=(if back then .slice (some ⟨g,0,none⟩) l'.length cap else .tuple #[])∧Keeps (· =g) w1 w'∧IntsIn w' g e cap l') hR1 hi1 (by simp only [A.val];exact upd_same _ _ _) hfn (fun v hv=> ?_) (fun u w' hu=> ?_)
 ·obtain ⟨ge',hge',rfl⟩:=os_inv hv
  rw [hge] at hge';injection hge' with hge';subst hge'
  rw [hhdr]
  refine (hC w1 g cap e hin).mono ?_
  rintro ev w' ⟨he,hk,hi⟩
  exact ⟨_,he,rfl,hk,hi⟩
 ·obtain ⟨rfl,hk,hi⟩:=hu
  have hdst:(ops[1]'(by omega)).dst=some tb:=hd1.symm
  rw [hdst]
  have hRel:∃γ2,Rel X w0 may (a1.put (some tb) (if back then .slice (some ⟨g,0,none⟩) l'.length cap else .tuple #[])) w' (inplaceSt n fr st log ta tb r e l' back) γ2:=by
   cases back with
   | false=>
     have hll:=hl' rfl
     refine ⟨γ1,ents_put (E:=⟨.tup [], [], [], [], [], []⟩) hR1 ?_ (fun r hr=>by cases hr) rfl (by simpa [Nat.blt_eq] using hb) (by simp [inplaceSt,voidF_nil])⟩
     have h0:=EffOK.write (E:=⟨.junk, [], [], [], [], []⟩) (v:= .tuple #[]) (e:= .row 0 e 1 l'.length (fl (fun n:Int=> [PV.int .i64 n]) l')) hR1.st hge hblk h2 rfl hk (fun _=> ?_) rfl (fun l hl=>by cases hl)
     ·exact ⟨.tup [] [] rfl (fun k c u hk=>by simp at hk),h0.old,h0.sto,h0.keeps,h0.ownE,h0.box,h0.bld,h0.fix⟩
     ·have:=ints_row (X:=X) (γ':=γ1) hi
      rw [hll] at this⊢
      have hge2:ge=⟨some g, .slice (some ⟨g,0,none⟩) l.length cap,1⟩:=by cases ge;simp_all
      rw [hge2];exact this
   | true=>
     refine ⟨upd γ1 r ⟨some g, .slice (some ⟨g,0,none⟩) l'.length cap,1⟩,ents_put (E:=⟨.os r, [], [], [], [r], []⟩) hR1 ?_ (fun q hq=>by rw [List.mem_singleton] at hq;subst hq;exact hr16) rfl (by simpa [Nat.blt_eq] using hb) (by simp [inplaceSt])⟩
     refine EffOK.app (ge':=⟨some g, .slice (some ⟨g,0,none⟩) l'.length cap,1⟩) hR1.st hR1.hX hge h2 (fun l hl=>by cases hl) rfl (hk.mono fun i _ h=>by rw [hblk,h]) (fun b hb=> .inl (by rw [hblk];exact hb)) (fun b hb=> ?_) (fun _=>ints_row hi) (.os r _ (upd_same _ _ _) rfl rfl)
     ·injection hb with hb;subst hb
      obtain ⟨cur,_,hg,_⟩:=hi
      exact (Array.getElem?_eq_some_iff.1 hg).1
  obtain ⟨γ2,hR2⟩:=hRel
  exact reg_sound (l:=num 2 rest) (fun p hp=>by
   obtain ⟨hg0,hg⟩:=num_get rest 2 p hp
   have hlt:=(List.getElem?_eq_some_iff.1 hg).1
   have ho:ops[p.1]? =some (ops[p.1]'(by omega)):=Array.getElem?_eq_getElem (by omega)
   obtain ⟨x,hx,hco⟩:=hget _ _ ho
   rw [show p.1=(p.1 - 2)+2 by omega] at hx
   simp only [List.getElem?_cons_succ] at hx
   rw [hx] at hg
   injection hg with hg;subst hg
   exact ⟨_,ho,hco⟩) hR2 hev hok3 (fun a' w' γ' hR'=>⟨_,_,_,rfl,hQ3,hR'⟩)
end
end Pv
end Go.Proofs.YtdcgnfkkklbckaaGreatDoor
