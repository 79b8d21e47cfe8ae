/- WHAT HAS TO BE SHOWN OF COMPACT CODE: by evaluation; loops are left standing. Definitions and their equations. -/
import Derived.WalkSpells
import Derived.Test.YtdcgnfkkklbckaaGreatDoorZud
import Derived.Test.YtdcgnfkkklbckaaGreatDoorZuc
set_option linter.unusedSimpArgs false
set_option linter.unusedVariables false
namespace Go.Proofs.YtdcgnfkkklbckaaGreatDoor
namespace Pv
open Go.RowKit
section
variable {P:Program} {X:Cx} {γ:Gh} {w:World} {st st':Nat→Option SE} {fr:Nat→Option PV} {ρ:Operand→Value}
theorem stripL_sound:∀{vs:List PV} {us:List Value},RepL X γ w vs us→allP (stripL true vs).1→RepL X γ w (stripL true vs).2 us
 | [],us,h,_=>h
 | p::ps,us,h,ha=>by
   obtain ⟨u,us',rfl,hu,hus⟩:=h.cons_inv
   cases p with
   | cnd g p=>
     simp only [stripL,allP] at ha⊢
     exact RepL.cons_ (hu.cnd_inv (ha.1 trivial)) (stripL_sound hus ha.2)
   | _=>exact RepL.cons_ hu (stripL_sound hus ha)
theorem stripS_sound {vs:List PV} {us:List Value} (h:RepL X γ w vs us) (ha:allP (stripS true vs).1):RepL X γ w (stripS true vs).2 us:=by
 unfold stripS at*
 cases hc:vs.any PV.isCnd with
 | false=>exact h
 | true=>rw [hc] at ha;exact stripL_sound h ha
theorem op1 (H:Opd X γ w fr ρ) {x:Operand} {y:A} {vs:List PV} (hx:arg x=some y) (hv:valL fr [y]=some vs):RepL X γ w vs [ρ x]:=by
 have:=args_rep H (xs:= [x]) (ys:= [y]) (ps:=vs) (by simp [mapO,hx]) hv
 simpa using this
theorem opT1 (H:Opd X γ w fr ρ) {t:TypeId} {x:Operand} {y:A} {vs:List PV} (hx:argT P t x=some y) (hv:valL fr [y]=some vs):RepL X γ w vs [ρ x]:=by
 have:=argsT_rep (P:=P) (α:=TypeId×Operand) H (fun p=>p.1) (fun p=>p.2) (xs:= [(t,x)]) (ys:= [y]) (ps:=vs) (by simp [mapO,hx]) hv
 simpa using this
theorem op2 (H:Opd X γ w fr ρ) {x x':Operand} {y y':A} {vs:List PV} (hx:arg x=some y) (hx':arg x'=some y') (hv:valL fr [y,y']=some vs):RepL X γ w vs [ρ x,ρ x']:=by
 have:=args_rep H (xs:= [x,x']) (ys:= [y,y']) (ps:=vs) (by simp [mapO,hx,hx']) hv
 simpa using this
theorem op3 (H:Opd X γ w fr ρ) {x x' x'':Operand} {y y' y'':A} {vs:List PV} (hx:arg x=some y) (hx':arg x'=some y') (hx'':arg x''=some y'') (hv:valL fr [y,y',y'']=some vs):RepL X γ w vs [ρ x,ρ x',ρ x'']:=by
 have:=args_rep H (xs:= [x,x',x'']) (ys:= [y,y',y'']) (ps:=vs) (by simp [mapO,hx,hx',hx'']) hv
 simpa using this
theorem opX2 (H:Opd X γ w fr ρ) {t:TypeId} {x x':Operand} {y y':A} {vs:List PV} (hx:arg x=some y) (hx':argT P t x'=some y') (hv:valL fr [y,y']=some vs):RepL X γ w vs [ρ x,ρ x']:=by
 simp only [valL] at hv
 split at hv
 ·rename_i p ps hp hps
  injection hv with hv;subst hv
  exact RepL.cons_ (arg_rep H hx hp) (opT1 H hx' hps)
 ·cases hv
theorem opT2 (H:Opd X γ w fr ρ) {t:TypeId} {x x':Operand} {y y':A} {vs:List PV} (hx:argT P t x=some y) (hx':argT P t x'=some y') (hv:valL fr [y,y']=some vs):RepL X γ w vs [ρ x,ρ x']:=by
 simp only [valL] at hv
 split at hv
 ·rename_i p ps hp hps
  injection hv with hv;subst hv
  exact RepL.cons_ (argT_rep H hx hp) (opT1 H hx' hps)
 ·cases hv
theorem parts_rep (H:Opd X γ w fr ρ) {places:List (Nat×Nat×TypeId)}:∀{ps:List (Nat×Operand)} {qs:List (Nat×Nat×A)} {vs:List PV},parts P places ps=some qs→valL fr (qs.map (·.2.2))=some vs→RepL X γ w vs (ps.map fun x=>ρ x.2)
 | [],qs,vs,h,hv=>by
   simp only [parts,Option.some.injEq] at h;subst h
   simp only [List.map_nil,valL,Option.some.injEq] at hv;subst hv
   exact RepL.nil_
 | (i,x)::ps,qs,vs,h,hv=>by
   simp only [parts] at h
   split at h
   ·rename_i off n t r' hpi hpr
    obtain ⟨a,ha,rfl⟩:=Option.map_eq_some_iff.1 h
    simp only [List.map_cons,valL] at hv
    split at hv
    ·rename_i p qs' hp hps
     injection hv with hv;subst hv
     exact RepL.cons_ (argT_rep H ha hp) (parts_rep H hpr hps)
    ·cases hv
   ·cases h
theorem mapM_sizes:∀(fs:List Field),fs.all (fun f=>(P.info? f.type).isSome)=true→(fs.mapM (fun f=>do pure (f.offset,←sizeOf f.type)):Sem (List (Nat×Nat))).run P w= .ok (fs.map fun f=>(f.offset,P.cellsOf f.type)) w
 | [],_=>by simp
 | f::fs,h=>by
   simp only [List.all_cons,Bool.and_eq_true] at h
   obtain ⟨i,hi⟩:=Option.isSome_iff_exists.1 h.1
   have ih:=mapM_sizes fs h.2
   simp only [List.mapM_cons,Sem.run_bind,run_sizeOf w hi,Result.andThen_ok,Sem.run_pure,ih,List.map_cons]
theorem amapM_sizes (fs:Array Field) (h:fs.toList.all (fun f=>(P.info? f.type).isSome)=true):(fs.mapM (fun f=>do pure (f.offset,←sizeOf f.type)):Sem (Array (Nat×Nat))).run P w= .ok (fs.toList.map fun f=>(f.offset,P.cellsOf f.type)).toArray w:=by
 rw [Array.mapM_eq_mapM_toList,Sem.run_map,mapM_sizes _ h];rfl
theorem guard_int (op:BinOp) (t:TypeId) (x y:Operand) (k:IntKind) (a:Int) (v:Value):(eqGuard op t x y (.int k a) v).run P w= .ok () w:=by
 cases op<;>simp [eqGuard]
theorem guard_bool (op:BinOp) (t:TypeId) (x y:Operand) (a:Bool) (v:Value):(eqGuard op t x y (.bool a) v).run P w= .ok () w:=by
 cases op<;>simp [eqGuard]
theorem guard_str (op:BinOp) (t:TypeId) (x y:Operand) (a:ByteArray) (v:Value):(eqGuard op t x y (.string a) v).run P w= .ok () w:=by
 cases op<;>simp [eqGuard]
theorem bib_sound {t:TypeId} {a b:Bool} (neg:Bool) (ht:P.underlying t=some .bool):(binOp (if neg then .neq else .eql) t (.bool a) (.bool b)).run P w= .ok (.bool (if neg then !(a==b) else (a==b))) w:=by
 have h:(Op.equalIn 10000 t (.bool a) (.bool b)).run P w= .ok (a==b) w:=run_equalIn_bool w 9999 t a b ht
 cases neg<;>simp [binOp,Op.equal,Op.maxDepth,h]
theorem rl1 {p:PV} {u:Value} (h:RepL X γ w [p] [u]):Rep X γ w p u:=h.2 0 p u rfl rfl
theorem rl2 {p q:PV} {u v:Value} (h:RepL X γ w [p,q] [u,v]):Rep X γ w p u∧Rep X γ w q v:=⟨h.2 0 p u rfl rfl,h.2 1 q v rfl rfl⟩
theorem rl3 {p q r:PV} {u v x:Value} (h:RepL X γ w [p,q,r] [u,v,x]):Rep X γ w p u∧Rep X γ w q v∧Rep X γ w r x:=⟨h.2 0 p u rfl rfl,h.2 1 q v rfl rfl,h.2 2 r x rfl rfl⟩
theorem of_map {α β:Type} {o:Option α} {f:α→β} {b:β} (h:o.map f=some b):∃a,o=some a∧f a=b:=Option.map_eq_some_iff.1 h
theorem fst_zero {E:Eff} {d:Nat} (h:E.nw= []) (hn:newSt d E.kill E.rm E.wr E.nw st=some st'):newSt 0 E.kill E.rm E.wr E.nw st=some st':=by
 rw [newSt_eq,h] at hn⊢;exact hn
theorem op_sound {wr:Bool} {o:Oper} {i:I} {vs0:List PV} {cs:List SE} {E:Eff} {d:Nat} {S:FuncId→List PV→List SE→CallRes→Prop} {c:CallRes} (hc:compI P wr o=some i) (hnc:i.isCall=false) (H:Opd X γ w fr ρ) (hst:RepSt X γ w st) (hX:∀b,X.as b∨X.ls b→b<w.heap.size)
  (hlo:∀r ge b τ e z n f,γ r=some ge→st r=some (.row τ e z n f)→ge.blk=some b→X.my b)
  (hv:valL fr i.opr=some vs0) (hsd:allP (stripS true vs0).1) (hcs:getL st (i.acc (stripS true vs0).2)=some cs)
  (hE:eff S c d i (stripS true vs0).2 (i.acc (stripS true vs0).2) cs=some E) (hs:allP E.side) (hnew:newSt d E.kill E.rm E.wr E.nw st=some st'):Snd P X γ w st E st' (execOp ρ o):=by
 unfold compI at hc
 split at hc
 ·
  rename_i x hop
  obtain ⟨y,hy,rfl⟩:=of_map hc
  have hR:=stripS_sound (opT1 H hy hv) hsd
  generalize (stripS true vs0).2=vs at*
  unfold execOp;rw [hop]
  simp only [eff] at hE
  unfold eMv at hE
  split at hE
  ·rename_i r lo h τ e z n f
   split at hE
   ·rename_i hfx
    injection hE with hE;subst hE
    have hcs':getL st [r]=some [.row τ e z n f]:=by simpa [I.acc,PV.topV] using hcs
    obtain ⟨e0,he0,he1⟩:=getL_one hcs'
    injection he1 with he1 _
    subst he1
    exact mv_vw_sound hst hX (rl1 hR) he0 hfx _ rfl rfl rfl rfl rfl hnew
   ·cases hE
  ·cases hE
  ·injection hE with hE;subst hE
   exact Snd.val hst (Eff.still_pure _) (rl1 hR) hnew
  ·cases hE
 ·
  rename_i x hop
  obtain ⟨y,hy,rfl⟩:=of_map hc
  have hR:=stripS_sound (opT1 H hy hv) hsd
  generalize (stripS true vs0).2=vs at*
  unfold execOp;rw [hop]
  simp only [eff] at hE
  unfold eMv at hE
  split at hE
  ·rename_i r lo h τ e z n f
   split at hE
   ·rename_i hfx
    injection hE with hE;subst hE
    have hcs':getL st [r]=some [.row τ e z n f]:=by simpa [I.acc,PV.topV] using hcs
    obtain ⟨e0,he0,he1⟩:=getL_one hcs'
    injection he1 with he1 _
    subst he1
    exact mv_vw_sound hst hX (rl1 hR) he0 hfx _ rfl rfl rfl rfl rfl hnew
   ·cases hE
  ·cases hE
  ·injection hE with hE;subst hE
   exact Snd.val hst (Eff.still_pure _) (rl1 hR) hnew
  ·cases hE
 ·
  rename_i c0 a0 b0 hop
  split at hc
  ·rename_i c' a' b' h1 h2 h3
   injection hc with hc;subst hc
   have hR:=stripS_sound (op3 H h1 h2 h3 hv) hsd
   generalize (stripS true vs0).2=vs at*
   unfold execOp;rw [hop]
   simp only [eff] at hE
   unfold ePick at hE
   split at hE
   ·rename_i b p q
    have hb:=hR.2 0 _ _ rfl rfl
    have hp:=hR.2 1 _ _ rfl rfl
    have hq:=hR.2 2 _ _ rfl rfl
    have hbv:=hb.bool_inv
    obtain ⟨h4,h5⟩:=pick_sound hp hq hE hs
    have hm:((do pure (Next.value (if←asBool (ρ c0) then ρ a0 else ρ b0))):Sem Next)=pure (.value (if b then ρ a0 else ρ b0)):=by
     rw [hbv];cases b<;>rfl
    show Snd P X γ w st E st' ((do pure (Next.value (if←asBool (ρ c0) then ρ a0 else ρ b0))):Sem Next)
    rw [hm]
    exact Snd.val hst h4 h5 hnew
   ·cases hE
  ·cases hc
 ·
  rename_i t hop
  split at hc
  ·rename_i e hb
   injection hc with hc;subst hc
   obtain ⟨z,hzr,hcs⟩:=bldOf_zero (w:=w) hb
   unfold execOp;rw [hop]
   simp only [eff] at hE
   split at hE
   ·injection hE with hE;subst hE
    refine new_bld hst hX _ rfl hnew _ ?_
    simp only [Instr.alloc,Sem.run_bind,hzr,Result.andThen_ok,newVar,newRow,run_newObj,Sem.run_pure,hcs]
    try rfl
   ·cases hE
  obtain ⟨cells,hz,rfl⟩:=of_map hc
  obtain ⟨z,hzr,hR,h1,_⟩:=zeroOf_rep (X:=X) (γ:=γ) (w:=w) hz
  unfold execOp;rw [hop]
  simp only [eff] at hE
  split at hE
  ·injection hE with hE;subst hE
   refine new_box hst hX hR h1 _ rfl hnew _ (T:=t) ?_
   simp only [Instr.alloc,Sem.run_bind,hzr,Result.andThen_ok,newVar,newRow,run_newObj,Sem.run_pure,Array.toArray_toList];rfl
  ·cases hE
 ·
  rename_i t x hop
  split at hc
  ·rename_i hpos
   obtain ⟨y,hy,rfl⟩:=of_map hc
   have hR:=stripS_sound (op1 H hy hv) hsd
   generalize (stripS true vs0).2=vs at*
   unfold execOp;rw [hop]
   simp only [eff] at hE
   unfold eBx at hE
   split at hE
   ·rename_i p
    split at hE
    ·rename_i hcond
     injection hE with hE;subst hE
     obtain ⟨h1,h2⟩:=(rl1 hR).cells_ hcond.2
     refine new_box hst hX h1 h2 _ rfl hnew _ (T:=t) ?_
     simp only [Instr.box,newVar,newRow,Sem.run_bind,run_newObj,Result.andThen_ok,Sem.run_pure,Array.toArray_toList];rfl
    ·cases hE
   ·cases hE
  ·cases hc
 ·
  rename_i t ps hop
  have key:∀(places:List (Nat×Nat×TypeId)) (place:Nat→Option (Nat×Nat)) (z:List PV) (qs:List (Nat×Nat×A)),(∀i,place i=(places[i]?).map (fun x=>(x.1,x.2.1)))→zeroOf P t=some z→parts P places ps.toList=some qs→i= .bd z qs→
    (∀zv cur,(zeroValue t).run P w= .ok zv w→Instr.fill place zv.cells (ps.toList.map fun x=>(x.1,ρ x.2))=some cur→(Instr.build t (ps.map fun (i,x)=>(i,ρ x))).run P w= .ok (.agg cur) w)→Snd P X γ w st E st' (execOp ρ o):=by
   intro places place z qs hpl hz hq hi hrun
   subst hi
   have hR:=stripS_sound (parts_rep H hq hv) hsd
   generalize (stripS true vs0).2=vs at*
   obtain ⟨zv,hzr,hzR,h1,_⟩:=zeroOf_rep (X:=X) (γ:=γ) (w:=w) hz
   unfold execOp;rw [hop]
   simp only [eff,eBd] at hE
   split at hE
   ·rename_i cs' hf
    injection hE with hE;subst hE
    obtain ⟨cur,hfill,hcr,hc1⟩:=fill_sound (ρ:=ρ) place places hpl ps.toList qs vs z cs' zv.cells hq hR hzR h1 hf
    refine Snd.good hst ⟨Eff.still_pure _,_,hrun zv cur hzr hfill, ?_⟩ hnew
    have:=Rep.agg (X:=X) (γ:=γ) (w:=w) cs' cur.toList hcr.1 hc1 hcr.2
    rw [Array.toArray_toList] at this;exact this
   ·cases hE
  split at hc
  ·rename_i fs hu
   split at hc
   ·rename_i z qs hz hq
    split at hc
    ·rename_i hall
     injection hc with hc
     refine key _ (fun i=>((fs.toList.map fun f=>(f.offset,P.cellsOf f.type)).toArray[i]?)) z qs (fun i=> ?_) hz hq hc.symm (fun zv cur hzr hfill=> ?_)
     ·rw [List.getElem?_toArray,List.getElem?_map,List.getElem?_map,Option.map_map];rfl
     ·unfold Instr.build
      simp only [Sem.run_bind,hzr,Result.andThen_ok,run_underlying hu,amapM_sizes fs hall]
      have hpl:(ps.map fun (i,x)=>(i,ρ x)).toList=ps.toList.map fun x=>(x.1,ρ x.2):=by simp
      rw [hpl,hfill];rfl
    ·cases hc
   ·cases hc
  ·rename_i n e hu
   split at hc
   ·rename_i z qs hz hq
    split at hc
    ·rename_i hinf
     injection hc with hc
     obtain ⟨inf,hi⟩:=Option.isSome_iff_exists.1 hinf
     have hparts:∀(l:List (Nat×Operand)) (qs:List (Nat×Nat×A)),parts P ((List.range n).map fun i=>(i*P.cellsOf e,P.cellsOf e,e)) l=some qs→∀x∈l,x.1<n:=by
      intro l
      induction l with
      | nil=>intro _ _ x hx;simp at hx
      | cons y l ih=>
        intro qs h x hx
        obtain ⟨yi,yx⟩:=y
        simp only [parts] at h
        split at h
        ·rename_i off n' t' r' hpi hpr
         rcases List.mem_cons.1 hx with rfl | hx
         ·have:=(List.getElem?_eq_some_iff.1 hpi).1
          simpa using this
         ·exact ih r' hpr x hx
        ·cases h
     have hlt:=hparts _ _ hq
     refine key _ (fun i=>if i<n then some (i*P.cellsOf e,P.cellsOf e) else none) z qs (fun i=> ?_) hz hq hc.symm (fun zv cur hzr hfill=> ?_)
     ·by_cases hin:i<n
      ·simp [hin]
      ·simp [hin]
     ·unfold Instr.build
      simp only [Sem.run_bind,hzr,Result.andThen_ok,run_underlying hu,run_sizeOf w hi]
      have hpl:(ps.map fun (i,x)=>(i,ρ x)).toList=ps.toList.map fun x=>(x.1,ρ x.2):=by simp
      have hfe:∀(l:List (Nat×Operand)) (c:Array Value),(∀x∈l,x.1<n)→Instr.fill (fun i=>some (i*P.cellsOf e,P.cellsOf e)) c (l.map fun x=>(x.1,ρ x.2))=Instr.fill (fun i=>if i<n then some (i*P.cellsOf e,P.cellsOf e) else none) c (l.map fun x=>(x.1,ρ x.2)):=by
       intro l
       induction l with
       | nil=>intro c _;rfl
       | cons y l ih=>
         intro c h
         simp only [List.map_cons,Instr.fill,if_pos (h y (by simp))]
         split
         ·rfl
         ·exact ih _ (fun x hx=>h x (by simp [hx]))
      rw [hpl,hfe _ _ hlt,hfill];rfl
    ·cases hc
   ·cases hc
  ·cases hc
 ·
  rename_i t n ps hop
  split at hc
  ·rename_i e hu
   split at hc
   ·split at hc
    ·rename_i hcond
     simp only [Bool.and_eq_true,beq_iff_eq,decide_eq_true_eq] at hcond
     obtain ⟨⟨⟨⟨⟨h1,h2⟩,h3⟩,h4⟩,h5⟩,h6⟩:=hcond
     obtain ⟨xs,hxs,rfl⟩:=of_map hc
     have hR:=stripS_sound (argsT_rep H (fun _=>e) (fun (p:Nat×Operand)=>p.2) hxs hv) hsd
     generalize (stripS true vs0).2=vs at*
     unfold execOp;rw [hop]
     simp only [eff] at hE
     unfold eBsx at hE
     split at hE
     ·rename_i hall
      injection hE with hE
      exact bsx_sound hst hX hu h1 h2 h3 h4 h5 hR hall E hE.symm hnew
     ·cases hE
    ·cases hc
   ·split at hc
    ·rename_i hcond
     simp only [Bool.and_eq_true,beq_iff_eq,decide_eq_true_eq] at hcond
     obtain ⟨⟨⟨⟨h1,h2⟩,h3⟩,h4⟩,h5⟩:=hcond
     obtain ⟨xs,hxs,rfl⟩:=of_map hc
     have hR:=stripS_sound (argsT_rep H (fun _=>e) (fun (p:Nat×Operand)=>p.2) hxs hv) hsd
     generalize (stripS true vs0).2=vs at*
     unfold execOp;rw [hop]
     simp only [eff] at hE
     unfold eBs at hE
     split at hE
     ·rename_i rows hrows
      split at hE
      ·rename_i hfx
       injection hE with hE;subst hE
       exact bs_sound hst hX hlo hu h1 h2 h3 h4 h5 hR rfl hcs hrows hfx _ rfl rfl rfl rfl rfl hnew
      ·cases hE
     ·cases hE
    ·cases hc
  ·cases hc
 ·
  rename_i t x hop
  split at hc
  ·rename_i g y hg hy
   injection hc with hc;subst hc
   have hR:=stripS_sound (op1 H hy hv) hsd
   generalize (stripS true vs0).2=vs at*
   unfold execOp;rw [hop]
   simp only [eff] at hE
   unfold eLd at hE
   split at hE
   ·rename_i r i j cells
    split at hE
    ·rename_i hi
     split at hE
     ·rename_i p hp
      injection hE with hE;subst hE
      obtain ⟨e,he,hce⟩:=getL_one hcs
      injection hce with hce;subst hce
      obtain ⟨v,hv1,hv2⟩:=ld_box_sound hst hg (rl1 hR) he hi hp
      exact Snd.good hst ⟨Eff.still_pure _,v,hv1,hv2⟩ hnew
     ·cases hE
    ·cases hE
   ·rename_i r i j τ e z m f
    split at hE
    ·rename_i p hp
     injection hE with hE;subst hE
     obtain ⟨e',he,hce⟩:=getL_one hcs
     injection hce with hce;subst hce
     obtain ⟨v,hv1,hv2⟩:=ld_row_sound hst hg (rl1 hR) he hs.1 hp
     exact Snd.good hst ⟨Eff.still_side _ _,v,hv1,hv2⟩ hnew
    ·cases hE
   ·rename_i τ ps
    split at hE
    ·rename_i p hp
     injection hE with hE;subst hE
     obtain ⟨v,hv1,hv2⟩:=ld_rp_sound hg (rl1 hR) hp
     exact Snd.good hst ⟨Eff.still_pure _,v,hv1,hv2⟩ hnew
    ·cases hE
   ·cases hE
  ·cases hc
 ·
  rename_i t x v hop
  split at hc
  ·rename_i y z hy hz
   split at hc
   ·rename_i hpos
    injection hc with hc;subst hc
    have hR:=stripS_sound (opX2 (P:=P) H hy hz hv) hsd
    generalize (stripS true vs0).2=vs at*
    unfold execOp;rw [hop]
    simp only [eff] at hE
    unfold eSt at hE
    split at hE
    ·rename_i r i j p cells
     split at hE
     ·rename_i hcond
      obtain ⟨c1,c2,c3,c4⟩:=hcond
      injection hE with hE
      obtain ⟨e,he,hce⟩:=getL_one hcs
      injection hce with hce;subst hce
      obtain ⟨hr1,hr2⟩:=rl2 hR
      exact st_box_sound hst hpos hr1 hr2 he c1 c2 c3 c4 E hE.symm (fst_zero (by rw [←hE]) hnew)
     ·cases hE
    ·rename_i r i j p τ e z m f
     split at hE
     ·rename_i hcond
      obtain ⟨c1,c2,c3,c4⟩:=hcond
      injection hE with hE;subst hE
      obtain ⟨e',he,hce⟩:=getL_one hcs
      injection hce with hce;subst hce
      obtain ⟨hr1,hr2⟩:=rl2 hR
      exact st_row_sound hst hpos hr1 hr2 he hs.1 c1 c2 c3 c4 _ rfl rfl rfl rfl rfl (fst_zero rfl hnew)
     ·cases hE
    ·cases hE
   ·cases hc
  ·cases hc
 ·
  rename_i x hop
  obtain ⟨y,hy,rfl⟩:=of_map hc
  have hR:=stripS_sound (op1 H hy hv) hsd
  generalize (stripS true vs0).2=vs at*
  unfold execOp;rw [hop]
  simp only [eff] at hE
  unfold eNc at hE
  split at hE
  ·injection hE with hE;subst hE
   have h1:=rl1 hR
   obtain ⟨ge,b,_,_,hb⟩:=pt_inv h1
   simp only [hb] at h1⊢
   exact Snd.val hst (Eff.still_pure _) h1 hnew
  ·injection hE with hE;subst hE
   have h1:=rl1 hR
   obtain ⟨a,hb⟩:=rp_inv h1
   simp only [hb] at h1⊢
   exact Snd.val hst (Eff.still_pure _) h1 hnew
  ·injection hE with hE;subst hE
   have h1:=rl1 hR
   have:∃a b,ρ x= .func (.func ‹_›) a b:=by
    generalize ρ x=u at h1
    cases h1;exact ⟨_,_,rfl⟩
   obtain ⟨a,b,hb⟩:=this
   simp only [hb] at h1⊢
   exact Snd.val hst (Eff.still_pure _) h1 hnew
  ·cases hE
 ·
  rename_i op t x y yt hop
  split at hc
  ·rename_i a b ha hb
   unfold execOp;rw [hop]
   split at hc
   ·split at hc
    ·rename_i fs hu
     split at hc
     ·rename_i ks hks
      split at hc
      ·rename_i hgu
       simp only [Bool.and_eq_true,Bool.not_eq_true'] at hgu
       have key:∀neg,op=(if neg then .neq else .eql)→i= .eqa neg ks a b→Snd P X γ w st E st' (do pure (.value (←(do eqGuard op t x y (ρ x) (ρ y);binOp op t (ρ x) (ρ y))))):=by
        intro neg hopn hi
        subst hi;subst hopn
        have hR:=stripS_sound (op2 H ha hb hv) hsd
        generalize (stripS true vs0).2=vs at*
        simp only [eff] at hE
        unfold eEqa at hE
        split at hE
        ·rename_i as bs
         split at hE
         ·rename_i e he
          injection hE with hE;subst hE
          obtain ⟨hr1,hr2⟩:=rl2 hR
          exact Snd.good hst ⟨Eff.still_pure _,_,eqa_sound x y hu hks hgu.1 hgu.2 hr1 hr2 he, .bool _⟩ hnew
         ·cases hE
        ·cases hE
       split at hc
       ·injection hc with hc;exact key false rfl hc.symm
       ·injection hc with hc;exact key true rfl hc.symm
       ·cases hc
      ·cases hc
     ·cases hc
    ·rename_i n e hu
     split at hc
     ·rename_i k hks
      split at hc
      ·rename_i hgu
       simp only [Bool.and_eq_true,Bool.not_eq_true',beq_iff_eq] at hgu
       have key:∀neg,op=(if neg then .neq else .eql)→i= .eqa neg (List.replicate n k) a b→Snd P X γ w st E st' (do pure (.value (←(do eqGuard op t x y (ρ x) (ρ y);binOp op t (ρ x) (ρ y))))):=by
        intro neg hopn hi
        subst hi;subst hopn
        have hR:=stripS_sound (op2 H ha hb hv) hsd
        generalize (stripS true vs0).2=vs at*
        simp only [eff] at hE
        unfold eEqa at hE
        split at hE
        ·rename_i as bs
         split at hE
         ·rename_i e he
          injection hE with hE;subst hE
          obtain ⟨hr1,hr2⟩:=rl2 hR
          exact Snd.good hst ⟨Eff.still_pure _,_,eqar_sound x y hu hks hgu.1.2 hgu.2 hgu.1.1 hr1 hr2 he, .bool _⟩ hnew
         ·cases hE
        ·cases hE
       split at hc
       ·injection hc with hc;exact key false rfl hc.symm
       ·injection hc with hc;exact key true rfl hc.symm
       ·cases hc
      ·cases hc
     ·cases hc
    ·cases hc
   ·split at hc
    ·
     rename_i hu
     have key:∀neg,op=(if neg then .neq else .eql)→i= .bib neg a b→Snd P X γ w st E st' (do pure (.value (←(do eqGuard op t x y (ρ x) (ρ y);binOp op t (ρ x) (ρ y))))):=by
      intro neg hopn hi
      subst hi;subst hopn
      have hR:=stripS_sound (op2 H ha hb hv) hsd
      generalize (stripS true vs0).2=vs at*
      simp only [eff] at hE
      unfold eBib at hE
      split at hE
      ·rename_i p q
       injection hE with hE;subst hE
       obtain ⟨hr1,hr2⟩:=rl2 hR
       refine Snd.good hst ⟨Eff.still_pure _,_, ?_, .bool _⟩ hnew
       rw [hr1.bool_inv,hr2.bool_inv,Sem.run_bind,guard_bool,Result.andThen_ok,bib_sound neg hu]
      ·cases hE
     split at hc
     ·injection hc with hc;exact key false rfl hc.symm
     ·injection hc with hc;exact key true rfl hc.symm
     ·cases hc
    rotate_left 2
    ·
     rename_i e hu
     have key:∀neg,op=(if neg then .neq else .eql)→b= .c (.nil 0)→i= .isn neg a→Snd P X γ w st E st' (do pure (.value (←(do eqGuard op t x y (ρ x) (ρ y);binOp op t (ρ x) (ρ y))))):=by
      intro neg hopn hbn hi
      subst hi;subst hopn;subst hbn
      have hR:=stripS_sound (op1 H ha hv) hsd
      have hy:=(args_rep H (xs:= [y]) (ys:= [.c (.nil 0)]) (ps:= [.nil 0]) (by simp [mapO,hb]) rfl).cons_inv
      obtain ⟨u,us,hyu,hy1,_⟩:=hy
      simp only [List.map_cons,List.map_nil,List.cons.injEq] at hyu
      rw [hyu.1,hy1.nil_inv]
      generalize (stripS true vs0).2=vs at*
      simp only [eff] at hE
      have fin:∀(ad:Option Addr) (n cap:Nat),ρ x= .slice ad n cap→
        ((do eqGuard (if neg then .neq else .eql) t x y (ρ x) (.slice none 0 0);binOp (if neg then .neq else .eql) t (ρ x) (.slice none 0 0)):Sem Value).run P w= .ok (.bool (if neg then !ad.isNone else ad.isNone)) w:=fun ad n cap hx=>by
       rw [hx]
       cases neg with
       | true=>simp [eqGuard,run_neq_slice_nil_any w t e ad n cap 0 0 hu]
       | false=>simp [eqGuard,Lib.run_eql_slice_nil w t e ad n cap 0 0 hu]
      unfold eIsn at hE
      split at hE
      ·injection hE with hE;subst hE
       refine Snd.good hst ⟨Eff.still_pure _,_,fin none 0 0 (rl1 hR).nil_inv, ?_⟩ hnew
       cases neg<;>exact .bool _
      ·rename_i τ z n f
       injection hE with hE;subst hE
       obtain ⟨ad,cap,vs',hx,hcap,_,hb',_⟩:=sl_rows (rl1 hR)
       have hn:0<n:=hs.1
       have had:ad.isNone=false:=by
        rcases hb' with h0 | ⟨a',h0,_⟩
        ·omega
        ·rw [h0];rfl
       refine Snd.good hst ⟨Eff.still_side _ _,_,fin ad n cap hx, ?_⟩ hnew
       rw [had];cases neg<;>exact .bool _
      ·rename_i r τ e' z n f
       injection hE with hE;subst hE
       have hn:0<n:=hs.1
       have hcs':getL st [r]=some [.row τ e' z n f]:=by simpa [I.acc,PV.top] using hcs
       obtain ⟨e0,he0,he1⟩:=getL_one hcs'
       injection he1 with he1 _
       subst he1
       obtain ⟨ge,hge,hx⟩:=os_inv (rl1 hR)
       obtain ⟨vs',_,_,_,ho,_⟩:=(hst.at_ _ _ _ hge he0).rows
       obtain ⟨ad,cap,hv',_,_,hor⟩:=own_slice ho
       have had:ad.isNone=false:=by
        rcases hor with h0 | ⟨g,h0,_⟩
        ·omega
        ·rw [h0];rfl
       refine Snd.good hst ⟨Eff.still_side _ _,_,fin ad n cap (by rw [hx,hv']), ?_⟩ hnew
       rw [had];cases neg<;>exact .bool _
      ·cases hE
     split at hc
     ·injection hc with hc;exact key false rfl rfl hc.symm
     ·injection hc with hc;exact key true rfl rfl hc.symm
     ·cases hc
    all_goals first
     | (cases hc;done)
     | (injection hc with hc;subst hc
        have hR:=stripS_sound (op2 H ha hb hv) hsd
        generalize (stripS true vs0).2=vs at*
        simp only [eff] at hE
        unfold eBi at hE
        split at hE
        ·rename_i p q
         obtain ⟨hr1,hr2⟩:=rl2 hR
         obtain ⟨h1,v,h2,h3⟩:=biV_sound (P:=P) (t:=t) hr1 hr2 hE hs
         refine Snd.good hst ⟨h1,v, ?_,h3⟩ hnew
         have hgd:(eqGuard op t x y (ρ x) (ρ y)).run P w= .ok () w:=by
          cases p<;>simp only [biV] at hE<;>first | (cases hE;done) | (rw [hr1.int_inv];exact guard_int _ _ _ _ _ _ _) | (rw [hr1.str_inv];exact guard_str _ _ _ _ _ _)
         rw [Sem.run_bind,hgd,Result.andThen_ok,h2]
        ·cases hE)
  ·cases hc
 ·
  rename_i op t x hop
  obtain ⟨y,hy,rfl⟩:=of_map hc
  have hR:=stripS_sound (op1 H hy hv) hsd
  generalize (stripS true vs0).2=vs at*
  unfold execOp;rw [hop]
  simp only [eff] at hE
  unfold eUn at hE
  split at hE
  ·have h1:=(rl1 hR).int_inv
   have h2:=neg_sound (P:=P) (X:=X) (γ:=γ) (w:=w) hE hs
   rw [←h1] at h2
   exact Snd.good hst h2 hnew
  ·injection hE with hE;subst hE
   have h1:=(rl1 hR).bool_inv
   exact Snd.good hst ⟨Eff.still_pure _,_,by rw [h1];rfl, .bool _⟩ hnew
  ·cases hE
 ·
  rename_i s d' x hop
  split at hc
  ·rename_i k1 k hs1 hd1
   obtain ⟨y,hy,rfl⟩:=of_map hc
   have hR:=stripS_sound (op1 H hy hv) hsd
   generalize (stripS true vs0).2=vs at*
   unfold execOp;rw [hop]
   simp only [eff] at hE
   unfold eCv at hE
   split at hE
   ·rename_i k2 n
    have h1:=(rl1 hR).int_inv
    have hrun:(convert s d' (ρ x)).run P w= .ok (.int k (k.wrap n)) w:=by
     rw [h1];simp [convert,run_underlying hs1,run_underlying hd1,Conv.intToInt]
    split at hE
    ·injection hE with hE;subst hE
     exact Snd.good hst ⟨Eff.still_pure _,_,hrun, .int _ _⟩ hnew
    ·injection hE with hE;subst hE
     refine Snd.good hst ⟨Eff.still_side _ _,_,hrun, ?_⟩ hnew
     rw [wrap_in _ _ hs.1];exact .int _ _
   ·cases hE
  ·rename_i e hs1 hd1
   split at hc
   ·rename_i he1
    obtain ⟨y,hy,rfl⟩:=of_map hc
    have hR:=stripS_sound (op1 H hy hv) hsd
    generalize (stripS true vs0).2=vs at*
    unfold execOp;rw [hop]
    simp only [eff] at hE
    unfold eCvb at hE
    split at hE
    ·rename_i str
     injection hE with hE;subst hE
     exact cvb_sound (P:=P) hst hX hs1 hd1 he1 (rl1 hR) hs.1 _ rfl rfl rfl rfl rfl hnew
    ·cases hE
   ·cases hc
  ·rename_i e hs1 hd1
   split at hc
   ·rename_i he1
    obtain ⟨y,hy,rfl⟩:=of_map hc
    have hR:=stripS_sound (opT1 H hy hv) hsd
    generalize (stripS true vs0).2=vs at*
    unfold execOp;rw [hop]
    simp only [eff] at hE
    have key:∀p,vs= [p]→getL st p.top=some cs→Snd P X γ w st E st' (do pure (.value (←convert s d' (ρ x)))):=fun p hp hcs'=>by
     subst hp
     exact Snd.good hst (cvs_sound (P:=P) hst hs1 he1 hd1 (rl1 hR) hcs' hE hs) hnew
    have hv2:∃p,vs= [p]:=by
     have h1:=hR.1
     match vs,h1 with
     | [p],_=>exact ⟨p,rfl⟩
    obtain ⟨p,hp⟩:=hv2
    refine key p hp ?_
    subst hp
    simpa [I.acc] using hcs
   ·cases hc
  ·cases hc
 ·
  rename_i s x f hop
  split at hc
  ·rename_i fs hu
   split at hc
   ·rename_i f' hf
    split at hc
    ·rename_i hpos
     obtain ⟨y,hy,rfl⟩:=of_map hc
     have hR:=stripS_sound (op1 H hy hv) hsd
     generalize (stripS true vs0).2=vs at*
     unfold execOp;rw [hop]
     simp only [eff] at hE
     unfold eFa at hE
     split at hE
     ·injection hE with hE;subst hE
      obtain ⟨v,h1,h2⟩:=fa_sound (P:=P) hu hf hpos (rl1 hR) rfl
      exact Snd.good hst ⟨Eff.still_pure _,v,h1,h2⟩ hnew
     ·injection hE with hE;subst hE
      obtain ⟨v,h1,h2⟩:=fa_sound (P:=P) hu hf hpos (rl1 hR) rfl
      exact Snd.good hst ⟨Eff.still_pure _,v,h1,h2⟩ hnew
     ·cases hE
    ·cases hc
   ·cases hc
  ·cases hc
 ·
  rename_i s x f hop
  split at hc
  ·rename_i fs hu
   split at hc
   ·rename_i f' hf
    split at hc
    ·rename_i g y hg hy
     injection hc with hc;subst hc
     have hR:=stripS_sound (op1 H hy hv) hsd
     generalize (stripS true vs0).2=vs at*
     unfold execOp;rw [hop]
     simp only [eff] at hE
     unfold eFd at hE
     split at hE
     ·rename_i ps
      split at hE
      ·rename_i p hp
       injection hE with hE;subst hE
       obtain ⟨us,hus,hur,hu1⟩:=(rl1 hR).agg_inv
       obtain ⟨v,h1,h2⟩:=part_sound (P:=P) hg hur hu1 hp
       refine Snd.good hst ⟨Eff.still_pure _,v, ?_,h2⟩ hnew
       rw [hus];simp [Instr.field,run_underlying hu,hf,asAgg,h1]
      ·cases hE
     ·cases hE
    ·cases hc
   ·cases hc
  ·cases hc
 ·
  rename_i t x ix hop
  split at hc
  ·rename_i e y z hu hy hz
   split at hc
   ·rename_i hpos
    injection hc with hc;subst hc
    have hR:=stripS_sound (op2 H hy hz hv) hsd
    generalize (stripS true vs0).2=vs at*
    unfold execOp;rw [hop]
    simp only [eff] at hE
    unfold eIa at hE
    split at hE
    ·rename_i τ z' m f k n
     split at hE
     ·rename_i hzz;subst hzz
      injection hE with hE;subst hE
      obtain ⟨hr1,hr2⟩:=rl2 hR
      have hri:=hr2.int_inv
      obtain ⟨v,h1,h2⟩:=ia_sl_sound (P:=P) (k:=k) hu hpos hr1 hs.1.1 hs.1.2
      exact Snd.good hst ⟨Eff.still_side _ _,v,by rw [hri];exact h1,h2⟩ hnew
     ·cases hE
    ·rename_i r k n τ e' z' m f
     split at hE
     ·rename_i hzz;subst hzz
      injection hE with hE;subst hE
      obtain ⟨hr1,hr2⟩:=rl2 hR
      have hri:=hr2.int_inv
      obtain ⟨e0,he,hce⟩:=getL_one hcs
      injection hce with hce;subst hce
      obtain ⟨ge,hg,hge⟩:=os_inv hr1
      obtain ⟨ws,hzz,hb,_,ho,_⟩:=(hst.at_ _ _ _ hg he).rows
      obtain ⟨ad,cap,hh,_,_,hor⟩:=own_slice ho
      have hm:n.toNat<m:=hs.1.2
      rcases hor with h0 | ⟨g,rfl,hlt,hbl⟩
      ·omega
      ·have hrun:=indexAt_slice (P:=P) (w:=w) (a:=⟨g,0,none⟩) (n:=m) (cap:=cap) (k:=k) (i:=n) hu hpos hs.1.1 hm
       rw [←hh,←hge,←hri,add_plain] at hrun
       refine Snd.good hst ⟨Eff.still_side _ _,_,hrun, ?_⟩ hnew
       have:=Rep.pt (X:=X) (w:=w) r n.toNat 0 ge g hg (by rw [hb,hbl])
       rw [hzz] at this
       simpa [Eff.side'] using this
     ·cases hE
    ·rename_i b r lo m1 k n τ e' z' m f
     split at hE
     ·rename_i hzz;subst hzz
      injection hE with hE;subst hE
      obtain ⟨hr1,hr2⟩:=rl2 hR
      have hri:=hr2.int_inv
      obtain ⟨e0,he,hce⟩:=getL_one hcs
      injection hce with hce;subst hce
      obtain ⟨ge,ad,m0,cap,hg,hh,hle,hge⟩:=vw_inv hr1
      obtain ⟨ws,hzz,hb,_,ho,_⟩:=(hst.at_ _ _ _ hg he).rows
      obtain ⟨ad',cap',hh',hnc,_,hor⟩:=own_slice ho
      rw [hh] at hh'
      injection hh' with e1 e2 e3
      subst e1;subst e2;subst e3
      have hm:n.toNat<m1:=hs.1.2
      rcases hor with h0 | ⟨g,rfl,hlt,hbl⟩
      ·omega
      ·have hne:cap≠lo:=by omega
       rw [if_neg hne,Option.map_some] at hge
       have hrun:=indexAt_slice (P:=P) (w:=w) (a:=(⟨g,0,none⟩:Addr).add (lo*ge.z)) (n:=m1) (cap:=cap - lo) (k:=k) (i:=n) hu hpos hs.1.1 hm
       rw [←hge,←hri,add_add_,add_plain] at hrun
       refine Snd.good hst ⟨Eff.still_side _ _,_,hrun, ?_⟩ hnew
       have:=Rep.pt (X:=X) (w:=w) r (lo+n.toNat) 0 ge g hg (by rw [hb,hbl])
       rw [hzz] at this⊢
       simpa [Eff.side',Nat.add_mul] using this
     ·cases hE
    ·rename_i z' n r k i0
     split at hE
     ·rename_i hzz;subst hzz
      injection hE with hE;subst hE
      obtain ⟨hr1,hr2⟩:=rl2 hR
      have hri:=hr2.int_inv
      generalize hro:ρ x=u at hr1
      cases hr1 with
      | rfs _ _ _ ge b hg hb=>
        have hrun:=indexAt_slice (P:=P) (w:=w) (a:=⟨b,0,none⟩) (n:=n) (cap:=n) (k:=k) (i:=i0) hu hpos hs.1.1 hs.1.2
        rw [←hro,←hri,add_plain] at hrun
        refine Snd.good hst ⟨Eff.still_side _ _,_,hrun, ?_⟩ hnew
        have:=Rep.pt (X:=X) (w:=w) r 0 (i0.toNat*P.cellsOf e) ge b hg hb
        simpa [Eff.side'] using this
     ·cases hE
    ·cases hE
   ·cases hc
  ·rename_i n e y z hu hy hz
   split at hc
   ·rename_i hcond
    simp only [Bool.and_eq_true,decide_eq_true_eq] at hcond
    injection hc with hc;subst hc
    have hR:=stripS_sound (op2 H hy hz hv) hsd
    generalize (stripS true vs0).2=vs at*
    unfold execOp;rw [hop]
    simp only [eff] at hE
    unfold eIaa at hE
    split at hE
    ·injection hE with hE;subst hE
     obtain ⟨hr1,hr2⟩:=rl2 hR
     have hri:=hr2.int_inv
     obtain ⟨v,h1,h2⟩:=iaa_sound (P:=P) hu hcond.2 hr1 hs.1.1 hs.1.2 rfl
     exact Snd.good hst ⟨Eff.still_side _ _,v,by rw [hri];exact h1,h2⟩ hnew
    ·injection hE with hE;subst hE
     obtain ⟨hr1,hr2⟩:=rl2 hR
     have hri:=hr2.int_inv
     obtain ⟨v,h1,h2⟩:=iaa_sound (P:=P) hu hcond.2 hr1 hs.1.1 hs.1.2 rfl
     exact Snd.good hst ⟨Eff.still_side _ _,v,by rw [hri];exact h1,h2⟩ hnew
    ·cases hE
   ·cases hc
  ·cases hc
 ·
  rename_i t x ix hop
  split at hc
  ·rename_i n e y z hu hy hz
   split at hc
   ·rename_i g hg
    injection hc with hc;subst hc
    have hR:=stripS_sound (op2 H hy hz hv) hsd
    generalize (stripS true vs0).2=vs at*
    unfold execOp;rw [hop]
    simp only [eff] at hE
    unfold eIxa at hE
    split at hE
    ·rename_i ps k j
     split at hE
     ·rename_i p hp
      injection hE with hE;subst hE
      obtain ⟨hr1,hr2⟩:=rl2 hR
      obtain ⟨us,hus,hur,hu1⟩:=hr1.agg_inv
      obtain ⟨v,h1,h2⟩:=part_sound (P:=P) hg hur hu1 hp
      obtain ⟨inf,hi,_⟩:=info_of_agg hg
      have h0:0≤j:=hs.1.1
      have h3:j<(n:Int):=by have:=hs.1.2;omega
      refine Snd.good hst ⟨Eff.still_side _ _,v, ?_,h2⟩ hnew
      rw [hus,hr2.int_inv]
      simp [Instr.index,asIntOf,run_underlying hu,h0,h3,run_sizeOf w hi,h1]
     ·cases hE
    ·cases hE
   ·cases hc
  ·rename_i y z hu hy hz
   injection hc with hc;subst hc
   have hR:=stripS_sound (op2 H hy hz hv) hsd
   generalize (stripS true vs0).2=vs at*
   unfold execOp;rw [hop]
   simp only [eff] at hE
   unfold eIxs at hE
   split at hE
   ·rename_i s k j
    injection hE with hE;subst hE
    obtain ⟨hr1,hr2⟩:=rl2 hR
    have h0:0≤j:=hs.1.1
    have h3:j.toNat<s.length:=hs.1.2
    refine Snd.good hst ⟨Eff.still_side _ _,_, ?_, .int _ _⟩ hnew
    rw [hr1.str_inv,hr2.int_inv]
    have hg:(⟨s.toArray⟩:ByteArray)[j.toNat]? =some (s.getD j.toNat 0):=by
     have hsz:j.toNat<(⟨s.toArray⟩:ByteArray).size:=h3
     rw [getElem?_pos (⟨s.toArray⟩:ByteArray) j.toNat hsz]
     simp [List.getD,List.getElem?_eq_getElem h3];rfl
    simp only [Instr.index,asIntOf,Sem.run_bind,Sem.run_pure,Result.andThen_ok,run_underlying hu,if_pos h0,hg]
   ·cases hE
  ·cases hc
 ·
  rename_i t x lo hi hop
  have mapnone:∀(a:Option Operand),a.map ρ=match a with | none=>none | some v=>some (ρ v):=fun a=>by cases a<;>rfl
  split at hc
  ·rename_i e y hu hy
   split at hc
   ·rename_i hpos
    unfold execOp;rw [hop]
    split at hc
    ·injection hc with hc;subst hc
     have hR:=stripS_sound (op1 H hy hv) hsd
     generalize (stripS true vs0).2=vs at*
     simp only [eff,Option.isSome_none,eSlc] at hE
     unfold eSlc00 at hE
     split at hE<;>try cases hE
     rename_i τ z' m f
     split at hE
     ·rename_i hzz;subst hzz
      injection hE with hE;subst hE
      obtain ⟨v,h1,h2⟩:=slc_sound (P:=P) (lo:=none) (hi:=none) (l:=0) (h:=m) hu hpos (rl1 hR) (.inl ⟨rfl,rfl⟩) (.inl ⟨rfl,rfl⟩) (Nat.zero_le _) (Nat.le_refl _)
      refine Snd.good hst ⟨Eff.still_pure _,v,h1, ?_⟩ hnew
      simpa [Eff.pure] using h2
     ·cases hE
    ·rename_i l
     obtain ⟨b,hb,rfl⟩:=of_map hc
     have hR:=stripS_sound (op2 H hy hb hv) hsd
     generalize (stripS true vs0).2=vs at*
     simp only [eff,Option.isSome_none,Option.isSome_some,eSlc] at hE
     unfold eSlc10 at hE
     split at hE
     ·rename_i τ z' m f k n
      split at hE
      ·rename_i hzz;subst hzz
       injection hE with hE;subst hE
       obtain ⟨hr1,hr2⟩:=rl2 hR
       obtain ⟨h0,h1⟩:=hs.1
       obtain ⟨v,h2,h3⟩:=slc_sound (P:=P) (lo:=some (ρ l)) (hi:=none) (l:=n.toNat) (h:=m) hu hpos hr1 (.inr ⟨k,n,by rw [hr2.int_inv],h0,rfl⟩) (.inl ⟨rfl,rfl⟩) h1 (Nat.le_refl _)
       exact Snd.good hst ⟨Eff.still_side _ _,v,h2,h3⟩ hnew
      ·cases hE
     ·rename_i r k n τ e' z' m f
      split at hE
      ·rename_i hzz;subst hzz
       injection hE with hE;subst hE
       obtain ⟨hr1,hr2⟩:=rl2 hR
       obtain ⟨h0,h1⟩:=hs.1
       have hcs':getL st [r]=some [.row τ e' (P.cellsOf e) m f]:=by simpa [I.acc,PV.top] using hcs
       obtain ⟨e0,he0,he1⟩:=getL_one hcs'
       injection he1 with he1 _
       subst he1
       obtain ⟨v,h2,h3⟩:=slc_vw_sound (P:=P) (lo:=some (ρ l)) (hi:=none) (l:=n.toNat) (h:=m) (b:=false) hst hu hpos hr1 he0 (.inr ⟨k,n,by rw [hr2.int_inv],h0,rfl⟩) (.inl ⟨rfl,rfl⟩) h1 (Nat.le_refl _) (fun h=>by cases h)
       exact Snd.good hst ⟨Eff.still_side _ _,v,h2,h3⟩ hnew
      ·cases hE
     ·cases hE
    ·rename_i h'
     obtain ⟨b,hb,rfl⟩:=of_map hc
     have hR:=stripS_sound (op2 H hy hb hv) hsd
     generalize (stripS true vs0).2=vs at*
     simp only [eff,Option.isSome_none,Option.isSome_some,eSlc] at hE
     unfold eSlc01 at hE
     split at hE
     ·rename_i τ z' m f k n
      split at hE
      ·rename_i hzz;subst hzz
       injection hE with hE;subst hE
       obtain ⟨hr1,hr2⟩:=rl2 hR
       obtain ⟨h0,h1⟩:=hs.1
       obtain ⟨v,h2,h3⟩:=slc_sound (P:=P) (lo:=none) (hi:=some (ρ h')) (l:=0) (h:=n.toNat) hu hpos hr1 (.inl ⟨rfl,rfl⟩) (.inr ⟨k,n,by rw [hr2.int_inv],h0,rfl⟩) (Nat.zero_le _) h1
       refine Snd.good hst ⟨Eff.still_side _ _,v,h2, ?_⟩ hnew
       simpa [Eff.side'] using h3
      ·cases hE
     ·rename_i r k n τ e' z' m f
      split at hE
      ·rename_i hzz;subst hzz
       injection hE with hE;subst hE
       obtain ⟨hr1,hr2⟩:=rl2 hR
       obtain ⟨h0,h1⟩:=hs.1
       have hcs':getL st [r]=some [.row τ e' (P.cellsOf e) m f]:=by simpa [I.acc,PV.top] using hcs
       obtain ⟨e0,he0,he1⟩:=getL_one hcs'
       injection he1 with he1 _
       subst he1
       obtain ⟨v,h2,h3⟩:=slc_vw_sound (P:=P) (lo:=none) (hi:=some (ρ h')) (l:=0) (h:=n.toNat) (b:=true) hst hu hpos hr1 he0 (.inl ⟨rfl,rfl⟩) (.inr ⟨k,n,by rw [hr2.int_inv],h0,rfl⟩) (Nat.zero_le _) h1 (fun _=>rfl)
       exact Snd.good hst ⟨Eff.still_side _ _,v,h2,h3⟩ hnew
      ·cases hE
     ·cases hE
    ·rename_i l h'
     split at hc
     ·rename_i b b' hb hb'
      injection hc with hc;subst hc
      have hR:=stripS_sound (op3 H hy hb hb' hv) hsd
      generalize (stripS true vs0).2=vs at*
      simp only [eff,Option.isSome_some,eSlc] at hE
      unfold eSlc11 at hE
      split at hE<;>try cases hE
      rename_i τ z' m f k n k' n'
      split at hE
      ·rename_i hzz;subst hzz
       injection hE with hE;subst hE
       have hr1:=hR.2 0 _ _ rfl rfl
       have hr2:=hR.2 1 _ _ rfl rfl
       have hr3:=hR.2 2 _ _ rfl rfl
       obtain ⟨h0,h1,h2,h3⟩:=hs.1
       obtain ⟨v,h4,h5⟩:=slc_sound (P:=P) (lo:=some (ρ l)) (hi:=some (ρ h')) (l:=n.toNat) (h:=n'.toNat) hu hpos hr1 (.inr ⟨k,n,by rw [hr2.int_inv],h0,rfl⟩) (.inr ⟨k',n',by rw [hr3.int_inv],h2,rfl⟩) h1 h3
       exact Snd.good hst ⟨Eff.still_side _ _,v,h4,h5⟩ hnew
      ·cases hE
     ·cases hc
   ·cases hc
  ·rename_i y hu hy
   unfold execOp;rw [hop]
   split at hc
   ·injection hc with hc;subst hc
    have hR:=stripS_sound (op1 H hy hv) hsd
    generalize (stripS true vs0).2=vs at*
    simp only [eff,Option.isSome_none,eSlcs] at hE
    unfold eSlcs00 at hE
    split at hE<;>try cases hE
    rename_i s
    obtain ⟨v,h1,h2⟩:=slcs_sound (P:=P) (lo:=none) (hi:=none) (l:=0) (h:=s.length) hu (rl1 hR) (.inl ⟨rfl,rfl⟩) (.inl ⟨rfl,rfl⟩) (Nat.zero_le _) (Nat.le_refl _)
    refine Snd.good hst ⟨Eff.still_pure _,v,h1, ?_⟩ hnew
    simpa [Eff.pure] using h2
   ·rename_i l
    obtain ⟨b,hb,rfl⟩:=of_map hc
    have hR:=stripS_sound (op2 H hy hb hv) hsd
    generalize (stripS true vs0).2=vs at*
    simp only [eff,Option.isSome_none,Option.isSome_some,eSlcs] at hE
    unfold eSlcs10 at hE
    split at hE<;>try cases hE
    rename_i s k n
    obtain ⟨hr1,hr2⟩:=rl2 hR
    obtain ⟨h0,h1⟩:=hs.1
    obtain ⟨v,h2,h3⟩:=slcs_sound (P:=P) (lo:=some (ρ l)) (hi:=none) (l:=n.toNat) (h:=s.length) hu hr1 (.inr ⟨k,n,by rw [hr2.int_inv],h0,rfl⟩) (.inl ⟨rfl,rfl⟩) h1 (Nat.le_refl _)
    refine Snd.good hst ⟨Eff.still_side _ _,v,h2, ?_⟩ hnew
    simpa [Eff.side'] using h3
   ·rename_i h'
    obtain ⟨b,hb,rfl⟩:=of_map hc
    have hR:=stripS_sound (op2 H hy hb hv) hsd
    generalize (stripS true vs0).2=vs at*
    simp only [eff,Option.isSome_none,Option.isSome_some,eSlcs] at hE
    unfold eSlcs01 at hE
    split at hE<;>try cases hE
    rename_i s k n
    obtain ⟨hr1,hr2⟩:=rl2 hR
    obtain ⟨h0,h1⟩:=hs.1
    obtain ⟨v,h2,h3⟩:=slcs_sound (P:=P) (lo:=none) (hi:=some (ρ h')) (l:=0) (h:=n.toNat) hu hr1 (.inl ⟨rfl,rfl⟩) (.inr ⟨k,n,by rw [hr2.int_inv],h0,rfl⟩) (Nat.zero_le _) h1
    refine Snd.good hst ⟨Eff.still_side _ _,v,h2, ?_⟩ hnew
    simpa [Eff.side'] using h3
   ·rename_i l h'
    split at hc
    ·rename_i b b' hb hb'
     injection hc with hc;subst hc
     have hR:=stripS_sound (op3 H hy hb hb' hv) hsd
     generalize (stripS true vs0).2=vs at*
     simp only [eff,Option.isSome_some,eSlcs] at hE
     unfold eSlcs11 at hE
     split at hE<;>try cases hE
     rename_i s k n k' n'
     have hr1:=hR.2 0 _ _ rfl rfl
     have hr2:=hR.2 1 _ _ rfl rfl
     have hr3:=hR.2 2 _ _ rfl rfl
     obtain ⟨h0,h1,h2,h3⟩:=hs.1
     obtain ⟨v,h4,h5⟩:=slcs_sound (P:=P) (lo:=some (ρ l)) (hi:=some (ρ h')) (l:=n.toNat) (h:=n'.toNat) hu hr1 (.inr ⟨k,n,by rw [hr2.int_inv],h0,rfl⟩) (.inr ⟨k',n',by rw [hr3.int_inv],h2,rfl⟩) h1 h3
     exact Snd.good hst ⟨Eff.still_side _ _,v,h4,h5⟩ hnew
    ·cases hc
  ·cases hc
 ·
  rename_i t n c' hop
  split at hc
  ·rename_i e y z hu hy hz
   split at hc
   ·rename_i zero hzero
    split at hc
    ·rename_i hpos
     injection hc with hc;subst hc
     have hR:=stripS_sound (op2 H hy hz hv) hsd
     generalize (stripS true vs0).2=vs at*
     unfold execOp;rw [hop]
     simp only [eff] at hE
     unfold eMks at hE
     split at hE
     ·rename_i k a k' b
      split at hE
      ·rename_i hcond
       injection hE with hE;subst hE
       obtain ⟨hr1,hr2⟩:=rl2 hR
       obtain ⟨g0,g1,g2,g3,_⟩:=hs
       have hm:=mks_sound (P:=P) (k:=k) (k':=k') (n:=a) (c:=b) hst hX hu hpos hzero hcond.2.1 hcond.1 hcond.2.2 g0 g1 g2 g3 _ rfl rfl rfl rfl rfl hnew
       rw [←hr1.int_inv,←hr2.int_inv] at hm
       exact hm
      ·cases hE
     ·cases hE
    ·cases hc
   ·cases hc
  ·cases hc
 ·
  rename_i x k hop
  obtain ⟨y,hy,rfl⟩:=of_map hc
  have hR:=stripS_sound (op1 H hy hv) hsd
  generalize (stripS true vs0).2=vs at*
  unfold execOp;rw [hop]
  simp only [eff] at hE
  unfold eEx at hE
  split at hE
  ·rename_i ps
   split at hE
   ·rename_i p hp
    injection hE with hE;subst hE
    obtain ⟨us,hus,hur⟩:=(rl1 hR).tup_inv
    obtain ⟨u,hu,hpu⟩:=hur.at hp
    refine Snd.good hst ⟨Eff.still_pure _,u, ?_,hpu⟩ hnew
    rw [hus];simp [Instr.extract,hu]
   ·cases hE
  ·cases hE
 ·
  rename_i f first caps hop
  split at hc
  ·rename_i a b ha hb
   injection hc with hc;subst hc
   have hv':∃va vb,vs0=va++vb∧valL fr a=some va∧valL fr b=some vb:=by
    have:∀(l l':List A) (r:List PV),valL fr (l++l')=some r→∃va vb,r=va++vb∧valL fr l=some va∧valL fr l'=some vb:=by
     intro l
     induction l with
     | nil=>intro l' r h;exact ⟨[],r,rfl,rfl,h⟩
     | cons x l ih=>
       intro l' r h
       simp only [List.cons_append,valL] at h
       split at h
       ·rename_i p ps hp hps
        injection h with h;subst h
        obtain ⟨va,vb,rfl,h1,h2⟩:=ih l' ps hps
        exact ⟨p::va,vb,rfl,by simp [valL,hp,h1],h2⟩
       ·cases h
    exact this a b vs0 hv
   obtain ⟨va,vb,rfl,h1,h2⟩:=hv'
   have hRa:=args_rep H ha h1
   have hRb:=args_rep H hb h2
   have hR:=stripS_sound (hRa.append hRb) hsd
   have hlen:∀l,(stripS true l).2.length=l.length:=by
    intro l
    have:∀l,(stripL true l).2.length=l.length:=by
     intro l
     induction l with
     | nil=>rfl
     | cons p l ih=>cases p<;>simp [stripL,ih]
    unfold stripS
    cases l.any PV.isCnd with
    | false=>rfl
    | true=>exact this l
   have hl:=hlen (va++vb)
   generalize (stripS true (va++vb)).2=vs at*
   unfold execOp;rw [hop]
   simp only [eff,Option.some.injEq] at hE
   subst hE
   have hval:va.length=a.length:=valL_length h1
   have hra:RepL X γ w (vs.take a.length) (first.toList.map ρ):=by
    have:=hR.take a.length
    rw [List.take_left' (by rw [List.length_map,←mapO_length ha])] at this
    exact this
   have hrb:RepL X γ w (vs.drop a.length) (caps.toList.map ρ):=by
    have:=hR.drop a.length
    rw [List.drop_left' (by rw [List.length_map,←mapO_length ha])] at this
    exact this
   refine Snd.good hst ⟨Eff.still_pure _,_,rfl, ?_⟩ hnew
   have:=Rep.fn (X:=X) (γ:=γ) (w:=w) f _ _ _ _ hra.1 hrb.1 hra.2 hrb.2
   have e1:(first.toList.map ρ).toArray=first.map ρ:=by rw [←Array.toList_map,Array.toArray_toList]
   have e2:(caps.toList.map ρ).toArray=caps.map ρ:=by rw [←Array.toList_map,Array.toArray_toList]
   rw [e1,e2] at this
   exact this
  ·cases hc
 ·
  rename_i t hop
  split at hc
  ·rename_i ks ka vks va hT
   injection hc with hc;subst hc
   unfold execOp;rw [hop]
   have hv0:vs0= []:=by simpa [I.opr,valL] using hv.symm
   subst hv0
   have:(stripS true []).2=([]:List PV):=rfl
   rw [this] at hE
   simp only [eff,eMkm,Option.some.injEq] at hE
   exact mkm_sound hst hX hT E hE.symm hnew
  ·cases hc
 ·
  rename_i t x ix ok hop
  split at hc
  ·rename_i ks ka vks va y z hT hy hz
   injection hc with hc;subst hc
   have hR:=stripS_sound (op2 H hy hz hv) hsd
   generalize (stripS true vs0).2=vs at*
   unfold execOp;rw [hop]
   simp only [eff] at hE
   unfold eMpg at hE
   split at hE
   ·rename_i r key ks' vks' ka' va' h f
    split at hE
    ·rename_i kc hsm hkc
     obtain ⟨rfl,rfl,rfl,rfl⟩:=sameMp_eq hsm
     split at hE
     ·rename_i p ho
      obtain ⟨hr1,hr2⟩:=rl2 hR
      obtain ⟨e0,he,hce⟩:=getL_one hcs
      injection hce with hce;subst hce
      obtain ⟨v,h1,h2⟩:=mpg_sound (ok:=ok) hst hT hr1 hr2 he hkc ho
      split at hE
      ·injection hE with hE;subst hE
       exact Snd.good hst ⟨Eff.still_pure _,v,h1,h2⟩ hnew
      ·injection hE with hE;subst hE
       exact Snd.good hst ⟨Eff.still_pure _,v,h1,h2⟩ hnew
     ·cases hE
    ·cases hE
   ·cases hE
  ·cases hc
 ·
  rename_i t m x v hop
  split at hc
  ·rename_i ks ka vks va y z u hT hy hz hu
   injection hc with hc;subst hc
   have hR:=stripS_sound (op3 H hy hz hu hv) hsd
   generalize (stripS true vs0).2=vs at*
   unfold execOp;rw [hop]
   simp only [eff] at hE
   unfold eMpu at hE
   split at hE
   ·rename_i r key val ks' vks' ka' va' h f
    split at hE
    ·rename_i kc vc hsm hkc hvc
     obtain ⟨rfl,rfl,rfl,rfl⟩:=sameMp_eq hsm
     injection hE with hE
     obtain ⟨hr1,hr2,hr3⟩:=rl3 hR
     obtain ⟨e0,he,hce⟩:=getL_one hcs
     injection hce with hce;subst hce
     exact mpu_sound hst hT hr1 hr2 hr3 he hkc hvc E hE.symm (fst_zero (by rw [←hE]) hnew)
    ·cases hE
   ·cases hE
  ·cases hc
 ·
  rename_i cl hop
  unfold execOp;rw [hop]
  split at hc
  ·
   rename_i hcal
   split at hc
   ·rename_i x t hxs hts
    have hargs:cl.args= #[x]:=by apply Array.ext';simpa using hxs
    have htys:cl.argTypes= #[t]:=by apply Array.ext';simpa using hts
    have hm:∀v,(Builtin.len_ #[t] o.type #[ρ x]).run P w= .ok v w→((do let d←resolve ρ cl o.type;invoke d.target d.args):Sem Next).run P w= .ok (.value v) w:=fun v h=>by
     simp [resolve,hcal,hargs,htys,invoke,builtin,h]
    split at hc
    ·rename_i e hu
     obtain ⟨y,hy,rfl⟩:=of_map hc
     have hR:=stripS_sound (op1 H hy hv) hsd
     generalize (stripS true vs0).2=vs at*
     simp only [eff] at hE
     have key:∀p (m:Nat),vs= [p]→E= .pure (.int .i64 (m:Int))→(match (generalizing:=false) p,cs with | .sl _ _ m' _,_=>m=m' | .nil _,_=>m=0 | .os _, [.row _ _ _ m' _]=>m=m' | .vw _ _ _ m',_=>m=m' | .rf (some (_,m')) _,_=>m=m' | _,_=>False)→getL st p.top=some cs→Snd P X γ w st E st' (do let d←resolve ρ cl o.type;invoke d.target d.args):=by
      intro p m hp hEE hmm hcs'
      subst hp;subst hEE
      have hl:=len_sound o.type hst hu (rl1 hR) hcs' hmm
      cases still_st (Eff.still_pure _) hnew
      exact ⟨_,_,w,γ,hm _ hl, .inl rfl,EffOK.still (Eff.still_pure _) hst (.int _ _)⟩
     unfold eLen at hE
     split at hE
     ·injection hE with hE;exact key _ _ rfl hE.symm rfl (by simpa [I.acc,PV.top] using hcs)
     ·injection hE with hE;exact key _ 0 rfl hE.symm rfl (by simpa [I.acc,PV.top] using hcs)
     ·injection hE with hE;exact key _ _ rfl hE.symm rfl (by simpa [I.acc,PV.top] using hcs)
     ·injection hE with hE;exact key _ _ rfl hE.symm rfl (by simpa [I.acc,PV.top] using hcs)
     ·injection hE with hE;exact key _ _ rfl hE.symm rfl (by simpa [I.acc,PV.top] using hcs)
     ·cases hE
    ·rename_i hu
     obtain ⟨y,hy,rfl⟩:=of_map hc
     have hR:=stripS_sound (op1 H hy hv) hsd
     generalize (stripS true vs0).2=vs at*
     simp only [eff] at hE
     unfold eLens at hE
     split at hE
     ·injection hE with hE;subst hE
      have hl:=lens_sound (P:=P) o.type hu (rl1 hR)
      cases still_st (Eff.still_pure _) hnew
      exact ⟨_,_,w,γ,hm _ hl, .inl rfl,EffOK.still (Eff.still_pure _) hst (.int _ _)⟩
     ·cases hE
    ·cases hc
   ·cases hc
  ·
   rename_i hcal
   split at hc
   ·rename_i y ys hys
    injection hc with hc;subst hc
    have hR:=stripS_sound (args_rep H hys hv) hsd
    generalize (stripS true vs0).2=vs at*
    simp only [eff] at hE
    unfold eMx at hE
    split at hE
    ·rename_i k n r
     split at hE
     ·rename_i p hp
      injection hE with hE;subst hE
      obtain ⟨u,us,hu,hu1,hus⟩:=hR.cons_inv
      obtain ⟨v,h1,h2⟩:=max_run (P:=P) k n r us p hus hp
      cases still_st (Eff.still_pure _) hnew
      refine ⟨_,v,w,γ, ?_, .inl rfl,EffOK.still (Eff.still_pure _) hst h2⟩
      have hl:(cl.args.map ρ).toList=u::us:=by simpa using hu
      have:(Builtin.max_ cl.argTypes o.type (cl.args.map ρ)).run P w= .ok v w:=by
       unfold Builtin.max_;rw [hl,hu1.int_inv];exact h1
      simp [resolve,hcal,invoke,builtin,this]
     ·cases hE
    ·cases hE
   ·cases hc
  ·
   rename_i hcal
   split at hc
   ·rename_i y ys hys
    injection hc with hc;subst hc
    have hR:=stripS_sound (args_rep H hys hv) hsd
    generalize (stripS true vs0).2=vs at*
    simp only [eff] at hE
    unfold eMn at hE
    split at hE
    ·rename_i k n r
     split at hE
     ·rename_i p hp
      injection hE with hE;subst hE
      obtain ⟨u,us,hu,hu1,hus⟩:=hR.cons_inv
      obtain ⟨v,h1,h2⟩:=min_run (P:=P) k n r us p hus hp
      cases still_st (Eff.still_pure _) hnew
      refine ⟨_,v,w,γ, ?_, .inl rfl,EffOK.still (Eff.still_pure _) hst h2⟩
      have hl:(cl.args.map ρ).toList=u::us:=by simpa using hu
      have:(Builtin.min_ cl.argTypes o.type (cl.args.map ρ)).run P w= .ok v w:=by
       unfold Builtin.min_;rw [hl,hu1.int_inv];exact h1
      simp [resolve,hcal,invoke,builtin,this]
     ·cases hE
    ·cases hE
   ·cases hc
  ·
   rename_i hcal
   split at hc
   ·rename_i x y t u hxs hts
    split at hc
    ·rename_i htu
     have htu:t=u:=by simpa using htu
     subst htu
     have hargs:cl.args= #[x,y]:=by apply Array.ext';simpa using hxs
     have htys:cl.argTypes= #[t,t]:=by apply Array.ext';simpa using hts
     split at hc
     ·rename_i e a b hu ha hb
      split at hc
      ·rename_i hcond
       simp only [Bool.and_eq_true,decide_eq_true_eq] at hcond
       injection hc with hc;subst hc
       have hR:=stripS_sound (opT2 H ha hb hv) hsd
       generalize (stripS true vs0).2=vs at*
       have hmain:Snd P X γ w st E st' (do pure (.value (←Builtin.append_ #[t,t] o.type #[ρ x,ρ y]))):=by
        simp only [eff] at hE
        unfold eApp at hE
        split at hE
        ·rename_i r lo h q τ e' z' m f cs'
         split at hE
         ·rename_i τ' z'' m' f' hsrc
          split at hE
          ·rename_i heq
           obtain ⟨he1,he2,he3,hfx⟩:=heq
           injection hE with hE;subst hE
           subst he1;subst he2;subst he3
           obtain ⟨hr1,hr2⟩:=rl2 hR
           have hcs':getL st ([r]++q.top)=some (.row τ e (P.cellsOf e) m f::cs'):=by
            simpa [I.acc,PV.top] using hcs
           obtain ⟨c1,c2,hcc,hc1,hc2⟩:=getL_append _ _ _ hcs'
           obtain ⟨e0,he0,rfl⟩:=getL_one hc1
           simp only [List.cons_append,List.nil_append,List.cons.injEq] at hcc
           obtain ⟨hcc1,rfl⟩:=hcc
           subst hcc1
           exact app_vw_sound o.type hst hX hu hcond.2 hcond.1 hr1 hr2 he0 hc2 hsrc hs.1 hs.2.1 hfx _ rfl rfl rfl rfl rfl (fst_zero rfl hnew)
          ·cases hE
         ·cases hE
        ·rename_i r q τ e' z' m f cs'
         split at hE
         ·rename_i τ' z'' m' f' hsrc
          split at hE
          ·rename_i heq
           obtain ⟨he1,he2,he3,hfx⟩:=heq
           injection hE with hE;subst hE
           subst he1;subst he2;subst he3
           obtain ⟨hr1,hr2⟩:=rl2 hR
           have hcs':getL st ([r]++q.top)=some (.row τ e (P.cellsOf e) m f::cs'):=by
            simpa [I.acc,PV.top] using hcs
           obtain ⟨c1,c2,hcc,hc1,hc2⟩:=getL_append _ _ _ hcs'
           obtain ⟨e0,he0,rfl⟩:=getL_one hc1
           simp only [List.cons_append,List.nil_append,List.cons.injEq] at hcc
           obtain ⟨hcc1,rfl⟩:=hcc
           subst hcc1
           exact app_os_sound o.type hst hX hu hcond.2 hcond.1 hr1 hr2 he0 hc2 hsrc hs.1 hs.2.1 hfx _ rfl rfl rfl rfl rfl (fst_zero rfl hnew)
          ·cases hE
         ·cases hE
        ·rename_i z0 q
         split at hE
         ·rename_i τ' z'' m' f' hsrc
          split at hE
          ·rename_i heq
           obtain ⟨heq,hfx⟩:=heq
           subst heq
           injection hE with hE;subst hE
           obtain ⟨hr1,hr2⟩:=rl2 hR
           exact app_nil_sound o.type hst hX hu hcond.2 hcond.1 hr1 hr2 (by simpa [I.acc,PV.top] using hcs) hsrc hs.1 hs.2.1 hfx _ rfl rfl rfl rfl rfl hnew
          ·cases hE
         ·cases hE
        ·cases hE
       obtain ⟨nx,v,w',γ',hrun,hnx,hok⟩:=hmain
       refine ⟨nx,v,w',γ', ?_,hnx,hok⟩
       rw [←hrun]
       simp [resolve,hcal,hargs,htys,invoke,builtin]
      ·cases hc
     ·cases hc
    ·cases hc
   ·cases hc
  ·
   rename_i hcal
   split at hc
   ·rename_i x t hxs hts
    have hargs:cl.args= #[x]:=by apply Array.ext';simpa using hxs
    have htys:cl.argTypes= #[t]:=by apply Array.ext';simpa using hts
    split at hc
    ·rename_i e y hu hy
     split at hc
     ·rename_i zero hzero
      split at hc
      ·rename_i hpos
       injection hc with hc;subst hc
       have hR:=stripS_sound (op1 H hy hv) hsd
       generalize (stripS true vs0).2=vs at*
       have hmain:Snd P X γ w st E st' (do pure (.value (←Builtin.clear_ #[t] o.type #[ρ x]))):=by
        simp only [eff] at hE
        unfold eClr at hE
        split at hE
        ·rename_i b r lo n τ e' z' m f
         split at hE
         ·rename_i hcond
          injection hE with hE;subst hE
          obtain ⟨e0,he0,hce⟩:=getL_one hcs
          injection hce with hce;subst hce
          exact clr_sound o.type hst hu hpos hzero hcond.2.1 hcond.1 hcond.2.2 (rl1 hR) he0 hs.1 _ rfl rfl rfl rfl rfl (fst_zero rfl hnew)
         ·cases hE
        ·cases hE
       obtain ⟨nx,v,w',γ',hrun,hnx,hok⟩:=hmain
       refine ⟨nx,v,w',γ', ?_,hnx,hok⟩
       rw [←hrun]
       simp [resolve,hcal,hargs,htys,invoke,builtin]
      ·cases hc
     ·cases hc
    ·cases hc
   ·cases hc
  ·
   rename_i hcal
   split at hc
   ·rename_i x y t u hxs hts
    split at hc
    ·rename_i htu
     have htu:t=u:=by simpa using htu
     subst htu
     have hargs:cl.args= #[x,y]:=by apply Array.ext';simpa using hxs
     have htys:cl.argTypes= #[t,t]:=by apply Array.ext';simpa using hts
     split at hc
     ·rename_i e a b hu ha hb
      split at hc
      ·rename_i hpos
       injection hc with hc;subst hc
       have hR:=stripS_sound (opX2 (P:=P) H ha hb hv) hsd
       generalize (stripS true vs0).2=vs at*
       have hmain:Snd P X γ w st E st' (do pure (.value (←Builtin.copy_ #[t,t] o.type #[ρ x,ρ y]))):=by
        simp only [eff] at hE
        unfold eCpy at hE
        split at hE
        ·rename_i r q τ e' z1 m f cs'
         split at hE
         ·rename_i τ' z2 m' g hsrc
          split at hE
          ·rename_i heq
           obtain ⟨he1,he2,hfx⟩:=heq
           injection hE with hE;subst hE
           subst he1;subst he2
           obtain ⟨hr1,hr2⟩:=rl2 hR
           have hcs':getL st ([r]++q.top)=some (.row τ e' (P.cellsOf e) m f::cs'):=by
            simpa [I.acc,PV.top] using hcs
           obtain ⟨c1,c2,hcc,hc1,hc2⟩:=getL_append _ _ _ hcs'
           obtain ⟨e0,he0,rfl⟩:=getL_one hc1
           simp only [List.cons_append,List.nil_append,List.cons.injEq] at hcc
           obtain ⟨hcc1,rfl⟩:=hcc
           subst hcc1
           exact cpy_sound o.type hst hu hpos hr1 hr2 he0 hc2 hsrc hfx _ rfl rfl rfl rfl rfl (fst_zero rfl hnew)
          ·cases hE
         ·cases hE
        ·cases hE
       obtain ⟨nx,v,w',γ',hrun,hnx,hok⟩:=hmain
       refine ⟨nx,v,w',γ', ?_,hnx,hok⟩
       rw [←hrun]
       simp [resolve,hcal,hargs,htys,invoke,builtin]
      ·cases hc
     ·cases hc
    ·cases hc
   ·cases hc
  ·cases hc
  ·
   split at hc
   ·split at hc
    ·injection hc with hc;subst hc;cases hnc
    ·cases hc
   ·cases hc
  ·cases hc
 ·cases hc
end
open Go.RowKit
def resSt (c:CallRes):Nat→Option SE:=fun r=>if newBase≤r then c.news[r - newBase]? else c.st[r]?
def nbx:List SE→Nat
 | .row .. ::_=>0
 | bs=>bs.length
theorem nbx_rows:∀{bs:List SE},bs.any SE.isRow=false→nbx bs=bs.length
 | [],_=>rfl
 | .row .. ::_,h=>by simp [SE.isRow] at h
 | .box _::_,_=>rfl
 | .bld .. ::_,_=>rfl
def parN (bs:List SE) (c:CallRes):Nat:=match bs with
 | .row .. ::_=>c.st.length
 | bs=>bs.length
theorem parN_rows {bs:List SE} {c:CallRes} (h:bs.any SE.isRow=false):parN bs c=bs.length:=by
 cases bs with
 | nil=>rfl
 | cons e bs=>cases e with
   | row _ _ _ _ _=>simp [SE.isRow] at h
   | _=>rfl
theorem parN_of {bs:List SE} {c:CallRes} (h:c.st.length=nbx bs):parN bs c=nbx bs:=by
 cases bs with
 | nil=>rfl
 | cons e bs=>cases e with
   | row _ _ _ _ _=>exact h
   | _=>rfl
def ParR (r:Nat) (g g0:Option GE):Option SE→Prop
 | some (.row ..)=>(r=0→g=g0)∧∃ge ge0,g=some ge∧g0=some ge0∧ge.blk=ge0.blk∧ge.hdr=ge0.hdr
 | e=>ParOK g g0 e
theorem ParOK.r {r:Nat} {g g0:Option GE} {e:Option SE} (h:ParOK g g0 e) (hr:∀τ e' z n f,e=some (.row τ e' z n f)→r≠0):ParR r g g0 e:=by
 cases e with
 | none=>exact h
 | some e=>cases e with
   | row _ _ _ _ _=>exact ⟨fun h0=>absurd h0 (hr _ _ _ _ _ rfl),h⟩
   | _=>exact h
def PureCallC (C:FuncId→Array Value→World→(Ending→World→Prop)→Prop) (P:Program) (f:FuncId) (args:List PV) (bs:List SE) (c:CallRes):Prop:=
 (∃fn,P.funcs[f]? =some fn∧fn.body.isSome=true∧(fn.name== "runtime.NumGoroutine")=false)∧
 ∀(w:World) (γ:Gh) (aas ls:Nat→Prop) (vals:List Value),RepSt ⟨w.heap.size,aas,ls,nbx bs,γ, []⟩ γ w (fun r=>bs[r]?)→(∀b,aas b∨ls b→b<w.heap.size)→
  RepL ⟨w.heap.size,aas,ls,nbx bs,γ, []⟩ γ w args vals→
  C f vals.toArray w fun e w'=>∃v γ',e= .returned v∧Rep ⟨w.heap.size,aas,ls,nbx bs,γ, []⟩ γ' w' c.val v∧RepSt ⟨w.heap.size,aas,ls,nbx bs,γ, []⟩ γ' w' (resSt c)∧
   Keeps γ.own w w'∧(∀r,r<parN bs c→ParR r (γ' r) (γ r) (resSt c r))∧(∀r ge b,γ' r=some ge→ge.has b→w.heap.size≤b∨(nbx bs=0∧γ.own b)∨∃ge0,γ r=some ge0∧ge0.has b)
def PureCall (P:Program) (f:FuncId) (args:List PV) (bs:List SE) (c:CallRes):Prop:=
 (∃fn,P.funcs[f]? =some fn∧fn.body.isSome=true∧(fn.name== "runtime.NumGoroutine")=false)∧
 ∀(w:World) (γ:Gh) (aas ls:Nat→Prop) (vals:List Value),RepSt ⟨w.heap.size,aas,ls,nbx bs,γ, []⟩ γ w (fun r=>bs[r]?)→(∀b,aas b∨ls b→b<w.heap.size)→
  RepL ⟨w.heap.size,aas,ls,nbx bs,γ, []⟩ γ w args vals→
  Calls P f vals.toArray w fun e w'=>∃v γ',e= .returned v∧Rep ⟨w.heap.size,aas,ls,nbx bs,γ, []⟩ γ' w' c.val v∧RepSt ⟨w.heap.size,aas,ls,nbx bs,γ, []⟩ γ' w' (resSt c)∧
   Keeps γ.own w w'∧(∀r,r<parN bs c→ParR r (γ' r) (γ r) (resSt c r))∧(∀r ge b,γ' r=some ge→ge.has b→w.heap.size≤b∨(nbx bs=0∧γ.own b)∨∃ge0,γ r=some ge0∧ge0.has b)
theorem PureCall.eqC {P:Program}:PureCall P=PureCallC (Calls P) P:=rfl
def MonoC (C:FuncId→Array Value→World→(Ending→World→Prop)→Prop):Prop:=∀f args w R R',C f args w R→(∀e w',R e w'→R' e w')→C f args w R'
theorem calls_mono (P:Program):MonoC (Calls P):=fun _ _ _ _ _ h hr=>h.mono hr
section
variable {P:Program} {X X':Cx} {γ γ':Gh} {w w':World} {st st':Nat→Option SE}
theorem lendT_pos (τ:Nat):1≤lendT τ:=by cases τ<;>simp [lendT]
theorem lendT_ge (τ:Nat):τ≤lendT τ:=by cases τ<;>simp [lendT]
theorem lendT_mono {a b:Nat} (h:a≤b):lendT a≤lendT b:=by
 cases a with
 | zero=>exact lendT_pos b
 | succ a=>cases b with
   | zero=>omega
   | succ b=>exact h
theorem flat_mark {c:PV} (h:c.flat=true) (τ:Nat):(c.mark τ).flat=true:=by
 cases c with
 | fn f a b=>
   obtain ⟨rfl,hb⟩:=flat_fn h
   simp only [PV.mark,PV.flat,allRp_marks];exact hb
 | _=>first | rfl | (simp [PV.flat] at h)
structure Lent (X X':Cx) (γ γ':Gh) (w:World):Prop where
 as_:∀b,b<w.heap.size→mayLie X γ 1 b→mayLie X' γ' 1 b
 ls_:∀τ b,b<w.heap.size→mayLie X γ τ b→mayLie X' γ' 2 b
theorem Lent.lie (h:Lent X X' γ γ' w) {τ b:Nat} (hb:b<w.heap.size) (hm:mayLie X γ τ b):mayLie X' γ' (lendT τ) b:=by
 rcases Nat.lt_or_ge 1 τ with ht | ht
 ·exact (h.ls_ τ b hb hm).mono (Nat.le_trans ht (lendT_ge τ))
 ·exact (h.as_ b hb (hm.mono ht)).mono (lendT_pos τ)
theorem Rep.lendA {p:PV} {v:Value} (h:Rep X γ w p v) (hL:Lent X X' γ γ' w):(p.flat=true∨∃τ cs,p= .rp τ cs)→∀τ',lendT p.tau≤τ'→Rep X' γ' w (p.mark τ') v:=by
 induction h with
 | int k n=>intro _ _ _;exact .int k n
 | bool b=>intro _ _ _;exact .bool b
 | str s=>intro _ _ _;exact .str s
 | sl τ z n f ad cap vs hcap hz hf hb h ih=>
   intro _ τ' ht
   simp only [PV.tau] at ht
   refine .sl τ' z n f ad cap vs hcap hz hf (fun hn=> ?_) (fun i j c hi hc=> ?_)
   ·obtain ⟨a,rfl,hm,hlt,hc⟩:=hb hn
    exact ⟨a,rfl,(hL.lie hlt hm).mono ht,hlt,fun k hk=>cellT_up (Nat.le_trans (lendT_ge τ) ht) (hc k hk)⟩
   ·have hfl:=hf i hi c (List.mem_of_getElem? hc)
    have hle:lendT (c.mark τ).tau≤τ':=Nat.le_trans (lendT_mono (tau_mark c τ)) ht
    have:=ih i j c hi hc (.inl (flat_mark hfl τ)) τ' hle
    rwa [mark_mark] at this
 | rp τ cs a vs hf hb hc h ih=>
   intro _ τ' ht
   simp only [PV.tau] at ht
   refine .rp τ' cs a vs hf (fun hn=> ?_) (fun k hk=>cellT_up (Nat.le_trans (lendT_ge τ) ht) (hc k hk)) (fun k c hk=> ?_)
   ·obtain ⟨h1,h2⟩:=hb hn
    exact ⟨(hL.lie h2 h1).mono ht,h2⟩
   ·have hfl:=hf c (List.mem_of_getElem? hk)
    have hle:lendT (c.mark τ).tau≤τ':=Nat.le_trans (lendT_mono (tau_mark c τ)) ht
    have:=ih k c hk (.inl (flat_mark hfl τ)) τ' hle
    rwa [mark_mark] at this
 | fn f first caps vs us hl hl' h h' ih ih'=>
   intro hf τ' ht
   have hf:(PV.fn f first caps).flat=true:=by
    rcases hf with hf | ⟨_,_,hf⟩
    ·exact hf
    ·cases hf
   obtain ⟨rfl,hb⟩:=flat_fn hf
   simp only [PV.tau] at ht
   refine .fn f [] _ vs us hl (by rw [rpMarks_len];exact hl') (fun k c u hk=>by simp at hk) fun k c u hk hu=> ?_
   rw [rpMarks_get] at hk
   obtain ⟨c0,h0,rfl⟩:=Option.map_eq_some_iff.1 hk
   obtain ⟨τ0,cs0,rfl⟩:=allRp_get hb k c0 h0
   exact ih' k _ u h0 hu (.inr ⟨_,_,rfl⟩) τ' (Nat.le_trans (lendT_mono (rpTau_le h0)) ht)
 | _=>
   intro hf
   rcases hf with hf | ⟨_,_,hf⟩
   ·simp [PV.flat] at hf
   ·cases hf
theorem Rep.lend {p:PV} {v:Value} (h:Rep X γ w p v) (hL:Lent X X' γ γ' w) (hf:p.flat=true):∀τ',lendT p.tau≤τ'→Rep X' γ' w (p.mark τ') v:=h.lendA hL (.inl hf)
theorem Rep.lend_rp {τ:Nat} {cs:List PV} {v:Value} (h:Rep X γ w (.rp τ cs) v) (hL:Lent X X' γ γ' w):Rep X' γ' w (.rp (lendT τ) cs) v:=h.lendA hL (.inr ⟨_,_,rfl⟩) (lendT τ) (Nat.le_refl _)
theorem RowsRep.lend {τ z n:Nat} {f:Nat→List PV} {vs:List Value} (h:RowsRep X γ w τ z n f vs) (hL:Lent X X' γ γ' w) {τ':Nat} (ht:lendT τ≤τ'):RowsRep X' γ' w τ' z n f vs:=
 ⟨h.len,h.one,h.hz,h.hf,fun i j c u hi hc hu=>by
  have hfl:=h.hf i hi c (List.mem_of_getElem? hc)
  have hle:lendT (c.mark τ).tau≤τ':=Nat.le_trans (lendT_mono (tau_mark c τ)) ht
  have:=(h.rep i j c u hi hc hu).lend hL (flat_mark hfl τ) τ' hle
  rwa [mark_mark] at this⟩
theorem idx_get:∀{ids:List Nat} {cs:List SE} {r:Nat} {e:SE},getL st ids=some cs→idx ids cs r=some e→r∈ids∧st r=some e
 | [],cs,r,e,hg,h=>by simp [idx] at h
 | i::is,cs,r,e,hg,h=>by
   simp only [getL] at hg
   split at hg
   ·rename_i e1 es he1 hes
    injection hg with hg;subst hg
    simp only [idx] at h
    split at h
    ·rename_i hir;subst hir;injection h with h;subst h;exact ⟨by simp,he1⟩
    ·obtain ⟨h1,h2⟩:=idx_get hes h;exact ⟨by simp [h1],h2⟩
   ·cases hg
theorem boxNo_get:∀{ids:List Nat} {cs:List SE} {k r j:Nat} {bs:List (Nat×SE)},boxNo ids cs k r=some j→boxesOf ids cs=some bs→∃i,j=k+i∧(bs[i]?).map (·.1)=some r
 | [],cs,k,r,j,bs,h,hb=>by simp [boxNo] at h
 | i::is, [],k,r,j,bs,h,hb=>by simp [boxNo] at h
 | i::is, .box l::cs,k,r,j,bs,h,hb=>by
   simp only [boxesOf] at hb
   split at hb
   ·rename_i l' rest hl hrest
    injection hb with hb;subst hb
    simp only [boxNo] at h
    split at h
    ·rename_i hir;subst hir;injection h with h;exact ⟨0,by omega,rfl⟩
    ·obtain ⟨i',h1,h2⟩:=boxNo_get h hrest
     exact ⟨i'+1,by omega,by simpa using h2⟩
   ·cases hb
 | i::is, .row .. ::cs,k,r,j,bs,h,hb=>by
   simp only [boxesOf] at hb
   simp only [boxNo] at h
   split at h
   ·cases h
   ·exact boxNo_get h hb
 | i::is, .bld .. ::cs,k,r,j,bs,h,hb=>by
   simp only [boxesOf] at hb
   split at hb
   ·rename_i rest hrest
    injection hb with hb;subst hb
    simp only [boxNo] at h
    split at h
    ·rename_i hir;subst hir;injection h with h;exact ⟨0,by omega,rfl⟩
    ·obtain ⟨i',h1,h2⟩:=boxNo_get h hrest
     exact ⟨i'+1,by omega,by simpa using h2⟩
   ·cases hb
theorem boxesOf_get:∀{ids:List Nat} {cs:List SE} {bs:List (Nat×SE)},getL st ids=some cs→boxesOf ids cs=some bs→∀(k r:Nat) (e:SE),bs[k]? =some (r,e)→r∈ids∧((∃l l',st r=some (.box l)∧lendCells l=some l'∧e= .box l')∨∃T t s,st r=some (.bld T t s)∧e= .bld T t s)
 | [],cs,bs,hg,h,k,r,e,hk=>by
   simp only [getL,Option.some.injEq] at hg;subst hg
   simp only [boxesOf,Option.some.injEq] at h;subst h;simp at hk
 | i::is,cs,bs,hg,h,k,r,e,hk=>by
   simp only [getL] at hg
   split at hg
   ·rename_i e1 es he1 hes
    injection hg with hg;subst hg
    cases e1 with
    | box l=>
      simp only [boxesOf] at h
      split at h
      ·rename_i l' rest hl hrest
       injection h with h;subst h
       cases k with
       | zero=>
         simp only [List.getElem?_cons_zero,Option.some.injEq,Prod.mk.injEq] at hk
         obtain ⟨rfl,rfl⟩:=hk
         exact ⟨by simp, .inl ⟨l,l',he1,hl,rfl⟩⟩
       | succ k=>
         obtain ⟨h1,h2⟩:=boxesOf_get hes hrest k r e (by simpa using hk)
         exact ⟨by simp [h1],h2⟩
      ·cases h
    | row τ e z n f=>
      simp only [boxesOf] at h
      obtain ⟨h1,h2⟩:=boxesOf_get hes h k r _ hk
      exact ⟨by simp [h1],h2⟩
    | bld T t s=>
      simp only [boxesOf] at h
      split at h
      ·rename_i rest hrest
       injection h with h;subst h
       cases k with
       | zero=>
         simp only [List.getElem?_cons_zero,Option.some.injEq,Prod.mk.injEq] at hk
         obtain ⟨rfl,rfl⟩:=hk
         exact ⟨by simp, .inr ⟨T,t,s,he1,rfl⟩⟩
       | succ k=>
         obtain ⟨h1,h2⟩:=boxesOf_get hes hrest k r e (by simpa using hk)
         exact ⟨by simp [h1],h2⟩
      ·cases h
   ·cases hg
theorem boxesOf_nodup:∀{ids:List Nat} {cs:List SE} {bs:List (Nat×SE)},getL st ids=some cs→ids.Nodup→boxesOf ids cs=some bs→(bs.map (·.1)).Nodup
 | [],cs,bs,hg,hn,h=>by
   simp only [getL,Option.some.injEq] at hg;subst hg
   simp only [boxesOf,Option.some.injEq] at h;subst h;simp
 | i::is,cs,bs,hg,hn,h=>by
   simp only [getL] at hg
   split at hg
   ·rename_i e1 es he1 hes
    injection hg with hg;subst hg
    have hn':=List.nodup_cons.1 hn
    cases e1 with
    | box l=>
      simp only [boxesOf] at h
      split at h
      ·rename_i l' rest hl hrest
       injection h with h;subst h
       simp only [List.map_cons,List.nodup_cons]
       refine ⟨fun hin=> ?_,boxesOf_nodup hes hn'.2 hrest⟩
       obtain ⟨⟨r,e⟩,hm,hr⟩:=List.mem_map.1 hin
       obtain ⟨k,hk⟩:=List.getElem?_of_mem hm
       have:=(boxesOf_get hes hrest k r e hk).1
       simp only at hr;subst hr
       exact hn'.1 this
      ·cases h
    | row τ e z n f=>
      simp only [boxesOf] at h
      exact boxesOf_nodup hes hn'.2 h
    | bld T t s=>
      simp only [boxesOf] at h
      split at h
      ·rename_i rest hrest
       injection h with h;subst h
       simp only [List.map_cons,List.nodup_cons]
       refine ⟨fun hin=> ?_,boxesOf_nodup hes hn'.2 hrest⟩
       obtain ⟨⟨r,e⟩,hm,hr⟩:=List.mem_map.1 hin
       obtain ⟨k,hk⟩:=List.getElem?_of_mem hm
       have:=(boxesOf_get hes hrest k r e hk).1
       simp only at hr;subst hr
       exact hn'.1 this
      ·cases h
   ·cases hg
theorem lendRps_sound (hL:Lent X X' γ γ' w):∀{ps qs:List PV} {us:List Value},RepL X γ w ps us→lendRps ps=some qs→RepL X' γ' w qs us
 | [],qs,us,h,hl=>by
   simp only [lendRps,Option.some.injEq] at hl;subst hl
   cases h.nil_inv;exact RepL.nil_
 | p::ps,qs,us,h,hl=>by
   obtain ⟨u,us',rfl,hu,hus⟩:=h.cons_inv
   simp only [lendRps] at hl
   split at hl
   ·rename_i τ cs qs' hqs
    injection hl with hl;subst hl
    exact RepL.cons_ (hu.lend_rp hL) (lendRps_sound hL hus hqs)
   ·cases hl
theorem lendCell_sound {p q:PV} {v:Value} (h:Rep X γ w p v) (hL:Lent X X' γ γ' w) (hl:lendCell p=some q):Rep X' γ' w q v∧q.one=true:=by
 unfold lendCell at hl
 split at hl<;>(try cases hl)
 ·exact ⟨h.lend hL rfl _ (Nat.le_refl _),rfl⟩
 ·cases h.nil_inv;exact ⟨.nil _,rfl⟩
 ·cases h.int_inv;exact ⟨.int _ _,rfl⟩
 ·cases h.bool_inv;exact ⟨.bool _,rfl⟩
 ·cases h.str_inv;exact ⟨.str _,rfl⟩
 ·exact ⟨h.lend_rp hL,rfl⟩
 ·cases h
 ·split at hl
  ·rename_i f caps caps' hc
   injection hl with hl;subst hl
   cases h with
   | fn _ _ _ vs us hvl hul h h'=>
     have h2:=lendRps_sound hL ⟨hul,h'⟩ hc
     have h1:vs= []:=List.eq_nil_of_length_eq_zero hvl
     subst h1
     exact ⟨.fn _ _ _ _ _ rfl h2.1 (fun k c u hk=>by simp at hk) h2.2,rfl⟩
  ·cases hl
theorem lendCells_sound (hL:Lent X X' γ γ' w):∀{ps qs:List PV} {us:List Value},RepL X γ w ps us→lendCells ps=some qs→RepL X' γ' w qs us
 | [],qs,us,h,hl=>by
   simp only [lendCells,Option.some.injEq] at hl;subst hl
   cases h.nil_inv;exact RepL.nil_
 | p::ps,qs,us,h,hl=>by
   obtain ⟨u,us',rfl,hu,hus⟩:=h.cons_inv
   simp only [lendCells] at hl
   split at hl
   ·rename_i q qs' hq hqs
    injection hl with hl;subst hl
    exact RepL.cons_ (lendCell_sound hu hL hq).1 (lendCells_sound hL hus hqs)
   ·cases hl
mutual
theorem lend_sound {ids:List Nat} {cs:List SE} {bs:List (Nat×SE)} (hst:RepSt X γ w st) (hg:getL st ids=some cs) (hb:boxesOf ids cs=some bs) (hL:Lent X X' γ γ' w)
  (hγ:∀k r e,bs[k]? =some (r,e)→γ' k=γ r) (hrow:∀r ge τ e z n f,r∈ids→γ r=some ge→st r=some (.row τ e z n f)→∀b,ge.blk=some b→mayLie X' γ' 2 b):
  ∀{p q:PV} {v:Value},Rep X γ w p v→lend ids cs p=some q→Rep X' γ' w q v
 | .os r,q,v,h,hl=>by
   simp only [lend] at hl
   split at hl
   ·rename_i τ e z n f hi
    split at hl
    ·rename_i hτ
     injection hl with hl;subst hl
     obtain ⟨hmem,hsr⟩:=idx_get hg hi
     obtain ⟨ge,hge,rfl⟩:=os_inv h
     obtain ⟨vs,h1,h2,h3,ho,hr⟩:=(hst.at_ _ _ _ hge hsr).rows
     obtain ⟨ad,cap,hv,hnc,_,hor⟩:=own_slice ho
     rw [hv]
     refine (hr.lend hL (τ':=2) (by cases τ with | zero=>simp [lendT] | succ τ=>simp [lendT];omega)).sl hnc ?_ (fun a ha=>own_cellsT ho hv ha)
     rcases hor with h0 | ⟨g,rfl,hlt,hbl⟩
     ·exact .inl h0
     ·exact .inr ⟨_,rfl,hrow r ge _ _ _ _ _ hmem hge hsr g (by rw [h2,hbl]),hlt⟩
    ·cases hl
   ·cases hl
 | .vw b r lo n,q,v,h,hl=>by
   simp only [lend] at hl
   split at hl
   ·rename_i τ e z n' f hi
    split at hl
    ·rename_i hτ
     injection hl with hl;subst hl
     obtain ⟨hmem,hsr⟩:=idx_get hg hi
     obtain ⟨ad,cap,vs,rfl,hnc,hr,hor,hc⟩:=vw_rows hst h hsr
     obtain ⟨ge,ad',m,cap',hge,hh,hle,hvw⟩:=vw_inv h
     refine (hr.lend hL (τ':=2) (by cases τ with | zero=>simp [lendT] | succ τ=>simp [lendT];omega)).sl hnc ?_ (fun a ha=>hc 2 a ha)
     rcases Nat.eq_zero_or_pos n with h0 | h0
     ·exact .inl h0
     ·right
      obtain ⟨vs',_,h2,_,ho,_⟩:=(hst.at_ _ _ _ hge hsr).rows
      obtain ⟨ad2,cap2,hv2,hnc2,_,hor2⟩:=own_slice ho
      rw [hh] at hv2
      injection hv2 with e1 e2 e3
      subst e1;subst e2;subst e3
      rcases hor2 with h3 | ⟨g,rfl,hlt,hbl⟩
      ·omega
      ·injection hvw with e4 _ _
       have hne:cap'≠lo:=by omega
       rw [if_neg hne,Option.map_some] at e4
       refine ⟨_,e4, ?_, ?_⟩
       ·rw [add_plain]
        exact hrow r ge _ _ _ _ _ hmem hge hsr g (by rw [h2,hbl])
       ·rw [add_plain];exact hlt
    ·cases hl
   ·cases hl
 | .pt r i j,q,v,h,hl=>by
   simp only [lend] at hl
   split at hl
   ·rename_i k hk
    injection hl with hl;subst hl
    obtain ⟨i',rfl,hi'⟩:=boxNo_get hk hb
    obtain ⟨⟨r',e⟩,hbe,hre⟩:=Option.map_eq_some_iff.1 hi'
    simp only at hre;subst hre
    obtain ⟨ge,b,hge,hgb,rfl⟩:=pt_inv h
    exact .pt _ i j ge b (by rw [Nat.zero_add,hγ i' r' e hbe];exact hge) hgb
   ·cases hl
 | .rf m r,q,v,h,hl=>by
   simp only [lend] at hl
   split at hl
   ·rename_i k hk
    injection hl with hl;subst hl
    obtain ⟨i',rfl,hi'⟩:=boxNo_get hk hb
    obtain ⟨⟨r',e⟩,hbe,hre⟩:=Option.map_eq_some_iff.1 hi'
    simp only at hre;subst hre
    cases h with
    | rf _ ge b hge hgb=>exact .rf _ ge b (by rw [Nat.zero_add,hγ i' _ e hbe];exact hge) hgb
    | rfs z n _ ge b hge hgb=>exact .rfs z n _ ge b (by rw [Nat.zero_add,hγ i' _ e hbe];exact hge) hgb
   ·cases hl
 | .agg l,q,v,h,hl=>by
   simp only [lend] at hl
   split at hl
   ·rename_i l' hl'
    injection hl with hl;subst hl
    obtain ⟨us,rfl,hu,h1⟩:=h.agg_inv
    have:=lendL_sound hst hg hb hL hγ hrow hu hl'
    exact .agg _ _ this.1 h1 this.2
   ·cases hl
 | .fn f a b,q,v,h,hl=>by
   simp only [lend] at hl
   split at hl
   ·rename_i a' b' ha hb'
    injection hl with hl;subst hl
    cases h with
    | fn _ _ _ vs us hvl hul h h'=>
      have h1:=lendL_sound hst hg hb hL hγ hrow ⟨hvl,h⟩ ha
      have h2:=lendL_sound hst hg hb hL hγ hrow ⟨hul,h'⟩ hb'
      exact .fn _ _ _ _ _ h1.1 h2.1 h1.2 h2.2
   ·cases hl
 | .sl τ z n f,q,v,h,hl=>by
   simp only [lend,Option.some.injEq] at hl;subst hl
   exact h.lend hL rfl _ (Nat.le_refl _)
 | .nil z,q,v,h,hl=>by
   simp only [lend,Option.some.injEq] at hl;subst hl
   cases h.nil_inv;exact .nil _
 | .int k n,q,v,h,hl=>by
   simp only [lend,Option.some.injEq] at hl;subst hl
   cases h.int_inv;exact .int _ _
 | .bool b,q,v,h,hl=>by
   simp only [lend,Option.some.injEq] at hl;subst hl
   cases h.bool_inv;exact .bool _
 | .str s,q,v,h,hl=>by
   simp only [lend,Option.some.injEq] at hl;subst hl
   cases h.str_inv;exact .str _
 | .raw u,q,v,h,hl=>by
   simp only [lend,Option.some.injEq] at hl;subst hl
   cases h with | raw _ h1=>exact .raw _ h1
 | .tup _,q,v,h,hl=>by simp [lend] at hl
 | .rp τ cs,q,v,h,hl=>by
   simp only [lend,Option.some.injEq] at hl;subst hl
   exact h.lend_rp hL
 | .mpv _ _ _ _ _ _,q,v,h,hl=>by simp [lend] at hl
 | .cnd _ _,q,v,h,hl=>by simp [lend] at hl
 | .junk,q,v,h,hl=>by simp [lend] at hl
theorem lendL_sound {ids:List Nat} {cs:List SE} {bs:List (Nat×SE)} (hst:RepSt X γ w st) (hg:getL st ids=some cs) (hb:boxesOf ids cs=some bs) (hL:Lent X X' γ γ' w)
  (hγ:∀k r e,bs[k]? =some (r,e)→γ' k=γ r) (hrow:∀r ge τ e z n f,r∈ids→γ r=some ge→st r=some (.row τ e z n f)→∀b,ge.blk=some b→mayLie X' γ' 2 b):
  ∀{ps qs:List PV} {vs:List Value},RepL X γ w ps vs→lendL ids cs ps=some qs→RepL X' γ' w qs vs
 | [],qs,vs,h,hl=>by
   simp only [lendL,Option.some.injEq] at hl;subst hl
   cases h.nil_inv;exact RepL.nil_
 | p::ps,qs,vs,h,hl=>by
   obtain ⟨u,us',rfl,hu,hus⟩:=h.cons_inv
   simp only [lendL] at hl
   split at hl
   ·rename_i q qs' hq hqs
    injection hl with hl;subst hl
    exact RepL.cons_ (lend_sound hst hg hb hL hγ hrow hu hq) (lendL_sound hst hg hb hL hγ hrow hus hqs)
   ·cases hl
end
end
open Go.RowKit
theorem wrS_other:∀(l:List (Nat×SE)) (st:Nat→Option SE) (r:Nat),(∀x∈l,x.1≠r)→wrS l st r=st r
 | [],st,r,h=>rfl
 | (k,e)::l,st,r,h=>by
   simp only [wrS]
   rw [wrS_other l _ r (fun x hx=>h x (by simp [hx])),upd_ne st e (by have:=h (k,e) (by simp);simp only at this;exact fun hh=>this hh.symm)]
theorem wrS_at:∀(l:List (Nat×SE)) (st:Nat→Option SE) (r:Nat) (e:SE),(l.map (·.1)).Nodup→(r,e)∈l→wrS l st r=some e
 | [],st,r,e,hn,h=>by simp at h
 | (k,e')::l,st,r,e,hn,h=>by
   simp only [List.map_cons,List.nodup_cons] at hn
   simp only [wrS]
   rcases List.mem_cons.1 h with h | h
   ·injection h with h1 h2;subst h1;subst h2
    rw [wrS_other l _ r (fun x hx hh=>hn.1 (List.mem_map.2 ⟨x,hx,hh⟩)),upd_same]
   ·exact wrS_at l _ r e hn.2 h
theorem nwS_get:∀(es:List SE) (d:Nat) (st st':Nat→Option SE),nwS d es st=some st'→(∀k e,es[k]? =some e→st' (d+k)=some e∧st (d+k)=none)∧∀r,(r<d∨d+es.length≤r)→st' r=st r
 | [],d,st,st',h=>by simp only [nwS,Option.some.injEq] at h;subst h;exact ⟨fun k e hk=>by simp at hk,fun _ _=>rfl⟩
 | e::es,d,st,st',h=>by
   simp only [nwS] at h
   split at h
   ·rename_i hd
    obtain ⟨h1,h2⟩:=nwS_get es (d+1) _ st' h
    refine ⟨fun k x hk=> ?_,fun r hr=> ?_⟩
    ·cases k with
     | zero=>
       simp only [List.getElem?_cons_zero,Option.some.injEq] at hk;subst hk
       refine ⟨?_,hd⟩
       rw [Nat.add_zero,h2 d (.inl (by omega)),upd_same]
     | succ k=>
       obtain ⟨h3,h4⟩:=h1 k x (by simpa using hk)
       have e1:d+1+k=d+(k+1):=by omega
       rw [e1] at h3 h4
       rw [upd_ne st e (by omega)] at h4
       exact ⟨h3,h4⟩
    ·simp only [List.length_cons] at hr
     rw [h2 r (by omega),upd_ne st e (by omega)]
   ·cases h
theorem renL_get (ρ:Nat→Nat):∀(cs:List PV) (i:Nat),(PV.renL ρ cs)[i]? =(cs[i]?).map (PV.ren ρ)
 | [],i=>by simp [PV.renL]
 | c::cs,0=>by simp [PV.renL]
 | c::cs,i+1=>by simpa [PV.renL] using renL_get ρ cs i
theorem renL_length (ρ:Nat→Nat):∀(cs:List PV),(PV.renL ρ cs).length=cs.length
 | []=>rfl
 | c::cs=>by simp [PV.renL,renL_length ρ cs]
theorem renL_rp (ρ:Nat→Nat):∀{l:List PV},allRp l=true→PV.renL ρ l=l
 | [],_=>rfl
 | p::l,h=>by
   cases p<;>simp only [allRp,Bool.false_eq_true] at h
   simp only [PV.renL,PV.ren,renL_rp ρ h]
theorem freshL_marks {τ:Nat} (ht:τ≤1):∀{l:List PV},allRp l=true→PV.freshL (rpMarks τ l)=true
 | [],_=>rfl
 | p::l,h=>by
   cases p<;>simp only [allRp,Bool.false_eq_true] at h
   simp only [rpMarks,rpMark,PV.freshL,PV.freshB,freshL_marks ht h,decide_eq_true ht,Bool.and_self]
theorem flat_ren {c:PV} (h:c.flat=true) (ρ:Nat→Nat) (τ:Nat):(c.mark τ).ren ρ=c.mark τ:=by
 cases c with
 | fn f a b=>
   obtain ⟨rfl,hb⟩:=flat_fn h
   simp only [PV.mark,PV.ren,PV.renL]
   rw [renL_rp ρ (by rw [allRp_marks];exact hb)]
 | _=>first | rfl | (simp [PV.flat] at h)
theorem freshL_get:∀{l:List PV} {k:Nat} {c:PV},PV.freshL l=true→l[k]? =some c→c.freshB=true
 | [],k,c,h,hk=>by simp at hk
 | p::ps,k,c,h,hk=>by
   simp only [PV.freshL,Bool.and_eq_true] at h
   cases k with
   | zero=>simp only [List.getElem?_cons_zero,Option.some.injEq] at hk;subst hk;exact h.1
   | succ k=>exact freshL_get h.2 (by simpa using hk)
theorem fresh_mark {c:PV} (h:c.flat=true) {τ:Nat} (ht:τ≤1):(c.mark τ).freshB=true:=by
 cases c with
 | fn f a b=>
   obtain ⟨rfl,hb⟩:=flat_fn h
   simp only [PV.mark,PV.freshB,PV.freshL,Bool.true_and];exact freshL_marks ht hb
 | _=>first | rfl | (simp [PV.flat] at h;done) | simpa [PV.mark,PV.freshB] using ht
section
variable {P:Program} {X X':Cx} {γ γ':Gh} {w w':World} {st st':Nat→Option SE}
theorem Rep.back {nr:Bool} {ρ:Nat→Nat} {p:PV} {v:Value} (h:Rep X' γ' w p v) (hγ:∀r ge,γ' r=some ge→γ (ρ r)=some ge)
  (hl:∀τ b,(nr=true∨τ≤1)→b<w.heap.size→mayLie X' γ' τ b→mayLie X γ τ b):(nr=true∨p.freshB=true)→Rep X γ w (p.ren ρ) v:=by
 induction h with
 | int k n=>intro _;exact .int k n
 | bool b=>intro _;exact .bool b
 | str s=>intro _;exact .str s
 | agg cs vs hvl hc h ih=>
   intro hf
   refine .agg _ _ (by rw [renL_length];exact hvl) hc fun k c u hk hu=> ?_
   rw [renL_get] at hk
   obtain ⟨c0,h0,rfl⟩:=Option.map_eq_some_iff.1 hk
   exact ih k c0 u h0 hu (hf.imp id fun hf=>freshL_get hf h0)
 | tup cs vs hvl h ih=>
   intro hf
   refine .tup _ _ (by rw [renL_length];exact hvl) fun k c u hk hu=> ?_
   rw [renL_get] at hk
   obtain ⟨c0,h0,rfl⟩:=Option.map_eq_some_iff.1 hk
   exact ih k c0 u h0 hu (hf.imp id fun hf=>freshL_get hf h0)
 | sl τ z n f ad cap vs hcap hz hff hb h ih=>
   intro hf
   have hf':nr=true∨τ≤1:=hf.imp id fun hf=>by simpa [PV.freshB] using hf
   refine .sl τ z n f ad cap vs hcap hz hff (fun hn=> ?_) (fun i j c hi hc=> ?_)
   ·obtain ⟨a,rfl,hm,hlt,hc⟩:=hb hn
    exact ⟨a,rfl,hl _ _ hf' hlt hm,hlt,hc⟩
   ·have hfl:=hff i hi c (List.mem_of_getElem? hc)
    have:=ih i j c hi hc (hf'.imp id fun ht=>fresh_mark hfl ht)
    rwa [flat_ren hfl] at this
 | nil z=>intro _;exact .nil z
 | os r ge hg h1 h2=>intro _;exact .os _ ge (hγ r ge hg) h1 h2
 | vw h r lo n ge ad m cap hg hh hle h0 h2=>intro _;exact .vw h _ lo n ge ad m cap (hγ r ge hg) hh hle h0 h2
 | pt r i j ge b hg hb=>intro _;exact .pt _ i j ge b (hγ r ge hg) hb
 | rf r ge b hg hb=>intro _;exact .rf _ ge b (hγ r ge hg) hb
 | rfs z n r ge b hg hb=>intro _;exact .rfs z n _ ge b (hγ r ge hg) hb
 | rp τ cs a vs hff hb hc h ih=>
   intro hf
   have hf':nr=true∨τ≤1:=hf.imp id fun hf=>by simpa [PV.freshB] using hf
   refine .rp τ cs a vs hff (fun hn=> ?_) hc (fun k c hk=> ?_)
   ·obtain ⟨hm,hlt⟩:=hb hn
    exact ⟨hl _ _ hf' hlt hm,hlt⟩
   ·have hfl:=hff c (List.mem_of_getElem? hk)
    have:=ih k c hk (hf'.imp id fun ht=>fresh_mark hfl ht)
    rwa [flat_ren hfl] at this
 | fn f first caps vs us hvl hul h h' ih ih'=>
   intro hf
   have hf1:nr=true∨(PV.freshL first=true∧PV.freshL caps=true):=hf.imp id fun hf=>by simpa [PV.freshB] using hf
   refine .fn _ _ _ _ _ (by rw [renL_length];exact hvl) (by rw [renL_length];exact hul) (fun k c u hk hu=> ?_) (fun k c u hk hu=> ?_)
   ·rw [renL_get] at hk
    obtain ⟨c0,h0,rfl⟩:=Option.map_eq_some_iff.1 hk
    exact ih k c0 u h0 hu (hf1.imp id fun hf=>freshL_get hf.1 h0)
   ·rw [renL_get] at hk
    obtain ⟨c0,h0,rfl⟩:=Option.map_eq_some_iff.1 hk
    exact ih' k c0 u h0 hu (hf1.imp id fun hf=>freshL_get hf.2 h0)
 | raw v h1=>intro _;exact .raw v h1
 | cnd g p v h hu ih=>
   intro hf
   rcases hf with hf | hf
   ·exact .cnd g _ v (fun hg=>ih hg (.inl hf)) hu
   ·simp [PV.freshB] at hf
 | junk v=>intro _;exact .junk v
theorem RepS.back {nr:Bool} {ρ:Nat→Nat} {ge:GE} {e:SE} (h:RepS X' γ' w ge e) (hγ:∀r ge,γ' r=some ge→γ (ρ r)=some ge)
  (hl:∀τ b,(nr=true∨τ≤1)→b<w.heap.size→mayLie X' γ' τ b→mayLie X γ τ b) (hf:nr=true∨e.freshB=true):RepS X γ w ge (e.ren ρ):=by
 cases e with
 | box l=>
   obtain ⟨b,h1,h2⟩:=h
   refine ⟨b,h1,h2.map_ rfl (fun us h=>⟨by rw [renL_length];exact h.1,fun k c u hk hu=> ?_⟩) (fun _ _ _ _ _ _ h=>by rw [h];rfl)⟩
   rw [renL_get] at hk
   obtain ⟨c0,h0,rfl⟩:=Option.map_eq_some_iff.1 hk
   exact (h.2 k c0 u h0 hu).back hγ hl (hf.imp id fun hf=>freshL_get hf h0)
 | row τ e z n f=>
   obtain ⟨vs,h1,h2,h2',h3,h4,h5,h6,h7⟩:=h
   have hf':nr=true∨τ≤1:=hf.imp id fun hf=>by simpa [SE.freshB] using hf
   refine ⟨vs,h1,h2,h2',h3,h4,h5,h6,fun i j c u hi hc hu=> ?_⟩
   have hfl:=h6 i hi c (List.mem_of_getElem? hc)
   have:=(h7 i j c u hi hc hu).back hγ hl (hf'.imp id fun ht=>fresh_mark hfl ht)
   rwa [flat_ren hfl] at this
 | bld T e s=>exact h
theorem sameKinds_get:∀{aas bs:List SE},sameKinds aas bs=true→∀(k:Nat) (a b:SE),aas[k]? =some a→bs[k]? =some b→a.kind=b.kind
 | [], [],_,k,a,b,ha,_=>by simp at ha
 | x::aas,y::bs,h,k,a,b,ha,hb=>by
   simp only [sameKinds,Bool.and_eq_true] at h
   cases k with
   | zero=>
     simp only [List.getElem?_cons_zero,Option.some.injEq] at ha hb
     subst ha;subst hb;exact Nat.eq_of_beq_eq_true h.1
   | succ k=>exact sameKinds_get h.2 k a b (by simpa using ha) (by simpa using hb)
theorem boxesOf_st {ids:List Nat} {cs:List SE} {bs:List (Nat×SE)} (hg:getL st ids=some cs) (h:boxesOf ids cs=some bs) (k r:Nat) (e:SE) (hk:bs[k]? =some (r,e)):
  r∈ids∧∃e0,st r=some e0∧e0.isRow=false∧e0.kind=e.kind:=by
 obtain ⟨h1,⟨l,l',h2,_,rfl⟩ | ⟨T,t,s,h2,rfl⟩⟩:=boxesOf_get hg h k r e hk
 ·exact ⟨h1,_,h2,rfl,rfl⟩
 ·exact ⟨h1,_,h2,rfl,rfl⟩
theorem Rep.plain {X X':Cx} {γ γ':Gh} {w w':World} {p:PV} {v:Value} (hp:p.plain=true) (h:Rep X γ w p v):Rep X' γ' w' p v:=by
 cases h<;>first | (simp [PV.plain] at hp;done) | constructor
theorem rpCells_get:∀{l cells:List PV},rpCells l=some cells→∀(k:Nat) (c:PV),cells[k]? =some c→∃p:PV,l[k]? =some p∧c=p.unnil∧c.flat=true∧c.tau≤2
 | [],cells,h,k,c,hk=>by simp only [rpCells,Option.some.injEq] at h;subst h;simp at hk
 | p::ps,cells,h,k,c,hk=>by
   simp only [rpCells] at h
   split at h
   ·rename_i qs h1 h2 h3
    injection h with h;subst h
    cases k with
    | zero=>
      simp only [List.getElem?_cons_zero,Option.some.injEq] at hk;subst hk
      exact ⟨p,rfl,rfl,h1,Nat.le_of_ble_eq_true h2⟩
    | succ k=>
      obtain ⟨q,g1,g2⟩:=rpCells_get h3 k c (by simpa using hk)
      exact ⟨q,by simpa using g1,g2⟩
   ·cases h
theorem rd_box {Xr:Cx} {γr:Gh} {ids:List Nat} {cs:List SE} {r:Nat} {l cells:List PV} {v:Value} (hst:RepSt X γ w st) (hg:getL st ids=some cs) (hL:Lent X Xr γ γr w)
  (hls:∀r ge l b,r∈ids→γ r=some ge→st r=some (.box l)→ge.blk=some b→Xr.ls b∧¬γr.own b) (hi:idx ids cs r=some (.box l)) (h2:mpB l=false) (h3:rpCells l=some cells) (h:Rep X γ w (.pt r 0 0) v):
  Rep Xr γr w (.rp 2 cells) v:=by
 obtain ⟨hmem,hsr⟩:=idx_get hg hi
 obtain ⟨ge,b,hge,hgb,rfl⟩:=pt_inv h
 obtain ⟨b',T,vs,hb,hheap,hone,hrep⟩:=RepS.plain (hst.at_ r ge _ hge hsr) h2
 rw [hgb] at hb
 have hbb:b'=b:=by have:=hb.1;injection this with this;exact this.symm
 subst hbb
 have hblt:b'<w.heap.size:=hst.lt b' ⟨r,ge,hge, .inl hgb⟩
 have hlt2:∀n,n≤2→lendT n≤2:=fun n hn=>lendT_mono (b:=2) hn
 have hcell:∀k p,l[k]? =some p→∃x,vs[k]? =some x∧Rep X γ w p x:=fun k p hk=>by
  have hlen:=hrep.1
  have hlt:k<l.length:=(List.getElem?_eq_some_iff.1 hk).1
  have hx:vs.toList[k]? =some (vs.toList[k]'(by omega)):=List.getElem?_eq_getElem (by omega)
  exact ⟨_,by rw [←Array.getElem?_toList];exact hx,hrep.2 k p _ hk hx⟩
 have h0:0*ge.z+0=0:=by simp
 rw [h0]
 refine .rp 2 cells ⟨b',0,none⟩ (fun k=>(vs[k]?).getD undef) (fun c hc=> ?_) (fun _=>⟨⟨(hls r ge l b' hmem hge hsr hgb).2, .inr (.inr ⟨Nat.le_refl _,(hls r ge l b' hmem hge hsr hgb).1⟩)⟩,hblt⟩) (fun k hk=> ?_) (fun k c hk=> ?_)
 ·obtain ⟨k,hk⟩:=List.getElem?_of_mem hc
  obtain ⟨_,_,_,h,_⟩:=rpCells_get h3 k c hk
  exact h
 ·obtain ⟨p,hp,_⟩:=rpCells_get h3 k _ (List.getElem?_eq_getElem hk)
  obtain ⟨x,hx,_⟩:=hcell k p hp
  refine cellT_pos (by decide) ?_
  rw [cell_plain hheap 0 k,Nat.zero_add,hx];rfl
 ·obtain ⟨p,hp,rfl,hfl,htau⟩:=rpCells_get h3 k c hk
  obtain ⟨x,hx,hr⟩:=hcell k p hp
  rw [hx]
  exact (unnil_rep hr).lend hL hfl 2 (hlt2 _ htau)
mutual
theorem rdP_sound {Xr:Cx} {γr:Gh} {ids:List Nat} {cs:List SE} (hst:RepSt X γ w st) (hg:getL st ids=some cs) (hL:Lent X Xr γ γr w)
  (hls:∀r ge l b,r∈ids→γ r=some ge→st r=some (.box l)→ge.blk=some b→Xr.ls b∧¬γr.own b):∀{p q:PV} {v:Value},Rep X γ w p v→rdP ids cs p=some q→Rep Xr γr w q v
 | .pt r 0 0,q,v,h,hl=>by
   simp only [rdP] at hl
   split at hl
   ·rename_i l hi
    split at hl
    ·rename_i cells h2 h3
     injection hl with hl;subst hl
     exact rd_box hst hg hL hls hi h2 h3 h
    ·cases hl
   ·cases hl
 | .fn f [] caps,q,v,h,hl=>by
   simp only [rdP] at hl
   split at hl
   ·rename_i caps' hc
    injection hl with hl;subst hl
    cases h with
    | fn _ _ _ vs us hvl hul h h'=>
      have h2:=rdL_sound hst hg hL hls ⟨hul,h'⟩ hc
      have h1:vs= []:=List.eq_nil_of_length_eq_zero hvl
      subst h1
      exact .fn _ _ _ _ _ rfl h2.1 (fun k c u hk=>by simp at hk) h2.2
   ·cases hl
 | .pt r (i+1) j,q,v,h,hl=>by simp [rdP,lend,boxNo] at hl
 | .pt r 0 (j+1),q,v,h,hl=>by simp [rdP,lend,boxNo] at hl
 | .fn f (x::xs) caps,q,v,h,hl=>lend_sound (ids:= []) (cs:= []) (bs:= []) hst rfl rfl hL (fun k r e h=>by simp at h) (fun r ge τ e z n f h=>by simp at h) h (by simpa only [rdP] using hl)
 | .int k n,q,v,h,hl=>lend_sound (ids:= []) (cs:= []) (bs:= []) hst rfl rfl hL (fun k r e h=>by simp at h) (fun r ge τ e z n f h=>by simp at h) h (by simpa only [rdP] using hl)
 | .bool b,q,v,h,hl=>lend_sound (ids:= []) (cs:= []) (bs:= []) hst rfl rfl hL (fun k r e h=>by simp at h) (fun r ge τ e z n f h=>by simp at h) h (by simpa only [rdP] using hl)
 | .str s,q,v,h,hl=>lend_sound (ids:= []) (cs:= []) (bs:= []) hst rfl rfl hL (fun k r e h=>by simp at h) (fun r ge τ e z n f h=>by simp at h) h (by simpa only [rdP] using hl)
 | .agg l,q,v,h,hl=>lend_sound (ids:= []) (cs:= []) (bs:= []) hst rfl rfl hL (fun k r e h=>by simp at h) (fun r ge τ e z n f h=>by simp at h) h (by simpa only [rdP] using hl)
 | .tup l,q,v,h,hl=>by simp [rdP,lend] at hl
 | .sl τ z n f,q,v,h,hl=>lend_sound (ids:= []) (cs:= []) (bs:= []) hst rfl rfl hL (fun k r e h=>by simp at h) (fun r ge τ e z n f h=>by simp at h) h (by simpa only [rdP] using hl)
 | .nil z,q,v,h,hl=>lend_sound (ids:= []) (cs:= []) (bs:= []) hst rfl rfl hL (fun k r e h=>by simp at h) (fun r ge τ e z n f h=>by simp at h) h (by simpa only [rdP] using hl)
 | .os r,q,v,h,hl=>by simp [rdP,lend,idx] at hl
 | .vw _ r lo n,q,v,h,hl=>by simp [rdP,lend,idx] at hl
 | .rp τ cs,q,v,h,hl=>lend_sound (ids:= []) (cs:= []) (bs:= []) hst rfl rfl hL (fun k r e h=>by simp at h) (fun r ge τ e z n f h=>by simp at h) h (by simpa only [rdP] using hl)
 | .rf _ r,q,v,h,hl=>by simp [rdP,lend,boxNo] at hl
 | .mpv _ _ _ _ _ _,q,v,h,hl=>by simp [rdP,lend] at hl
 | .raw u,q,v,h,hl=>lend_sound (ids:= []) (cs:= []) (bs:= []) hst rfl rfl hL (fun k r e h=>by simp at h) (fun r ge τ e z n f h=>by simp at h) h (by simpa only [rdP] using hl)
 | .cnd _ _,q,v,h,hl=>by simp [rdP,lend] at hl
 | .junk,q,v,h,hl=>by simp [rdP,lend] at hl
theorem rdL_sound {Xr:Cx} {γr:Gh} {ids:List Nat} {cs:List SE} (hst:RepSt X γ w st) (hg:getL st ids=some cs) (hL:Lent X Xr γ γr w)
  (hls:∀r ge l b,r∈ids→γ r=some ge→st r=some (.box l)→ge.blk=some b→Xr.ls b∧¬γr.own b):∀{ps qs:List PV} {vs:List Value},RepL X γ w ps vs→rdL ids cs ps=some qs→RepL Xr γr w qs vs
 | [],qs,vs,h,hl=>by
   simp only [rdL,Option.some.injEq] at hl;subst hl
   cases h.nil_inv;exact RepL.nil_
 | p::ps,qs,vs,h,hl=>by
   obtain ⟨u,us',rfl,hu,hus⟩:=h.cons_inv
   simp only [rdL] at hl
   split at hl
   ·rename_i q qs' hq hqs
    injection hl with hl;subst hl
    exact RepL.cons_ (rdP_sound hst hg hL hls hu hq) (rdL_sound hst hg hL hls hus hqs)
   ·cases hl
end
theorem rowOf_get:∀{ids:List Nat} {cs:List SE} {r τ e z n:Nat} {f:Nat→List PV},getL st ids=some cs→rowOf ids cs=some (r,τ,e,z,n,f)→r∈ids∧st r=some (.row τ e z n f)
 | [],cs,r,τ,e,z,n,f,_,h=>by cases cs<;>simp [rowOf] at h
 | i::is,cs,r,τ,e,z,n,f,hg,h=>by
   simp only [getL] at hg
   split at hg
   ·rename_i e0 es h1 h2
    injection hg with hg;subst hg
    cases e0 with
    | row τ' e' z' n' f'=>
      simp only [rowOf] at h
      split at h
      ·simp only [Option.some.injEq,Prod.mk.injEq] at h
       obtain ⟨rfl,rfl,rfl,rfl,rfl,rfl⟩:=h
       exact ⟨by simp,h1⟩
      ·cases h
    | box l=>
      simp only [rowOf] at h
      obtain ⟨k1,k2⟩:=rowOf_get h2 h
      exact ⟨by simp [k1],k2⟩
    | bld T t x=>
      simp only [rowOf] at h
      obtain ⟨k1,k2⟩:=rowOf_get h2 h
      exact ⟨by simp [k1],k2⟩
   ·cases hg
theorem getL_len:∀{ids:List Nat} {cs:List SE},getL st ids=some cs→cs.length=ids.length
 | [],cs,h=>by simp only [getL,Option.some.injEq] at h;subst h;rfl
 | i::is,cs,h=>by
   simp only [getL] at h
   split at h
   ·rename_i e0 es h1 h2
    injection h with h;subst h
    simp [getL_len h2]
   ·cases h
theorem givP_sound {Xr:Cx} {γr:Gh} {ids:List Nat} {cs:List SE} (hst:RepSt X γ w st) (hg:getL st ids=some cs) (hL:Lent X Xr γ γr w)
  (hls:∀r ge l b,r∈ids→γ r=some ge→st r=some (.box l)→ge.blk=some b→Xr.ls b∧¬γr.own b) {r:Nat} {ge:GE} (hγ:γ r=some ge) (hγ':γr 0=some ge) {p q:PV} {v:Value} (h:Rep X γ w p v) (hl:givP r ids cs p=some q):Rep Xr γr w q v:=by
 unfold givP at hl
 split at hl
 ·rename_i r'
  split at hl
  ·rename_i hb
   have:=Nat.eq_of_beq_eq_true hb
   subst this
   injection hl with hl;subst hl
   cases h with
   | os _ ge' hg h1 h2=>
     rw [hγ] at hg;injection hg with hg;subst hg
     exact .os 0 ge hγ' h1 h2
  ·cases hl
 ·exact rdP_sound hst hg hL hls h hl
theorem givL_sound {Xr:Cx} {γr:Gh} {ids:List Nat} {cs:List SE} (hst:RepSt X γ w st) (hg:getL st ids=some cs) (hL:Lent X Xr γ γr w)
  (hls:∀r ge l b,r∈ids→γ r=some ge→st r=some (.box l)→ge.blk=some b→Xr.ls b∧¬γr.own b) {r:Nat} {ge:GE} (hγ:γ r=some ge) (hγ':γr 0=some ge):∀{ps qs:List PV} {vs:List Value},RepL X γ w ps vs→givL r ids cs ps=some qs→RepL Xr γr w qs vs
 | [],qs,vs,h,hl=>by
   simp only [givL,Option.some.injEq] at hl;subst hl
   cases h.nil_inv;exact RepL.nil_
 | p::ps,qs,vs,h,hl=>by
   obtain ⟨u,us',rfl,hu,hus⟩:=h.cons_inv
   simp only [givL] at hl
   split at hl
   ·rename_i q qs' hq hqs
    injection hl with hl;subst hl
    exact RepL.cons_ (givP_sound hst hg hL hls hγ hγ' hu hq) (givL_sound hst hg hL hls hγ hγ' hus hqs)
   ·cases hl
theorem fixAny_get:∀{cs:List SE},fixAny cs=false→∀{k:Nat} {e:SE},cs[k]? =some e→fixR e=false
 | [],_,k,e,h=>by simp at h
 | x::cs,hf,k,e,h=>by
   simp only [fixAny] at hf
   split at hf
   ·cases hf
   ·rename_i h1
    cases k with
    | zero=>simp only [List.getElem?_cons_zero,Option.some.injEq] at h;subst h;exact h1
    | succ k=>exact fixAny_get hf (by simpa using h)
theorem fixR_ren (ρ:Nat→Nat) (e:SE):fixR (e.ren ρ)=fixR e:=by cases e<;>rfl
theorem fixAny_no:∀{cs:List SE},noRow cs=true→fixAny cs=false
 | [],_=>rfl
 | x::cs,h=>by
   cases x<;>simp only [noRow,Bool.false_eq_true] at h
   all_goals simp only [fixAny,fixR];exact fixAny_no h
theorem fixAny_row:∀{ids:List Nat} {cs:List SE} {r τ e z n:Nat} {f:Nat→List PV},getL st ids=some cs→rowOf ids cs=some (r,τ,e,z,n,f)→fixAny cs=true→fixR (.row τ e z n f)=true
 | [],cs,r,τ,e,z,n,f,_,h,_=>by cases cs<;>simp [rowOf] at h
 | i::is, [],r,τ,e,z,n,f,_,h,_=>by simp [rowOf] at h
 | i::is,x::cs,r,τ,e,z,n,f,hg,h,hf=>by
   have hg2:getL st is=some cs:=by
    simp only [getL] at hg
    split at hg
    ·rename_i h2;injection hg with hg;injection hg with _ hg;rw [←hg];exact h2
    ·cases hg
   cases x with
   | row τ' e' z' n' f'=>
     simp only [rowOf] at h
     split at h
     ·rename_i hno
      simp only [Option.some.injEq,Prod.mk.injEq] at h
      obtain ⟨rfl,rfl,rfl,rfl,rfl,rfl⟩:=h
      simp only [fixAny] at hf
      split at hf
      ·rename_i h1;exact h1
      ·rw [fixAny_no hno] at hf;cases hf
     ·cases h
   | box l=>simp only [rowOf] at h;simp only [fixAny,fixR] at hf;exact fixAny_row hg2 h hf
   | bld T t x=>simp only [rowOf] at h;simp only [fixAny,fixR] at hf;exact fixAny_row hg2 h hf
theorem give_sound {C:FuncId→Array Value→World→(Ending→World→Prop)→Prop} (hC:MonoC C) {args:List PV} {ids:List Nat} {cs:List SE} {c:CallRes} {E:Eff} {d:Nat} {id:FuncId} {vals:List Value} (hst:RepSt X γ w st) (hX:∀b,X.as b∨X.ls b→b<w.heap.size) (hlo:X.lo≤w.heap.size)
  (hrl:∀r ge b τ e z n f,γ r=some ge→st r=some (.row τ e z n f)→ge.blk=some b→X.my b) (ha:RepL X γ w args vals) (hg:getL st ids=some cs) (hgv:natIn id givers=true)
  (hE:(match givA id args ids cs with
   | some (id,args',bs)=>match natIn id givers with
     | true=>givV cs ((bs.map (·.1)).headD 0) (PureCallC C P id args' (bs.map (·.2)) c) c.val c.st c.news
     | false=>match natIn id readers with
       | true=>match c.val.plain,c.st,c.news with
         | true, [], []=>some ⟨c.val, [PureCallC C P id args' (bs.map (·.2)) c], [], [], [], []⟩
         | _,_,_=>none
       | false=>if c.news.length≤16∧c.st.length=bs.length∧sameKinds (bs.map (·.2)) c.st=true∧c.st.any SE.isRow=false∧bs.length≤newBase∧fixAny c.news=false∧(cs.any SE.isRow=true→PV.freshB c.val=true∧c.st.all SE.freshB=true∧c.news.all SE.freshB=true) then
         some ⟨PV.ren (backName bs d) c.val, [PureCallC C P id args' (bs.map (·.2)) c],(bs.map (·.1)).zip (c.st.map (SE.ren (backName bs d))),c.news.map (SE.ren (backName bs d)), [], []⟩
       else none
   | none=>none)=some E) (hs:allP E.side) (hnew:newSt d E.kill E.rm E.wr E.nw st=some st'):
  (∃fn,P.funcs[id]? =some fn∧fn.body.isSome=true∧(fn.name== "runtime.NumGoroutine")=false)∧C id vals.toArray w fun e w'=>∃v γ'',e= .returned v∧EffOK X γ w st E v w' γ'' st':=by
 cases hga:givA id args ids cs with
 | none=>rw [hga] at hE;cases hE
 | some x=>
   rw [hga] at hE
   unfold givA at hga
   split at hga
   ·rename_i r τ e z n f hrow
    split at hga
    ·rename_i a hl
     split at hga
     rotate_left
     ·cases hga
     rename_i h3t
     have h3t:=Nat.le_of_ble_eq_true h3t
     injection hga with hga;subst hga
     simp only [hgv,List.map_cons,List.map_nil,List.headD_cons] at hE
     have hL0:lendT τ≤givT id τ:=by
      unfold givT
      split
      ·cases τ with
       | zero=>simp [lendT]
       | succ τ=>simp only [lendT];omega
      ·exact Nat.le_refl _
     generalize givT id τ=LT at hE hL0
     obtain ⟨hrid,he0⟩:=rowOf_get hg hrow
     obtain ⟨ge,hge⟩:=hst.get he0
     obtain ⟨vs0,h1,h2,h3,h4,h5,h6,h7,h8⟩:=hst.at_ r ge _ hge he0
     let γc:Gh:=fun k=>if k=0 then some ge else none
     let aas':Nat→Prop:=fun b=>b<w.heap.size∧mayLie X γ 1 b
     let ls':Nat→Prop:=fun b=>b<w.heap.size∧((∃τ,mayLie X γ τ b)∨∃r2 ge2 l,r2∈ids∧γ r2=some ge2∧st r2=some (.box l)∧ge2.blk=some b)
     let X':Cx:=⟨w.heap.size,aas',ls',0,γc, []⟩
     have hγc:∀k g,γc k=some g→k=0∧g=ge:=fun k g hk=>by
      by_cases h0:k=0
      ·refine ⟨h0, ?_⟩;simp [γc,h0] at hk;exact hk.symm
      ·simp [γc,h0] at hk
     have hcown:∀b,γc.own b→ge.has b:=fun b ⟨k,g,hk,hb⟩=>by
      obtain ⟨_,rfl⟩:=hγc k g hk;exact hb
     have hcown':∀b,γc.own b→γ.own b:=fun b hb=>⟨r,ge,hge,hcown b hb⟩
     have hbx:∀r2 ge2 l b,γ r2=some ge2→st r2=some (.box l)→ge2.blk=some b→¬γc.own b:=fun r2 ge2 l b q1 q2 q3 ho=>by
      have:=hst.inj r2 r ge2 ge b q1 hge (.inl q3) (hcown b ho)
      subst this
      rw [he0] at q2;cases q2
     have hL:Lent X X' γ γc w:=⟨fun b hb hm=>⟨fun ho=>hm.1 (hcown' b ho), .inr (.inl ⟨Nat.le_refl _,hb,hm⟩)⟩,
      fun τ b hb hm=>⟨fun ho=>hm.1 (hcown' b ho), .inr (.inr ⟨Nat.le_refl _,hb, .inl ⟨τ,hm⟩⟩)⟩⟩
     have hstc:RepSt X' γc w (fun k=>([.row LT e z n f]:List SE)[k]?):=by
      refine ⟨fun k=> ?_,fun k g e2 hk he=> ?_,fun k k' g g' b hk hk' _ _=> ?_,fun b hb=>⟨fun ha=>ha.2.1 (hcown' b hb),fun ⟨_,h⟩=> ?_⟩,fun b hb=>hst.lt b (hcown' b hb),fun b p hb=>⟨(hst.glob b p hb).1,fun ho=>(hst.glob b p hb).2.1 (hcown' b ho), ?_⟩⟩
      ·cases k<;>simp [γc]
      ·obtain ⟨rfl,rfl⟩:=hγc k g hk
       simp only [List.getElem?_cons_zero,Option.some.injEq] at he
       subst he
       refine ⟨vs0,h1,h2,h3,h4,h5,h6,h7,fun i j c u hi hc hu=> ?_⟩
       have hfl:=h7 i hi c (List.mem_of_getElem? hc)
       have hle:lendT (c.mark τ).tau≤LT:=Nat.le_trans (lendT_mono (tau_mark c τ)) hL0
       have:=(h8 i j c u hi hc hu).lend hL (flat_mark hfl τ) LT hle
       rwa [mark_mark] at this
      ·rw [(hγc k g hk).1,(hγc k' g' hk').1]
      ·rcases h with ⟨τ,hm⟩ | ⟨r2,ge2,l,_,q1,q2,q3⟩
       ·exact hm.1 (hcown' b hb)
       ·exact hbx r2 ge2 l b q1 q2 q3 hb
      ·obtain ⟨⟨o,k1,_⟩,k3,k4⟩:=hst.glob b p hb
       exact ⟨(Array.getElem?_eq_some_iff.1 k1).1,k3, .inr (.inl ⟨Nat.le_refl _,k4⟩)⟩
     have hargs:RepL X' γc w a vals:=givL_sound hst hg hL (fun r2 ge2 l b q0 q1 q2 q3=>⟨⟨hst.lt b ⟨r2,ge2,q1, .inl q3⟩, .inr ⟨r2,ge2,l,q0,q1,q2,q3⟩⟩,hbx r2 ge2 l b q1 q2 q3⟩) hge rfl ha hl
     have hone:∀x,cs= [x]→∀r2 l,r2∈ids→st r2=some (.box l)→False:=fun x hx r2 l q0 q2=>by
      have hlen:=getL_len hg
      rw [hx] at hlen
      obtain ⟨i0,hi0⟩:∃i0,ids= [i0]:=by
       match ids,hlen with
       | [i0],_=>exact ⟨i0,rfl⟩
      rw [hi0] at q0 hrid
      have e1:=List.mem_singleton.1 q0
      have e2:=List.mem_singleton.1 hrid
      rw [e1,←e2,he0] at q2;cases q2
     have hnr:oneB cs=true→∀r2 l,r2∈ids→st r2=some (.box l)→False:=fun h=>by
      unfold oneB at h
      split at h
      ·exact hone _ rfl
      ·cases h
     have hfresh:∀{τ':Nat},givOk cs τ'=true→oneB cs=true∨τ'≤1:=fun {τ'} h=>by
      unfold givOk at h
      split at h
      ·rename_i h1;exact .inl h1
      ·exact .inr (Nat.le_of_ble_eq_true h)
     unfold givV at hE
     split at hE
     ·rename_i b τ' e' z' n' f' hval hcst hnews
      split at hE
      ·rename_i hb hok hlow
       have hbe:=Nat.eq_of_beq_eq_true hb
       subst hbe
       injection hE with hE;subst hE
       obtain ⟨⟨hfn,hcall⟩,_⟩:=hs
       refine ⟨hfn, ?_⟩
       refine hC _ _ _ _ _ (hcall w γc aas' ls' _ hstc (fun b hb=>hb.elim (fun h=>h.1) (fun h=>h.1)) hargs) ?_
       rintro e2 w' ⟨v,γ',he,hv,hst',hk,_,hown0⟩
       rw [hval] at hv
       have hres:resSt c newBase=some (.row τ' e' z' n' f'):=by unfold resSt;rw [if_pos (Nat.le_refl _),Nat.sub_self,hnews];rfl
       have hdom:∀k g,γ' k=some g→k=newBase:=fun k g hk=>by
        have hd:=hst'.dom k
        rw [hk] at hd
        unfold resSt at hd
        split at hd
        ·rename_i hge2
         rw [hnews] at hd
         by_cases h0:k - newBase=0
         ·omega
         ·obtain ⟨m,hm⟩:=Nat.exists_eq_succ_of_ne_zero h0
          rw [hm] at hd;simp at hd
        ·rw [hcst] at hd;simp at hd
       obtain ⟨ge',hge',rfl⟩:=os_inv hv
       obtain ⟨vs1,k1,k2,k3,k4,k5,k6,k7,k8⟩:=hst'.at_ newBase ge' _ hge' hres
       have hfr:∀b,ge'.has b→ge.blk=some b∨w.heap.size≤b:=fun b hb=>by
        rcases hown0 newBase ge' b hge' hb with h | ⟨_,h⟩ | ⟨g0,h,_⟩
        ·exact .inr h
        ·exact .inl ((GE.has_row h2).1 (hcown b h))
        ·exact absurd (hγc _ _ h).1 (by decide)
       have hown':∀b,γ'.own b→ge'.has b:=fun b ⟨k,g,hk,hb⟩=>by
        have:=hdom k g hk;subst this
        rw [hge'] at hk;injection hk with hk;subst hk;exact hb
       refine ⟨_,upd γ r ge',he, ?_⟩
       have hnew':st'=upd (voidS [r] st) r (.row τ' e' z' n' f'):=by
        simp only [newSt_eq,wrS,nwS,rmS_nil,Option.some.injEq] at hnew
        exact hnew.symm
       rw [hnew']
       refine EffOK.app hst hX hge he0 (fun l hl=>by cases hl) rfl (hk.mono fun i _ h=>(GE.has_row h2).1 (hcown i h)) (fun b hb=>hfr b (.inl hb)) (fun b hb=>hst'.lt b ⟨newBase,ge',hge', .inl hb⟩) (fun hmono=> ?_) (.os r ge' (upd_same _ _ _) k3 k2) (hgr:=k2) (hfx:=fix_low (Nat.le_of_ble_eq_true hlow))
       refine ⟨vs1,k1,k2,k3,k4,k5,k6,k7,fun i j c' u hi hc hu=> ?_⟩
       have hfl:=k7 i hi c' (List.mem_of_getElem? hc)
       have:=(k8 i j c' u hi hc hu).back (nr:=oneB cs) (γ:=upd γ r ge') (X:=X) (ρ:=fun _=>r) (fun q g hq=>by
         have hqq:=hdom q g hq
         rw [hqq] at hq
         rw [←Option.some.inj (hge'.symm.trans hq)]
         exact upd_same _ _ _) (fun τ2 b hnr2 hbl hm=>by
        have hno:¬Gh.own (upd γ r ge') b↔((∀x g,x≠r→γ x=some g→¬g.has b)∧¬ge'.has b):=by
         constructor
         ·intro h
          exact ⟨fun x g hx hg hb=>h ⟨x,g,by rw [upd_ne γ _ hx];exact hg,hb⟩,fun hb=>h ⟨r,ge',upd_same _ _ _,hb⟩⟩
         ·rintro ⟨q1,q2⟩ ⟨x,g,hg,hb⟩
          by_cases hx:x=r
          ·subst hx;rw [upd_same] at hg;injection hg with hg;subst hg;exact q2 hb
          ·rw [upd_ne γ _ hx] at hg;exact q1 x g hx hg hb
        have hn':¬ge'.has b:=fun hb=>hm.1 ⟨newBase,ge',hge',hb⟩
        rcases hm.2 with (hm2 | ⟨r0,g0,q1,q2,_⟩) | ⟨ht,hb1,hm2⟩ | ⟨ht,hb1,hm3⟩
        ·have hm2':w.heap.size≤b:=hm2
         exact ⟨hno.2 ⟨fun x g _ hg hb=>absurd (hst.lt b ⟨x,g,hg,hb⟩) (by omega),hn'⟩, .inl (.inl (Nat.le_trans hlo hm2'))⟩
        ·have q3:ge.has b:=by
           have q1':γc r0=some g0:=q1
           obtain ⟨_,rfl⟩:=hγc _ _ q1';exact .inl q2
         exact ⟨hno.2 ⟨fun x g hx hg hb=>hx (hst.inj x r g ge b hg hge hb q3),hn'⟩, .inl (hrl r ge b _ _ _ _ _ hge he0 ((GE.has_row h2).1 q3))⟩
        ·exact ⟨hno.2 ⟨fun x g _ hg hb=>hm2.1 ⟨x,g,hg,hb⟩,hn'⟩,(hm2.mono ht).2⟩
        ·rcases hm3 with ⟨τ3,hm2⟩ | ⟨r2,ge2,l,q0,q1,q2,q3⟩
         ·refine ⟨hno.2 ⟨fun x g _ hg hb=>hm2.1 ⟨x,g,hg,hb⟩,hn'⟩, ?_⟩
          rcases hm2.2 with h | ⟨_,h⟩ | ⟨_,h⟩
          ·exact .inl h
          ·exact .inr (.inl ⟨by omega,h⟩)
          ·exact .inr (.inr ⟨ht,h⟩)
         ·rcases hnr2 with h | h
          ·exact (hnr h r2 l q0 q2).elim
          ·omega) ((hfresh hok).imp (fun h=>h) fun ht=>fresh_mark hfl ht)
       rwa [flat_ren hfl] at this
      ·cases hE
     ·rename_i τ' e' z' n' f' hval hcst hnews
      split at hE
      ·rename_i hok hlow
       have hlow:=Nat.le_of_ble_eq_true hlow
       injection hE with hE;subst hE
       obtain ⟨⟨hfn,hcall⟩,_⟩:=hs
       refine ⟨hfn, ?_⟩
       refine hC _ _ _ _ _ (hcall w γc aas' ls' _ hstc (fun b hb=>hb.elim (fun h=>h.1) (fun h=>h.1)) hargs) ?_
       rintro e2 w' ⟨v,γ',he,hv,hst',hk,hpar,hown0⟩
       rw [hval] at hv
       have hres:resSt c 0=some (.row τ' e' z' n' f'):=by unfold resSt;rw [if_neg (by decide),hcst];rfl
       have hge':γ' 0=some ge:=by
        have h0:=hpar 0 (by show 0<c.st.length;rw [hcst];exact Nat.zero_lt_one)
        rw [hres] at h0
        have h0:=h0.1 rfl
        exact h0
       have hdom:∀k g,γ' k=some g→k=0:=fun k g hk=>by
        have hd:=hst'.dom k
        rw [hk] at hd
        unfold resSt at hd
        split at hd
        ·rw [hnews] at hd;simp at hd
        ·rw [hcst] at hd
         cases k with
         | zero=>rfl
         | succ k=>simp at hd
       obtain ⟨vs1,k1,k2,k3,k4,k5,k6,k7,k8⟩:=hst'.at_ 0 ge _ hge' hres
       refine ⟨_,γ,he, ?_⟩
       have hnew':st'=upd st r (.row (fixT cs τ') e' z' n' f'):=by
        simp only [newSt_eq,wrS,nwS,rmS_nil,voidS_nil,Option.some.injEq] at hnew
        exact hnew.symm
       rw [hnew']
       have hv2:v= .tuple #[]:=by
        obtain ⟨vs,e1,e2⟩:=hv.tup_inv
        rw [e1,e2.nil_inv]
       subst hv2
       refine EffOK.writeR hst hge he0 rfl (hk.mono fun i _ h=>hcown i h) (fun hmono=> ?_) (.tup [] [] rfl (fun k c u h=>by simp at h)) rfl (fun hf=> ?_)
       rotate_left
       ·cases hfa:fixAny cs with
        | true=>
          have:=fixAny_row hg hrow hfa
          exact this
        | false=>
          unfold fixT at hf
          rw [hfa] at hf
          have hf2:fixR (.row τ' e' z' n' f')=true:=hf
          rw [fix_low hlow] at hf2;cases hf2
       refine ⟨vs1,k1,k2,k3,k4,k5,k6,k7,fun i j c' u hi hc hu=> ?_⟩
       have hfl:=k7 i hi c' (List.mem_of_getElem? hc)
       have hup:τ'≤fixT cs τ':=by unfold fixT;split<;>omega
       have hback:=(k8 i j c' u hi hc hu).back (nr:=oneB cs) (γ:=γ) (X:=X) (ρ:=fun _=>r) (fun q g hq=>by
         have hqq:=hdom q g hq
         rw [hqq] at hq
         rw [←Option.some.inj (hge'.symm.trans hq)]
         exact hge) (fun τ2 b hnr2 hbl hm=>by
        have hn':¬ge.has b:=fun hb=>hm.1 ⟨0,ge,hge',hb⟩
        rcases hm.2 with (hm2 | ⟨r0,g0,q1,q2,_⟩) | ⟨ht,hb1,hm2⟩ | ⟨ht,hb1,hm3⟩
        ·have hm2':w.heap.size≤b:=hm2
         exact ⟨fun ho=>absurd (hst.lt b ho) (by omega), .inl (.inl (Nat.le_trans hlo hm2'))⟩
        ·have q1':γc r0=some g0:=q1
         obtain ⟨_,rfl⟩:=hγc _ _ q1'
         exact absurd (.inl q2) hn'
        ·exact hm2.mono ht
        ·rcases hm3 with ⟨τ3,hm2⟩ | ⟨r2,ge2,l,q0,q1,q2,q3⟩
         ·refine ⟨hm2.1, ?_⟩
          rcases hm2.2 with h | ⟨_,h⟩ | ⟨_,h⟩
          ·exact .inl h
          ·exact .inr (.inl ⟨by omega,h⟩)
          ·exact .inr (.inr ⟨ht,h⟩)
         ·rcases hnr2 with h | h
          ·exact (hnr h r2 l q0 q2).elim
          ·omega) ((hfresh hok).imp (fun h=>h) fun ht=>fresh_mark hfl ht)
       rw [flat_ren hfl] at hback
       have h9:=hback.mark_up _ (Nat.le_trans (tau_mark c' _) hup)
       rwa [mark_mark] at h9
      ·cases hE
     ·cases hE
    ·cases hga
   ·cases hga
theorem read_sound {C:FuncId→Array Value→World→(Ending→World→Prop)→Prop} (hC:MonoC C) {args args':List PV} {ids:List Nat} {cs:List SE} {bs:List (Nat×SE)} {c:CallRes} {id id':FuncId} {vals:List Value} {sd:List Prop} (hst:RepSt X γ w st) (hX:∀b,X.as b∨X.ls b→b<w.heap.size)
  (ha:RepL X γ w args vals) (hg:getL st ids=some cs) (hrd:readA id args ids cs=some (id',args',bs)) (hpc:PureCallC C P id' args' (bs.map (·.2)) c) (hv:c.val.plain=true):
  id'=id∧C id vals.toArray w fun e w'=>∃v γ'',e= .returned v∧EffOK X γ w st ⟨c.val,sd, [], [], [], []⟩ v w' γ'' st:=by
 unfold readA at hrd
 split at hrd
 ·rename_i args2 hrl
  simp only [Option.some.injEq,Prod.mk.injEq] at hrd
  obtain ⟨rfl,rfl,rfl⟩:=hrd
  refine ⟨rfl, ?_⟩
  let X':Cx:=⟨w.heap.size,fun x=>x<w.heap.size∧mayLie X γ 1 x,fun x=>x<w.heap.size∧((∃τ,mayLie X γ τ x)∨∃r ge l,r∈ids∧γ r=some ge∧st r=some (.box l)∧ge.blk=some x),0,fun _=>none, []⟩
  have hL:Lent X X' γ (fun _=>none) w:=⟨fun x hx hm=>⟨fun ⟨r,g,h,_⟩=>(by cases h), .inr (.inl ⟨Nat.le_refl _,hx,hm⟩)⟩,
   fun τ x hx hm=>⟨fun ⟨r,g,h,_⟩=>(by cases h), .inr (.inr ⟨Nat.le_refl _,hx, .inl ⟨τ,hm⟩⟩)⟩⟩
  have hargs:RepL X' (fun _=>none) w args2 vals:=rdL_sound hst hg hL (fun r ge l b h1 h2 h3 h4=>⟨⟨hst.lt b ⟨r,ge,h2, .inl h4⟩, .inr ⟨r,ge,l,h1,h2,h3,h4⟩⟩,fun ⟨r,g,h,_⟩=>by cases h⟩) ha hrl
  refine hC _ _ _ _ _ (hpc.2 w (fun _=>none) _ _ _ ⟨fun r=>(by simp),fun r g e h=>(by cases h),fun r r' g g' b' h=>(by cases h),fun b' ⟨r,g,h,_⟩=>(by cases h),fun b' ⟨r,g,h,_⟩=>(by cases h),fun x p hx=>⟨(hst.glob x p hx).1,fun ⟨r,g,h,_⟩=>(by cases h),by
   obtain ⟨⟨o,k1,_⟩,k3,k4⟩:=hst.glob x p hx
   exact ⟨(Array.getElem?_eq_some_iff.1 k1).1,k3, .inr (.inl ⟨Nat.le_refl _,k4⟩)⟩⟩⟩ (fun b hb=>hb.elim (fun h=>h.1) (fun h=>h.1)) hargs) ?_
  rintro ev w' ⟨v,γ',he,hv',_,hk,_,_⟩
  have hblk:∀b',b'<w.heap.size→w'.heap[b']? =w.heap[b']? :=fun b' hb'=>hk.block b' hb' (fun ⟨r,g,h,_⟩=>by cases h)
  have hmono:∀p u,Rep X γ w p u→Rep X γ w' p u:=fun p u h=>h.mono (fun _ _ h=>h) (fun _ h=> .inl h) hk.size (fun x _ hx=>hblk x hx)
  refine ⟨v,γ,he,hv'.plain hv,fun p u h=>by rw [void_nil];exact hmono p u h,⟨hst.dom,fun r g e h1 h2=>(hst.at_ r g e h1 h2).mono hmono fun x hx=>hblk x (hst.lt x ⟨r,g,h1,hx⟩),hst.inj,hst.asOff,fun b' h=>Nat.lt_of_lt_of_le (hst.lt b' h) hk.size,glob_keep hst.glob (fun b' hlt _=>hblk b' hlt) (fun _ h=> .inl h)⟩,hk.mono (fun i _ ⟨r,g,h,_⟩=>(by cases h)),fun r g b' h1 h2=> .inr ⟨g,h1,h2⟩,fun r l h=>⟨rfl,l,h⟩,fun r T e s h=> ?_,fun r e h hf=>⟨⟨e,h,hf⟩,by simp⟩⟩
  obtain ⟨ge2,hge2⟩:=hst.get h
  exact ⟨ge2,ge2,hge2,hge2,rfl,rfl,T,e,s,h⟩
 ·cases hrd
theorem call_norm {args0 args':List PV} {ids:List Nat} {cs:List SE} {bs:List (Nat×SE)} {d:Nat} {vals:List Value} (hst:RepSt X γ w st) (hX:∀b,X.as b∨X.ls b→b<w.heap.size) (hlo:X.lo≤w.heap.size)
  (hn:ids.Nodup) (hg:getL st ids=some cs) (hA:RepL X γ w args0 vals) (hla:lendL ids cs args0=some args') (hbs:boxesOf ids cs=some bs):
  ∃(γc:Gh) (aas' ls':Nat→Prop),RepSt ⟨w.heap.size,aas',ls',nbx (bs.map (·.2)),γc, []⟩ γc w (fun r=>(bs.map (·.2))[r]?)∧(∀b,aas' b∨ls' b→b<w.heap.size)∧RepL ⟨w.heap.size,aas',ls',nbx (bs.map (·.2)),γc, []⟩ γc w args' vals∧
  ∀(c:CallRes) (st':Nat→Option SE),(c.news.length≤16∧c.st.length=bs.length∧sameKinds (bs.map (·.2)) c.st=true∧c.st.any SE.isRow=false∧bs.length≤newBase∧fixAny c.news=false∧(cs.any SE.isRow=true→PV.freshB c.val=true∧c.st.all SE.freshB=true∧c.news.all SE.freshB=true))→
   newSt d [] [] ((bs.map (·.1)).zip (c.st.map (SE.ren (backName bs d)))) (c.news.map (SE.ren (backName bs d))) st=some st'→∀(e:Ending) (w':World),(∃v γ',e= .returned v∧Rep ⟨w.heap.size,aas',ls',nbx (bs.map (·.2)),γc, []⟩ γ' w' c.val v∧RepSt ⟨w.heap.size,aas',ls',nbx (bs.map (·.2)),γc, []⟩ γ' w' (resSt c)∧
   Keeps γc.own w w'∧(∀r,r<parN (bs.map (·.2)) c→ParR r (γ' r) (γc r) (resSt c r))∧(∀r ge b,γ' r=some ge→ge.has b→w.heap.size≤b∨(nbx (bs.map (·.2))=0∧γc.own b)∨∃ge0,γc r=some ge0∧ge0.has b))→
   ∃v γ'',e= .returned v∧EffOK X γ w st ⟨PV.ren (backName bs d) c.val, [],(bs.map (·.1)).zip (c.st.map (SE.ren (backName bs d))),c.news.map (SE.ren (backName bs d)), [], []⟩ v w' γ'' st':=by
 let γc:Gh:=fun k=>if k<bs.length then (bs[k]?).bind (fun x=>γ x.1) else none
 let aas':Nat→Prop:=fun b=>b<w.heap.size∧mayLie X γ 1 b
 let ls':Nat→Prop:=fun b=>b<w.heap.size∧((∃τ,mayLie X γ τ b)∨∃r ge τ e z n f,r∈ids∧γ r=some ge∧st r=some (.row τ e z n f)∧ge.blk=some b)
 let X':Cx:=⟨w.heap.size,aas',ls',nbx (bs.map (·.2)),γc, []⟩
 have hblen:nbx (bs.map (·.2))=bs.length:=by
  rw [nbx_rows,List.length_map]
  refine List.any_eq_false.2 fun e he=> ?_
  obtain ⟨⟨r,e'⟩,hm,rfl⟩:=List.mem_map.1 he
  obtain ⟨k,hk⟩:=List.getElem?_of_mem hm
  obtain ⟨_,e0,_,h3,h4⟩:=boxesOf_st hg hbs k r e' hk
  cases e' with
  | row _ _ _ _ _=>cases e0<;>simp [SE.isRow,SE.kind] at h3 h4
  | _=>simp [SE.isRow]
 have hγc:∀k r e,bs[k]? =some (r,e)→γc k=γ r:=fun k r e hk=>by
  have:k<bs.length:=(List.getElem?_eq_some_iff.1 hk).1
  show (if k<bs.length then (bs[k]?).bind (fun x=>γ x.1) else none)=_
  rw [if_pos this,hk];rfl
 have hγc':∀k ge,γc k=some ge→∃r e,bs[k]? =some (r,e)∧γ r=some ge:=fun k ge hk=>by
  by_cases hlt:k<bs.length
  ·have hb:bs[k]? =some (bs[k].1,bs[k].2):=List.getElem?_eq_getElem hlt
   exact ⟨_,_,hb,by rw [←hγc k _ _ hb];exact hk⟩
  ·simp [γc,hlt] at hk
 have hcown:∀b,γc.own b→∃r ge,r∈ids∧(∃e0,st r=some e0∧e0.isRow=false)∧γ r=some ge∧ge.has b:=fun b ⟨k,ge,hk,hb⟩=>by
  obtain ⟨r,e,hbk,hr⟩:=hγc' k ge hk
  obtain ⟨h1,e0,h2,h3,_⟩:=boxesOf_st hg hbs k r e hbk
  exact ⟨r,ge,h1,⟨e0,h2,h3⟩,hr,hb⟩
 have hcown':∀b,γc.own b→γ.own b:=fun b hb=>by
  obtain ⟨r,ge,_,_,h1,h2⟩:=hcown b hb;exact ⟨r,ge,h1,h2⟩
 have hL:Lent X X' γ γc w:=⟨fun b hb hm=>⟨fun ho=>hm.1 (hcown' b ho), .inr (.inl ⟨Nat.le_refl _,hb,hm⟩)⟩,
  fun τ b hb hm=>⟨fun ho=>hm.1 (hcown' b ho), .inr (.inr ⟨Nat.le_refl _,hb, .inl ⟨τ,hm⟩⟩)⟩⟩
 have hrowb:∀r ge τ e z n f,r∈ids→γ r=some ge→st r=some (.row τ e z n f)→∀b,ge.blk=some b→¬γc.own b:=fun r ge τ e z n f hr hge hsr b hb ho=>by
  obtain ⟨r',ge',_,⟨e0,hl,hl2⟩,h1,h2⟩:=hcown b ho
  have:=hst.inj r r' ge ge' b hge h1 (.inl hb) h2
  subst this
  rw [hsr] at hl;injection hl with hl;subst hl;cases hl2
 have hrow:∀r ge τ e z n f,r∈ids→γ r=some ge→st r=some (.row τ e z n f)→∀b,ge.blk=some b→mayLie X' γc 2 b:=fun r ge τ e z n f hr hge hsr b hb=>
  ⟨hrowb r ge τ e z n f hr hge hsr b hb, .inr (.inr ⟨Nat.le_refl _,hst.lt b ⟨r,ge,hge, .inl hb⟩, .inr ⟨r,ge,τ,e,z,n,f,hr,hge,hsr,hb⟩⟩)⟩
 have hargs:RepL X' γc w args' vals:=lendL_sound hst hg hbs hL hγc hrow hA hla
 have hstc:RepSt X' γc w (fun r=>(bs.map (·.2))[r]?):=by
  refine ⟨fun r=> ?_,fun r ge e hgr her=> ?_,fun r r' ge ge' b hgr hgr' hb hb'=> ?_,fun b hb=>⟨fun ha=> ?_,fun ha=> ?_⟩,fun b hb=>hst.lt b (hcown' b hb),fun b p hb=>⟨(hst.glob b p hb).1,fun ho=>(hst.glob b p hb).2.1 (hcown' b ho),by
   obtain ⟨⟨o,h1,_⟩,h3,h4⟩:=hst.glob b p hb
   exact ⟨(Array.getElem?_eq_some_iff.1 h1).1,h3, .inr (.inl ⟨Nat.le_refl _,h4⟩)⟩⟩⟩
  ·by_cases hlt:r<bs.length
   ·have hb:bs[r]? =some (bs[r].1,bs[r].2):=List.getElem?_eq_getElem hlt
    obtain ⟨_,_,h2,_⟩:=boxesOf_st hg hbs r _ _ hb
    have hd:=hst.dom bs[r].1
    rw [h2] at hd
    rw [hγc r _ _ hb,hd]
    simp [hlt]
   ·simp [γc,hlt]
  ·obtain ⟨r0,e0,hbk,hr0⟩:=hγc' r ge hgr
   simp only [List.getElem?_map,hbk,Option.map_some,Option.some.injEq] at her
   subst her
   obtain ⟨_,⟨l,l',h2,h3,rfl⟩ | ⟨T,t,s,h2,rfl⟩⟩:=boxesOf_get hg hbs r r0 _ hbk
   ·obtain ⟨b,k1,k2⟩:=hst.at_ r0 ge _ hr0 h2
    refine ⟨b,k1,k2.map_ rfl (fun us k4=>lendCells_sound hL k4 h3) (fun _ _ _ _ _ _ k4=> ?_)⟩
    rw [k4] at h3
    simp only [lendCells,lendCell,Option.some.injEq] at h3
    exact h3.symm
   ·exact hst.at_ r0 ge _ hr0 h2
  ·obtain ⟨r0,e0,hbk,hr0⟩:=hγc' r ge hgr
   obtain ⟨r1,e1,hbk1,hr1⟩:=hγc' r' ge' hgr'
   have hrr:=hst.inj r0 r1 ge ge' b hr0 hr1 hb hb'
   subst hrr
   have hnd:=boxesOf_nodup hg hn hbs
   have q1:(bs.map (·.1))[r]? =some r0:=by simp [hbk]
   have q2:(bs.map (·.1))[r']? =some r0:=by simp [hbk1]
   exact (List.getElem?_inj (by rw [List.length_map];exact (List.getElem?_eq_some_iff.1 hbk).1) hnd).1 (q1.trans q2.symm)
  ·exact ha.2.1 (hcown' b hb)
  ·rcases ha.2 with ⟨τ,hm⟩ | ⟨r,ge,τ,e,z,n,f,hr,hge,hsr,hb'⟩
   ·exact hm.1 (hcown' b hb)
   ·exact hrowb r ge τ e z n f hr hge hsr b hb' hb
 refine ⟨γc,aas',ls',hstc,fun b hb=>hb.elim (fun h=>h.1) (fun h=>h.1),hargs, ?_⟩
 rintro c st' ⟨_,hc1,hks,hc2,hc3,hfxn,hc4⟩ hnew e w' ⟨v,γ',he,hval,hst',hk,hpar,hownE0⟩
 have hparN:parN (bs.map (·.2)) c=bs.length:=by
  rw [parN_rows,List.length_map]
  refine List.any_eq_false.2 fun e he=> ?_
  obtain ⟨⟨r,e'⟩,hm,rfl⟩:=List.mem_map.1 he
  obtain ⟨k,hk⟩:=List.getElem?_of_mem hm
  obtain ⟨_,e0,_,h3,h4⟩:=boxesOf_st hg hbs k r e' hk
  cases e' with
  | row _ _ _ _ _=>cases e0<;>simp [SE.isRow,SE.kind] at h3 h4
  | _=>simp [SE.isRow]
 have hnorow:∀r ge b,γc r=some ge→ge.blk=some b→ge.hdr.ownBlock=some b→False:=fun r ge b hr h1 h2=>by
  have hd:=hstc.dom r
  rw [hr] at hd
  obtain ⟨e,he⟩:=Option.isSome_iff_exists.1 hd.symm
  have hrs:=hstc.at_ r ge e hr he
  cases e with
  | box l=>
    obtain ⟨_,⟨_,m2⟩,_⟩:=hrs
    rw [m2] at h2;cases h2
  | bld T t x=>
    obtain ⟨b1,_,v1,m1,m2,_,_,_,m6⟩:=hrs
    rw [m1] at h1;injection h1 with h1;subst h1
    exact m6 (m2.symm.trans h2)
  | row _ _ _ _ _=>
    simp only [List.getElem?_map] at he
    obtain ⟨⟨r1,e1⟩,hk,he1⟩:=Option.map_eq_some_iff.1 he
    obtain ⟨_,e0,_,h3,h4⟩:=boxesOf_st hg hbs r r1 e1 hk
    simp only at he1;subst he1
    cases e0<;>simp [SE.isRow,SE.kind] at h3 h4
 have hno0:nbx (bs.map (·.2))=0→∀r ge,γc r=some ge→False:=fun h0 r ge hr=>by
  obtain ⟨r1,e1,hb1,_⟩:=hγc' r ge hr
  have:=(List.getElem?_eq_some_iff.1 hb1).1
  omega
 have hownE':∀r ge b,γ' r=some ge→ge.has b→w.heap.size≤b∨∃ge0,γc r=some ge0∧ge0.has b:=fun r ge b h1 h2=>by
  rcases hownE0 r ge b h1 h2 with h | ⟨h,r1,ge1,h3,_⟩ | h
  ·exact .inl h
  ·exact (hno0 h r1 ge1 h3).elim
  ·exact .inr h

 let nr:Bool:= !cs.any SE.isRow
 let ρ:=backName bs d
 have hown':∀b,γ'.own b→γc.own b∨w.heap.size≤b:=fun b ⟨r,ge,hr,hb⟩=>by
  rcases hownE' r ge b hr hb with h | ⟨ge0,h1,h2⟩
  ·exact .inr h
  ·exact .inl ⟨r,ge0,h1,h2⟩
 haveI:∀r,Decidable (∃(k r0:Nat) (e0:SE),bs[k]? =some (r0,e0)∧r=r0):=fun _=>Classical.propDecidable _
 let γ'':Gh:=fun r=>if d≤r∧r<d+c.news.length then γ' (newBase+(r - d)) else
  if h:∃(k r0:Nat) (e0:SE),bs[k]? =some (r0,e0)∧r=r0 then γ' (Classical.choose h) else γ r
 have hnd0:=boxesOf_nodup hg hn hbs
 have hsel:∀(k r:Nat) (e0:SE),bs[k]? =some (r,e0)→¬(d≤r∧r<d+c.news.length)→γ'' r=γ' k:=fun k r e0 hbk hni=>by
  have h:∃(k r0:Nat) (e0:SE),bs[k]? =some (r0,e0)∧r=r0:=⟨k,r,e0,hbk,rfl⟩
  have hc:Classical.choose h=k:=by
   obtain ⟨r0,e1,h1,h2⟩:=Classical.choose_spec h
   subst h2
   have q1:(bs.map (·.1))[Classical.choose h]? =some r:=by rw [List.getElem?_map,h1];rfl
   have q2:(bs.map (·.1))[k]? =some r:=by rw [List.getElem?_map,hbk];rfl
   exact (List.getElem?_inj (by rw [List.length_map];exact (List.getElem?_eq_some_iff.1 h1).1) hnd0).1 (q1.trans q2.symm)
  have:γ'' r=γ' (Classical.choose h):=by simp only [γ''];rw [if_neg hni,dif_pos h]
  rw [this,hc]
 have hunsel:∀r,¬(d≤r∧r<d+c.news.length)→(¬∃(k r0:Nat) (e0:SE),bs[k]? =some (r0,e0)∧r=r0)→γ'' r=γ r:=fun r hni h=>by
  simp only [γ''];rw [if_neg hni,dif_neg h]
 simp only [newSt_eq,voidS_nil,rmS_nil] at hnew
 obtain ⟨hnw1,hnw2⟩:=nwS_get _ _ _ _ hnew
 have hids1:∀k r e,bs[k]? =some (r,e)→∃ge,γ r=some ge:=fun k r e hk=>by
  obtain ⟨_,_,h2,_⟩:=boxesOf_st hg hbs k r e hk
  have:=hst.dom r
  rw [h2] at this
  exact Option.isSome_iff_exists.1 this
 have hwrd:((((bs.map (·.1)).zip (c.st.map (SE.ren ρ))).map (·.1))).Nodup:=by
  rw [List.map_fst_zip (by simp [hc1])]
  exact boxesOf_nodup hg hn hbs
 have hwrn:∀r,st r=none→wrS ((bs.map (·.1)).zip (c.st.map (SE.ren ρ))) st r=none:=fun r hr=>by
  rw [wrS_other _ _ _ (fun x hx hxr=> ?_)]
  ·exact hr
  ·have hm:=(List.of_mem_zip hx).1
   obtain ⟨⟨r0,e0⟩,hm0,hr0⟩:=List.mem_map.1 hm
   obtain ⟨k,hk'⟩:=List.getElem?_of_mem hm0
   obtain ⟨_,_,h2,_⟩:=boxesOf_st hg hbs k r0 e0 hk'
   simp only at hr0
   rw [hr0,hxr,hr] at h2;cases h2
 have hnewn:∀k,k<c.news.length→st (d+k)=none:=fun k hk'=>by
  have hk2:(c.news.map (SE.ren ρ))[k]? =some ((c.news.map (SE.ren ρ))[k]'(by simpa using hk')):=List.getElem?_eq_getElem (by simpa using hk')
  have h1:=(hnw1 k _ hk2).2
  cases hs:st (d+k) with
  | none=>rfl
  | some e0=>

    exfalso
    by_cases hin:∃x∈(bs.map (·.1)).zip (c.st.map (SE.ren ρ)),x.1=d+k
    ·obtain ⟨⟨x1,x2⟩,hx,hx1⟩:=hin
     simp only at hx1;subst hx1
     rw [wrS_at _ _ _ _ hwrd hx] at h1;cases h1
    ·rw [wrS_other _ _ _ (fun x hx hxr=>hin ⟨x,hx,hxr⟩),hs] at h1;cases h1
 have hγn:∀k,k<c.news.length→γ (d+k)=none:=fun k hk'=>by
  have:=hst.dom (d+k)
  rw [hnewn k hk'] at this
  cases hgd:γ (d+k) with
  | none=>rfl
  | some _=>rw [hgd] at this;cases this
 have hnin:∀r ge,γ r=some ge→¬(d≤r∧r<d+c.news.length):=fun r ge hr hin=>by
  have:=hγn (r - d) (by omega)
  rw [show d+(r - d)=r from by omega,hr] at this;cases this
 have hkind:∀(k r:Nat) (e0:SE),bs[k]? =some (r,e0)→∃e1 ge,c.st[k]? =some e1∧e1.kind=e0.kind∧e1.isRow=false∧γ r=some ge∧ParOK (γ' k) (γ r) (some e1):=fun k r e0 hbk=>by
  have hlt:k<c.st.length:=by rw [hc1];exact (List.getElem?_eq_some_iff.1 hbk).1
  have h1:c.st[k]? =some c.st[k]:=List.getElem?_eq_getElem hlt
  obtain ⟨ge,hge⟩:=hids1 k r e0 hbk
  have hp:=hpar k (by rw [hparN];exact (List.getElem?_eq_some_iff.1 hbk).1)
  have hrs:resSt c k=some c.st[k]:=by unfold resSt;rw [if_neg (by have:=(List.getElem?_eq_some_iff.1 hbk).1;omega)];exact h1
  rw [hrs,hγc k r e0 hbk] at hp
  replace hp:ParR k (γ' k) (γ r) (some c.st[k]):=hp
  have h2:=sameKinds_get hks k e0 c.st[k] (by rw [List.getElem?_map,hbk];rfl) h1
  have h3:c.st[k].isRow=false:=by
   have:=List.any_eq_false.1 hc2 _ (List.getElem_mem hlt)
   simpa using this
  refine ⟨_,ge,h1,h2.symm,h3,hge, ?_⟩
  revert hp h3
  cases c.st[k] with
  | row _ _ _ _ _=>intro _ h3;cases h3
  | box _=>exact fun hp _=>hp
  | bld _ _ _=>exact fun hp _=>hp
 have hold:∀r ge,γ r=some ge→∃ge',γ'' r=some ge'∧ge.le ge':=fun r ge hr=>by
  by_cases hb:∃(k r0:Nat) (e0:SE),bs[k]? =some (r0,e0)∧r=r0
  ·obtain ⟨k,r0,e0,hbk,rfl⟩:=hb
   obtain ⟨e1,ge1,h1,h2,h3,h4,h5⟩:=hkind k r e0 hbk
   rw [hsel k r e0 hbk (hnin r ge hr)]
   cases e1 with
   | box l=>exact ⟨ge,by rw [show γ' k=γ r from h5];exact hr,rfl,rfl,fun _=>rfl⟩
   | row _ _ _ _ _=>cases h3
   | bld T t s=>
     obtain ⟨g1,g0,k1,k2,k3,k4⟩:=h5
     rw [hr] at k2;injection k2 with k2;subst k2
     refine ⟨g1,k1,k3,k4,fun hbad=> ?_⟩
     exfalso
     obtain ⟨_,e2,q1,_,q2⟩:=boxesOf_st hg hbs k r e0 hbk
     cases e2 with
     | bld T2 t2 s2=>
       obtain ⟨b,p,v,m1,m2,_,_,_,m3⟩:=hst.at_ r ge _ hr q1
       rw [m1,m2] at hbad
       exact m3 hbad.symm
     | box _=>rw [←q2] at h2;cases h2
     | row _ _ _ _ _=>rw [←q2] at h2;cases h2
  ·exact ⟨ge,by rw [hunsel r (hnin r ge hr) hb];exact hr,rfl,rfl,fun _=>rfl⟩
 have hdom':∀r,(γ' r).isSome=(resSt c r).isSome:=hst'.dom
 have hback:∀r ge,γ' r=some ge→γ'' (ρ r)=some ge:=fun r ge hr=>by
  have hd:=hdom' r
  rw [hr] at hd
  unfold resSt at hd
  by_cases hnb:newBase≤r
  ·rw [if_pos hnb] at hd
   have hlt:r - newBase<c.news.length:=by
    rcases Nat.lt_or_ge (r - newBase) c.news.length with h | h
    ·exact h
    ·rw [List.getElem?_eq_none h] at hd;cases hd
   have hρ:ρ r=d+(r - newBase):=by simp [ρ,backName,hnb]
   rw [hρ]
   have hin:d≤d+(r - newBase)∧d+(r - newBase)<d+c.news.length:=by omega
   simp only [γ'',hin,and_self,if_true]
   rw [show newBase+(d+(r - newBase) - d)=r from by omega]
   exact hr
  ·rw [if_neg hnb] at hd
   have hlt:r<bs.length:=by
    rw [←hc1]
    rcases Nat.lt_or_ge r c.st.length with h | h
    ·exact h
    ·rw [List.getElem?_eq_none h] at hd;cases hd
   have hb:bs[r]? =some (bs[r].1,bs[r].2):=List.getElem?_eq_getElem hlt
   have hρ:ρ r=bs[r].1:=by simp [ρ,backName,hnb,hlt]
   rw [hρ]
   obtain ⟨ge0,hge0⟩:=hids1 r _ _ hb
   rw [hsel r _ _ hb (hnin _ ge0 hge0)]
   exact hr
 have hown'':∀b,γ''.own b→γ.own b∨γ'.own b:=fun b ⟨r,ge,hr,hb⟩=>by
  by_cases hin:d≤r∧r<d+c.news.length
  ·simp only [γ'',hin,and_self,if_true] at hr;exact .inr ⟨_,ge,hr,hb⟩
  ·by_cases hbb:∃(k r0:Nat) (e0:SE),bs[k]? =some (r0,e0)∧r=r0
   ·obtain ⟨k,r0,e0,hbk,rfl⟩:=hbb
    rw [hsel k r e0 hbk hin] at hr;exact .inr ⟨k,ge,hr,hb⟩
   ·rw [hunsel r hin hbb] at hr;exact .inl ⟨r,ge,hr,hb⟩
 have hownE'':∀r ge b,γ'' r=some ge→ge.has b→w.heap.size≤b∨∃ge0,γ r=some ge0∧ge0.has b:=fun r ge b hr hb=>by
  by_cases hin:d≤r∧r<d+c.news.length
  ·simp only [γ'',hin,and_self,if_true] at hr
   rcases hownE' _ ge b hr hb with h | ⟨ge0,h1,_⟩
   ·exact .inl h
   ·obtain ⟨r1,e1,hb1,_⟩:=hγc' _ ge0 h1
    have:=(List.getElem?_eq_some_iff.1 hb1).1
    omega
  ·by_cases hbb:∃(k r0:Nat) (e0:SE),bs[k]? =some (r0,e0)∧r=r0
   ·obtain ⟨k,r0,e0,hbk,rfl⟩:=hbb
    rw [hsel k r e0 hbk hin] at hr
    rw [←hγc k r e0 hbk]
    exact hownE' k ge b hr hb
   ·rw [hunsel r hin hbb] at hr;exact .inr ⟨ge,hr,hb⟩
 have hown3:∀b,γ''.own b→γ.own b∨w.heap.size≤b:=fun b hb=>(hown'' b hb).elim .inl fun h=>(hown' b h).imp (hcown' b) (fun h=>h)
 have hlie:∀τ b,(nr=true∨τ≤1)→b<w'.heap.size→mayLie X' γ' τ b→mayLie X γ'' τ b:=fun τ b hnr hbl hm=>by
  obtain ⟨hm1,hm2⟩:=hm
  rcases hm2 with (hm2 | ⟨r0,ge0,h1,h1a,h1b⟩) | ⟨ht,hb1,hm2⟩ | ⟨ht,hb1,hm2⟩
  ·exact ⟨fun ho=>(hown'' b ho).elim (fun h=>absurd (hst.lt b h) (Nat.not_lt.2 hm2)) hm1, .inl (.inl (Nat.le_trans hlo hm2))⟩
  ·exact (hnorow r0 ge0 b h1 h1a h1b).elim
  ·exact ⟨fun ho=>(hown'' b ho).elim hm2.1 hm1,(hm2.mono ht).2⟩
  ·rcases hm2 with ⟨τ',hm2⟩ | ⟨r,ge,τ0,e0,z0,n0,f0,hr,hge,hsr,hb⟩
   ·refine ⟨fun ho=>(hown'' b ho).elim hm2.1 hm1, ?_⟩
    rcases hm2.2 with h | ⟨h1,h2⟩ | ⟨h1,h2⟩
    ·exact .inl h
    ·exact .inr (.inl ⟨by omega,h2⟩)
    ·exact .inr (.inr ⟨ht,h2⟩)
   ·rcases hnr with hnr | hnr
    ·exfalso
     obtain ⟨e1,he1,he2⟩:=getL_mem ids cs hg r hr
     rw [hsr] at he1;injection he1 with he1;subst he1
     have:cs.any SE.isRow=true:=List.any_eq_true.2 ⟨_,he2,rfl⟩
     simp [nr,this] at hnr
    ·omega
 have hfr:∀{q:Prop},(cs.any SE.isRow=true→q)→nr=true∨q:=fun {q} hq=>by
  cases hh:cs.any SE.isRow with
  | false=>left;simp [nr,hh]
  | true=>exact .inr (hq hh)
 have hmono:∀p u,Rep X γ w p u→Rep X γ'' w' p u:=fun p u h=>h.monoG hold hown3 hk.size (fun b hb hlt=>hk.block b hlt (fun ho=>hb (hcown' b ho)))
 have hstat:∀r,(∃k e,c.news[k]? =some e∧r=d+k∧st' r=some (e.ren ρ)∧γ'' r=γ' (newBase+k))∨(∃(k r0:Nat) (e0 e:SE),bs[k]? =some (r0,e0)∧c.st[k]? =some e∧r=r0∧st' r=some (e.ren ρ)∧γ'' r=γ' k)∨(st' r=st r∧γ'' r=γ r∧∀(k r0:Nat) (e0:SE),bs[k]? =some (r0,e0)→r≠r0):=fun r=>by
  by_cases hin:d≤r∧r<d+c.news.length
  ·left
   have hlt:r - d<c.news.length:=by omega
   have hk2:(c.news.map (SE.ren ρ))[r - d]? =some (c.news[r - d].ren ρ):=by simp [hlt]
   refine ⟨r - d,c.news[r - d],List.getElem?_eq_getElem hlt,by omega, ?_, ?_⟩
   ·have:=(hnw1 _ _ hk2).1
    rwa [show d+(r - d)=r from by omega] at this
   ·simp only [γ'',hin,and_self,if_true]
  ·right
   have hs1:st' r=wrS ((bs.map (·.1)).zip (c.st.map (SE.ren ρ))) st r:=hnw2 r (by rw [List.length_map];omega)
   by_cases hb:∃(k r0:Nat) (e0:SE),bs[k]? =some (r0,e0)∧r=r0
   ·left
    obtain ⟨k,r0,e0,hbk,rfl⟩:=hb
    have hlt:k<c.st.length:=by rw [hc1];exact (List.getElem?_eq_some_iff.1 hbk).1
    refine ⟨k,r,e0,c.st[k],hbk,List.getElem?_eq_getElem hlt,rfl, ?_, ?_⟩
    ·rw [hs1]
     refine wrS_at _ _ _ _ hwrd (List.mem_of_getElem? (i:=k) ?_)
     rw [List.getElem?_zip_eq_some]
     exact ⟨by simp [hbk],by simp [hlt]⟩
    ·exact hsel k r e0 hbk hin
   ·right
    refine ⟨?_,hunsel r hin hb,fun k r0 e0 hbk hr=>hb ⟨k,r0,e0,hbk,hr⟩⟩
    rw [hs1,wrS_other _ _ _ (fun x hx hxr=> ?_)]
    obtain ⟨⟨r0,e0⟩,hm0,hr0⟩:=List.mem_map.1 (List.of_mem_zip hx).1
    obtain ⟨k,hk'⟩:=List.getElem?_of_mem hm0
    exact hb ⟨k,r0,e0,hk',by rw [←hxr];exact hr0.symm⟩
 refine ⟨v,γ'',he,⟨?_,fun p u h=>by rw [void_nil];exact hmono p u h, ?_,hk.mono (fun b _ h=>hcown' b h),hownE'',fun r l hr=> ?_,fun r T t s hr=> ?_,fun r e' hre hf=> ?_⟩⟩
 rotate_right
 ·rcases hstat r with ⟨k,e,h1,h2,h3,h4⟩ | ⟨k,r0,e0,e,h1,h2,h3,h4,h5⟩ | ⟨h1,h2,h3⟩
  ·rw [h3] at hre;injection hre with hre;subst hre
   have:=fixAny_get hfxn h1
   rw [fixR_ren] at hf
   rw [this] at hf;cases hf
  ·rw [h4] at hre;injection hre with hre;subst hre
   rw [fixR_ren] at hf
   have h6:=List.any_eq_false.1 hc2 e (List.mem_of_getElem? h2)
   cases e<;>simp [SE.isRow,fixR] at h6 hf
  ·rw [h1] at hre
   exact ⟨⟨e',hre,hf⟩,by simp⟩
 ·exact hval.back hback hlie (hfr fun h=>(hc4 h).1)
 ·have hnews:∀k e,c.news[k]? =some e→resSt c (newBase+k)=some e:=fun k e hk'=>by
    unfold resSt;rw [if_pos (by omega),show newBase+k - newBase=k from by omega];exact hk'
  have hres:∀k e,k<bs.length→c.st[k]? =some e→resSt c k=some e:=fun k e hlt hk'=>by
   unfold resSt;rw [if_neg (by omega)];exact hk'
  refine ⟨fun r=> ?_,fun r ge e hgr her=> ?_,fun r r' ge ge' b hgr hgr' hb hb'=> ?_,fun b hb=> ?_,fun b hb=> ?_,glob_keep hst.glob (fun b hlt ho=>hk.block b hlt (fun h=>ho (hcown' b h))) hown3⟩
  ·rcases hstat r with ⟨k,e,h1,h2,h3,h4⟩ | ⟨k,r0,e0,e,h1,h2,h3,h4,h5⟩ | ⟨h1,h2,h3⟩
   ·rw [h3,h4,hdom',hnews k e h1];rfl
   ·rw [h4,h5,hdom',hres k e (List.getElem?_eq_some_iff.1 h1).1 h2];rfl
   ·rw [h1,h2];exact hst.dom r
  ·rcases hstat r with ⟨k,e',h1,h2,h3,h4⟩ | ⟨k,r0,e0,e',h1,h2,h3,h4,h5⟩ | ⟨h1,h2,h3⟩
   ·rw [h3] at her;injection her with her;subst her
    rw [h4] at hgr
    refine (hst'.at_ _ ge e' hgr (hnews k e' h1)).back hback hlie (hfr fun h=> ?_)
    exact List.all_eq_true.1 (hc4 h).2.2 e' (List.mem_of_getElem? h1)
   ·rw [h4] at her;injection her with her;subst her
    rw [h5] at hgr
    refine (hst'.at_ _ ge e' hgr (hres k e' (List.getElem?_eq_some_iff.1 h1).1 h2)).back hback hlie (hfr fun h=> ?_)
    exact List.all_eq_true.1 (hc4 h).2.1 e' (List.mem_of_getElem? h2)
   ·rw [h1] at her;rw [h2] at hgr
    refine (hst.at_ r ge e hgr her).mono hmono fun b hb=>hk.block b (hst.lt b ⟨r,ge,hgr,hb⟩) (fun ho=> ?_)
    obtain ⟨k,ge1,hk1,hb1⟩:=ho
    obtain ⟨r1,e1,hbk,hr1⟩:=hγc' k ge1 hk1
    exact h3 k r1 e1 hbk (hst.inj r r1 ge ge1 b hgr hr1 hb hb1)
  ·
   have hcal:∀r ge,γ'' r=some ge→(∃k,γ' k=some ge∧ρ k=r)∨(γ r=some ge∧(∀(k r0:Nat) (e0:SE),bs[k]? =some (r0,e0)→r≠r0)):=fun r ge hr=>by
    rcases hstat r with ⟨k,e',h1,h2,h3,h4⟩ | ⟨k,r0,e0,e',h1,h2,h3,h4,h5⟩ | ⟨h1,h2,h3⟩
    ·left;refine ⟨newBase+k,by rw [←h4];exact hr, ?_⟩
     simp only [ρ,backName];rw [if_pos (by omega),h2];omega
    ·left;refine ⟨k,by rw [←h5];exact hr, ?_⟩
     have hlt:=(List.getElem?_eq_some_iff.1 h1).1
     simp only [ρ,backName];rw [if_neg (by omega),h1,h3];rfl
    ·right;exact ⟨by rw [←h2];exact hr,h3⟩
   have hmix:∀r r' ge ge' k,γ' k=some ge→ρ k=r→γ r'=some ge'→(∀(k r0:Nat) (e0:SE),bs[k]? =some (r0,e0)→r'≠r0)→ge.has b→ge'.has b→False:=fun r r' ge ge' k h1 h2 h3 h4 h5 h6=>by
    have hlt:=hst.lt b ⟨r',ge',h3,h6⟩
    rcases hown' b ⟨k,ge,h1,h5⟩ with ⟨k1,ge1,hk1,hb1⟩ | hge1
    ·obtain ⟨r1,e1,hbk,hr1⟩:=hγc' k1 ge1 hk1
     exact h4 k1 r1 e1 hbk (hst.inj r' r1 ge' ge1 b h3 hr1 h6 hb1)
    ·omega
   rcases hcal r ge hgr with ⟨k,h1,h2⟩ | ⟨h1,h2⟩
   ·rcases hcal r' ge' hgr' with ⟨k',h1',h2'⟩ | ⟨h1',h2'⟩
    ·rw [←h2,←h2',hst'.inj k k' ge ge' b h1 h1' hb hb']
    ·exact (hmix r r' ge ge' k h1 h2 h1' h2' hb hb').elim
   ·rcases hcal r' ge' hgr' with ⟨k',h1',h2'⟩ | ⟨h1',h2'⟩
    ·exact (hmix r' r ge' ge k' h1' h2' h1 h2 hb' hb).elim
    ·exact hst.inj r r' ge ge' b h1 h1' hb hb'
  ·rcases hown3 b hb with h | h
   ·exact hst.asOff b h
   ·exact ⟨fun ha=>by have:=hX b (.inl ha);omega,fun ha=>by have:=hX b (.inr ha);omega⟩
  ·rcases hown'' b hb with h | h
   ·exact Nat.lt_of_lt_of_le (hst.lt b h) hk.size
   ·exact hst'.lt b h
 ·obtain ⟨ge,hge⟩:=hst.get hr
  have hin:=hnin r ge hge
  by_cases hb:∃(k r0:Nat) (e0:SE),bs[k]? =some (r0,e0)∧r=r0
  ·obtain ⟨k,r0,e0,hbk,rfl⟩:=hb
   obtain ⟨e1,ge1,h1,h2,h3,h4,h5⟩:=hkind k r e0 hbk
   obtain ⟨_,e2,q1,_,q2⟩:=boxesOf_st hg hbs k r e0 hbk
   rw [hr] at q1;injection q1 with q1;subst q1
   have hs1:st' r=some (e1.ren ρ):=by
    rw [hnw2 r (by rw [List.length_map];omega)]
    refine wrS_at _ _ _ _ hwrd (List.mem_of_getElem? (i:=k) ?_)
    rw [List.getElem?_zip_eq_some]
    exact ⟨by simp [hbk],by rw [List.getElem?_map,h1];rfl⟩
   cases e1 with
   | box l1=>exact ⟨(hsel k r e0 hbk hin).trans h5,_,hs1⟩
   | row _ _ _ _ _=>cases h3
   | bld _ _ _=>rw [←q2] at h2;cases h2
  ·refine ⟨hunsel r hin hb,l, ?_⟩
   rw [hnw2 r (by rw [List.length_map];omega),wrS_other _ _ _ (fun x hx hxr=> ?_)]
   ·exact hr
   ·obtain ⟨⟨r0,e0⟩,hm0,hr0⟩:=List.mem_map.1 (List.of_mem_zip hx).1
    obtain ⟨k,hk'⟩:=List.getElem?_of_mem hm0
    exact hb ⟨k,r0,e0,hk',by rw [←hxr];exact hr0.symm⟩
 ·obtain ⟨ge,hge⟩:=hst.get hr
  have hin:=hnin r ge hge
  by_cases hb:∃(k r0:Nat) (e0:SE),bs[k]? =some (r0,e0)∧r=r0
  ·obtain ⟨k,r0,e0,hbk,rfl⟩:=hb
   obtain ⟨e1,ge1,h1,h2,h3,h4,h5⟩:=hkind k r e0 hbk
   obtain ⟨_,e2,q1,_,q2⟩:=boxesOf_st hg hbs k r e0 hbk
   rw [hr] at q1;injection q1 with q1;subst q1
   have hs1:st' r=some (e1.ren ρ):=by
    rw [hnw2 r (by rw [List.length_map];omega)]
    refine wrS_at _ _ _ _ hwrd (List.mem_of_getElem? (i:=k) ?_)
    rw [List.getElem?_zip_eq_some]
    exact ⟨by simp [hbk],by rw [List.getElem?_map,h1];rfl⟩
   cases e1 with
   | bld T1 t1 s1=>
     obtain ⟨g1,g0,k1,k2,k3,k4⟩:=h5
     exact ⟨g0,g1,k2,(hsel k r e0 hbk hin).trans k1,k3,k4,T1,t1,s1,hs1⟩
   | row _ _ _ _ _=>cases h3
   | box _=>rw [←q2] at h2;cases h2
  ·refine ⟨ge,ge,hge,(hunsel r hin hb).trans hge,rfl,rfl,T,t,s, ?_⟩
   rw [hnw2 r (by rw [List.length_map];omega),wrS_other _ _ _ (fun x hx hxr=> ?_)]
   ·exact hr
   ·obtain ⟨⟨r0,e0⟩,hm0,hr0⟩:=List.mem_map.1 (List.of_mem_zip hx).1
    obtain ⟨k,hk'⟩:=List.getElem?_of_mem hm0
    exact hb ⟨k,r0,e0,hk',by rw [←hxr];exact hr0.symm⟩
theorem call_soundC {C:FuncId→Array Value→World→(Ending→World→Prop)→Prop} (hC:MonoC C) {f:PV} {args:List PV} {ids:List Nat} {cs:List SE} {c:CallRes} {E:Eff} {d:Nat} {fv:Value} {avs:List Value} (hst:RepSt X γ w st) (hX:∀b,X.as b∨X.ls b→b<w.heap.size) (hlo:X.lo≤w.heap.size) (hrl:∀r ge b τ e z n f,γ r=some ge→st r=some (.row τ e z n f)→ge.blk=some b→X.my b)
  (hf:Rep X γ w f fv) (ha:RepL X γ w args avs) (hn:ids.Nodup) (hg:getL st ids=some cs) (hE:callV (PureCallC C P) d c f args ids cs=some E) (hs:allP E.side) (hnew:newSt d E.kill E.rm E.wr E.nw st=some st'):
  ∃id first caps,fv= .func (.func id) first caps∧(∃fn,P.funcs[id]? =some fn∧fn.body.isSome=true∧(fn.name== "runtime.NumGoroutine")=false)∧
   C id ((first++avs.toArray)++caps) w fun e w'=>∃v γ'',e= .returned v∧EffOK X γ w st E v w' γ'' st':=by
 unfold callV callA at hE
 cases f with
 | fn fk first caps=>
   cases fk with
   | func id=>
     cases hf with
     | fn _ _ _ fvs cvs hfl hcl hfr hcr=>
     simp only at hE
     cases hgv:natIn id givers with
     | true=>
       rw [hgv] at hE
       simp only at hE
       obtain ⟨h1,h2⟩:=give_sound (C:=C) hC hst hX hlo hrl ((RepL.append ⟨hfl,hfr⟩ ha).append ⟨hcl,hcr⟩) hg hgv hE hs hnew
       refine ⟨id,_,_,rfl,h1, ?_⟩
       have hvals:((fvs.toArray++avs.toArray)++cvs.toArray)=((fvs++avs)++cvs).toArray:=by simp
       rw [hvals]
       exact h2
     | false=>
     rw [hgv] at hE
     simp only at hE
     cases hrdr:natIn id readers with
     | true=>
       rw [hrdr] at hE
       simp only at hE
       cases hra:readA id (first++args++caps) ids cs with
       | none=>rw [hra] at hE;cases hE
       | some x=>
         obtain ⟨id',args',bs⟩:=x
         have hid:id'=id:=by
          unfold readA at hra
          split at hra
          ·simp only [Option.some.injEq,Prod.mk.injEq] at hra
           exact hra.1.symm
          ·cases hra
         subst hid
         rw [hra] at hE
         simp only [hgv,hrdr] at hE
         split at hE
         ·rename_i hpl hcs hcn
          injection hE with hE;subst hE
          obtain ⟨h1,h2⟩:=read_sound (C:=C) hC hst hX ((RepL.append ⟨hfl,hfr⟩ ha).append ⟨hcl,hcr⟩) hg hra hs.1 hpl
          refine ⟨id',_,_,rfl,hs.1.1, ?_⟩
          have hvals:((fvs.toArray++avs.toArray)++cvs.toArray)=((fvs++avs)++cvs).toArray:=by simp
          rw [hvals]
          have hst':st'=st:=by simpa [newSt] using hnew.symm
          rw [hst']
          exact h2
         ·cases hE
     | false=>
     rw [hrdr] at hE
     simp only at hE
     cases hla:lendL ids cs (first++args++caps) with
     | none=>rw [hla] at hE;cases hE
     | some args'=>
     cases hbs:boxesOf ids cs with
     | none=>rw [hla,hbs] at hE;cases hE
     | some bs=>
     rw [hla,hbs] at hE
     simp only [hgv,hrdr] at hE
     split at hE
     ·rename_i hcond
      injection hE with hE;subst hE
      obtain ⟨hpc,_⟩:=hs
      obtain ⟨hfn,hcall⟩:=hpc
      refine ⟨id,_,_,rfl,hfn, ?_⟩
      have hvals:((fvs.toArray++avs.toArray)++cvs.toArray)=((fvs++avs)++cvs).toArray:=by simp
      rw [hvals]
      obtain ⟨γc,aas',ls',hstc,hbb,hargs,hback⟩:=call_norm (d:=d) hst hX hlo hn hg ((RepL.append ⟨hfl,hfr⟩ ha).append ⟨hcl,hcr⟩) hla hbs
      refine hC _ _ _ _ _ (hcall w γc aas' ls' _ hstc hbb hargs) fun e w' hpost=> ?_
      obtain ⟨v,γ'',h1,h2⟩:=hback c st' hcond hnew e w' hpost
      exact ⟨v,γ'',h1,⟨h2.val,h2.old,h2.sto,h2.keeps,h2.ownE,h2.box,h2.bld,h2.fix⟩⟩
     ·cases hE
   | _=>simp at hE
 | _=>simp at hE
theorem call_sound {f:PV} {args:List PV} {ids:List Nat} {cs:List SE} {c:CallRes} {E:Eff} {d:Nat} {fv:Value} {avs:List Value} (hst:RepSt X γ w st) (hX:∀b,X.as b∨X.ls b→b<w.heap.size) (hlo:X.lo≤w.heap.size) (hrl:∀r ge b τ e z n f,γ r=some ge→st r=some (.row τ e z n f)→ge.blk=some b→X.my b)
  (hf:Rep X γ w f fv) (ha:RepL X γ w args avs) (hn:ids.Nodup) (hg:getL st ids=some cs) (hE:callV (PureCall P) d c f args ids cs=some E) (hs:allP E.side) (hnew:newSt d E.kill E.rm E.wr E.nw st=some st'):
  ∃id first caps,fv= .func (.func id) first caps∧(∃fn,P.funcs[id]? =some fn∧fn.body.isSome=true∧(fn.name== "runtime.NumGoroutine")=false)∧
   Calls P id ((first++avs.toArray)++caps) w fun e w'=>∃v γ'',e= .returned v∧EffOK X γ w st E v w' γ'' st':=
 call_soundC (C:=Calls P) (calls_mono P) hst hX hlo hrl hf ha hn hg hE hs hnew
end
open Go.RowKit
theorem eraseDupsBy_nodup:∀(l acc:List Nat),acc.Nodup→(List.eraseDupsBy.loop (fun a b=>a==b) l acc).Nodup
 | [],acc,h=>by
   simp only [List.eraseDupsBy.loop]
   exact List.pairwise_reverse.2 (h.imp Ne.symm)
 | a::l,acc,h=>by
   unfold List.eraseDupsBy.loop
   split
   ·exact eraseDupsBy_nodup l acc h
   ·rename_i hn
    refine eraseDupsBy_nodup l (a::acc) (List.nodup_cons.2 ⟨fun ha=> ?_,h⟩)
    rw [List.any_eq_false] at hn
    exact hn a ha (by simp)
theorem eraseDups_nodup (l:List Nat):l.eraseDups.Nodup:=eraseDupsBy_nodup l [] List.nodup_nil
section
variable {P:Program} {X:Cx} {γ:Gh} {w w0:World} {st st':Nat→Option SE} {may:Nat→Prop} {a:Act} {s s':PS}
theorem Rel.heapLe (h:Rel X w0 may a w s γ):X.lo≤w.heap.size:=by rw [h.lo];exact h.keeps.size
theorem Rel.hX (h:Rel X w0 may a w s γ):∀b,X.as b∨X.ls b→b<w.heap.size:=fun b hb=>Nat.lt_of_lt_of_le (h.asLt b hb).1 h.heapLe
theorem Rel.rowLo (h:Rel X w0 may a w s γ):∀r ge b τ e z n f,γ r=some ge→s.st r=some (.row τ e z n f)→ge.blk=some b→X.my b:=by
 intro r ge b τ e z n f hr hs hb
 rcases h.own r ge b hr (.inl hb) with h1 | ⟨h1,_⟩
 ·exact h1
 ·have:=h.par r h1
  rw [hs] at this
  obtain ⟨ge1,ge0,q1,q2,q3,q4⟩:=this
  rw [hr] at q1;injection q1 with q1;subst q1
  obtain ⟨_,_,hbl,_⟩:=h.st.at_ r ge _ hr hs
  exact .inr ⟨r,ge0,q2,by rw [←q3];exact hb,by rw [←q4,←hbl];exact hb⟩
theorem eval_opd (h:Rel X w0 may a w s γ):Opd X γ w s.fr a.eval:=by
 refine ⟨fun t p hp=> ?_,fun v=>rfl,fun f=>rfl,fun g vs cs hg hc hfl=> ?_⟩
 ·obtain ⟨h1,h2⟩:=h.fr t p hp
  have:a.eval (.tmp t)=a.tmps.getD t undef:=by
   simp [Act.eval,Array.getD_eq_getD_getElem?]
  rw [this];exact h2
 ·obtain ⟨p,hp,hpo⟩:=globV_ok hg
  obtain ⟨⟨o,ho,hpo'⟩,hown,has⟩:=h.st.glob g p hp
  obtain ⟨T,fz,rfl⟩:=hpo o hpo'
  have hcell:∀k c,cs[k]? =some c→∃u,vs[k]? =some u∧constPV u=some c∧w.cell? ((⟨g,0,none⟩:Addr).add k)=some u:=fun k c hk=>by
   have hlen:=mapO_length hc
   have hkl:k<vs.length:=by rw [←hlen];exact (List.getElem?_eq_some_iff.1 hk).1
   obtain ⟨c',hc',hu⟩:=mapO_get hc k vs[k] (List.getElem?_eq_getElem hkl)
   rw [hk] at hc';injection hc' with hc';subst hc'
   have hadd:(⟨g,0,none⟩:Addr).add k=⟨g,k,none⟩:=by unfold Addr.add;split<;>simp_all
   refine ⟨vs[k],List.getElem?_eq_getElem hkl,hu, ?_⟩
   rw [hadd,cell_of_row w g k _ _ _ ho]
   simp [hkl]
  refine .rp 1 cs ⟨g,0,none⟩ (fun k=>vs.getD k undef) (fun c hcm=>List.all_eq_true.1 hfl c hcm) (fun _=>⟨⟨hown, .inr (.inl ⟨Nat.le_refl _,has⟩)⟩,(Array.getElem?_eq_some_iff.1 ho).1⟩) (fun k hk=> ?_) (fun k c hk=> ?_)
  ·obtain ⟨u,h1,_,h3⟩:=hcell k cs[k] (List.getElem?_eq_getElem hk)
   refine cellT_pos (by decide) ?_
   rw [h3];simp [List.getD,h1]
  ·obtain ⟨u,h1,h2,_⟩:=hcell k c hk
   have hfc:=List.all_eq_true.1 hfl c (List.mem_of_getElem? hk)
   have e:vs.getD k undef=u:=by simp [List.getD,h1]
   rw [e]
   have hr:=constPV_rep (X:=X) (γ:=γ) (w:=w) h2
   unfold constPV at h2
   split at h2<;>first | (injection h2 with h2;subst h2) | cases h2
   all_goals first | exact hr | (simp [PV.flat] at hfc)
theorem Rel.after (h:Rel X w0 may a w s γ) {E:Eff} {v:Value} {w':World} {γ':Gh} (hE:EffOK X γ w s.st E v w' γ' s'.st) (hpk:∀r∈E.kill,r=0∨16≤r) {dst:Option Tmp} (hn:s'.n=s.n)
  (hfr:∀t p,s'.fr t=some p→(dst=some t∧t<s.n∧Rep X γ' w' p v)∨(dst≠some t∧∃q,s.fr t=some q∧p=q.void E.kill)):Rel X w0 may (a.put dst v) w' s' γ':=by
 have hsz:(a.put dst v).tmps.size=a.tmps.size:=by cases dst<;>simp [Act.put]
 refine ⟨by rw [hsz,hn];exact h.size,by cases dst<;>exact h.defers,fun t p hp=> ?_,hE.sto, ?_,h.lo,fun r ge b hr hb=> ?_,h.asLt,fun r hr=> ?_,h.mayP,fun r e' hr hf=> ?_,fun r τ e z n f hr hs'=> ?_⟩
 rotate_right
 ·have hp:=h.par r hr
  cases hs:s.st r with
  | none=>rw [hs] at hp;exact hp.elim
  | some e0=>
    cases e0 with
    | box l=>
      obtain ⟨_,l',h4⟩:=hE.box r l hs
      rw [h4] at hs';cases hs'
    | row _ _ _ _ _=>exact h.pr r _ _ _ _ _ hr hs
    | bld T t x=>
      obtain ⟨_,_,_,_,_,_,_,_,_,k5⟩:=hE.bld r T t x hs
      rw [k5] at hs';cases hs'
 rotate_right
 ·obtain ⟨⟨e0,h0,f0⟩,hk⟩:=hE.fix r e' hr hf
  obtain ⟨ge,ge0,g1,g2,g3⟩:=h.fx r e0 h0 f0
  cases e0 with
  | row τ e z n f=>
    obtain ⟨vs,_,hbl,h1,_⟩:=h.st.at_ r ge _ g1 h0
    have hold:=hE.old _ _ (.os r ge g1 h1 hbl)
    simp only [PV.void,if_neg hk] at hold
    obtain ⟨ge',q1,q2⟩:=os_inv hold
    exact ⟨ge',ge0,q1,g2,by rw [←q2];exact g3⟩
  | box _=>cases f0
  | bld _ _ _=>cases f0
 ·rcases hfr t p hp with ⟨rfl,ht,hr⟩ | ⟨hne,q,hq,rfl⟩
  ·refine ⟨by rw [hn];exact ht, ?_⟩
   have:(a.put (some t) v).tmps.getD t undef=v:=by
    have ht':t<a.tmps.size:=by rw [h.size];exact ht
    simp [Act.put,Array.getD_eq_getD_getElem?,ht']
   rw [this];exact hr
  ·obtain ⟨h1,h2⟩:=h.fr t q hq
   refine ⟨by rw [hn];exact h1, ?_⟩
   have:(a.put dst v).tmps.getD t undef=a.tmps.getD t undef:=by
    cases dst with
    | none=>rfl
    | some d=>
      have:d≠t:=fun e=>hne (by rw [e])
      simp [Act.put,Array.getD_eq_getD_getElem?,Array.getElem?_setIfInBounds_ne this]
   rw [this];exact hE.old q _ h2
 ·refine ⟨hE.keeps.os.trans h.keeps.os,hE.keeps.tape.trans h.keeps.tape,hE.keeps.output.trans h.keeps.output,Nat.le_trans h.keeps.size hE.keeps.size,fun b hb hm=> ?_⟩
  rw [hE.keeps.block b (Nat.lt_of_lt_of_le hb h.keeps.size) (fun ho=> ?_)]
  ·exact h.keeps.block b hb hm
  ·obtain ⟨r,ge,hr,hgb⟩:=ho
   rcases h.own r ge b hr hgb with h1 | ⟨h1,ge0,h2,h3⟩
   ·rcases h1 with h1 | ⟨r0,ge0,h2,h3,_⟩
    ·have:=h.lo;omega
    ·exact hm (h.mayP r0 ge0 b h2 (.inl h3))
   ·exact hm (h.mayP r ge0 b h2 h3)
 ·rcases hE.ownE r ge b hr hb with h1 | ⟨ge0,h1,h2⟩
  ·exact .inl (.inl (Nat.le_trans h.heapLe h1))
  ·exact h.own r ge0 b h1 h2
 ·have hp:=h.par r hr
  cases hs:s.st r with
  | none=>rw [hs] at hp;exact hp.elim
  | some e=>
    rw [hs] at hp
    cases e with
    | box l=>
      obtain ⟨h3,l',h4⟩:=hE.box r l hs
      rw [h4]
      exact h3.trans hp
    | row τ e z n f=>
      obtain ⟨ge,ge0,q1,q2,q3,q4⟩:=hp
      obtain ⟨hr1,hr2⟩:=h.pr r _ _ _ _ _ hr hs
      have hk:r∉E.kill:=fun hm=>by
       have:=hpk r hm
       omega
      obtain ⟨vs,_,hbl,h1,_⟩:=h.st.at_ r ge _ q1 hs
      have hold:=hE.old _ _ (.os r ge q1 h1 hbl)
      simp only [PV.void,if_neg hk] at hold
      obtain ⟨ge',k1,k2,k3⟩:=os_inv2 hold
      have hb':ge'.blk=ge.blk:=by rw [k3,hbl,k2]
      have hd:=hE.sto.dom r
      rw [k1] at hd
      obtain ⟨e',he'⟩:=Option.isSome_iff_exists.1 hd.symm
      rw [he']
      have hrs:=hE.sto.at_ r ge' e' k1 he'
      cases e' with
      | row _ _ _ _ _=>exact ⟨ge',ge0,k1,q2,hb'.trans q3,by rw [←q4,←k2]⟩
      | box l=>
        obtain ⟨b,⟨m1,m2⟩,_⟩:=hrs
        rw [k3,m2] at m1;cases m1
      | bld T t x=>
        obtain ⟨b,p,v1,m1,m2,_,_,_,m6⟩:=hrs
        rw [k3,m2] at m1
        exact absurd m1 m6
    | bld T t x=>
      obtain ⟨ge1,ge2,k1,k2,k3,k4,T',t',x',k5⟩:=hE.bld r T t x hs
      obtain ⟨g1,g0,m1,m2,m3,m4⟩:=hp
      rw [k1] at m1;injection m1 with m1;subst m1
      rw [k5]
      exact ⟨ge2,g0,k2,m2,k3.trans m3,k4.trans m4⟩
theorem okO_iff:∀(l:List Prop) (ok ok':Prop),okO ok l=some ok'→(ok'↔ok∧allP l)
 | [],ok,ok',h=>by simp only [okO,Option.some.injEq] at h;subst h;simp [allP]
 | p::ps,ok,ok',h=>by
   simp only [okO] at h
   rw [okO_iff ps _ ok' h];simp only [allP,and_assoc]
theorem okG_iff (G:Bool):∀(l:List Prop) (ok ok':Prop),okG G ok l=some ok'→(ok'↔ok∧(G=true→allP l))
 | [],ok,ok',h=>by simp only [okG,Option.some.injEq] at h;subst h;simp [allP]
 | p::ps,ok,ok',h=>by
   simp only [okG] at h
   rw [okG_iff G ps _ ok' h];simp only [allP]
   constructor
   ·rintro ⟨⟨h1,h2⟩,h3⟩;exact ⟨h1,fun hg=>⟨h2 hg,h3 hg⟩⟩
   ·rintro ⟨h1,h2⟩;exact ⟨⟨h1,fun hg=>(h2 hg).1⟩,fun hg=>(h2 hg).2⟩
theorem allP_append:∀(l l':List Prop),allP (l++l')↔allP l∧allP l'
 | [],l'=>by simp [allP]
 | p::ps,l'=>by simp only [List.cons_append,allP,allP_append ps l',and_assoc]
structure StepP (S:FuncId→List PV→List SE→CallRes→Prop) (lg:Bool) (c:CallRes) (i:Nat) (x:Ins) (s s':PS) (G:Bool) (vs:List PV) (cs:List SE) (E:Eff):Prop where
 guard:guardV s.fr x.g=some G
 vals:∃vs0,valL s.fr x.i.opr=some vs0∧stripI x.i G vs0=((stripI x.i G vs0).1,vs)∧(s'.ok↔s.ok∧(x.g≠none→G=true→allP ((stripI x.i G vs0).1++E.side))∧(x.g=none→allP ((stripI x.i G vs0).1++E.side)))
 ent:getL s.st (x.i.acc vs)=some cs
 eff:eff S c x.id x.i vs (x.i.acc vs) cs=some E
 log:logO lg s.log i (x.i.acc vs) vs (logCs x.i cs E.val) E.val E.wr E.nw E.kill E.rm=some s'.log
 n:s'.n=s.n
 st:newSt x.id E.kill E.rm E.wr E.nw s.st=some s'.st
 dlt:∀d,x.d=some d→d<s.n
 fr:s'.fr=match x.d with
  | none=>voidF E.kill s.fr
  | some d=>upd (voidF E.kill s.fr) d (if x.g=none then E.val else .cnd G E.val)
 gd:x.g≠none→E.wr= []∧E.nw= []∧E.kill= []∧E.rm= []∧x.d≠none
 pk:∀r∈E.kill,r=0∨16≤r
theorem stepI_parts {S:FuncId→List PV→List SE→CallRes→Prop} {lg:Bool} {c:CallRes} {i:Nat} {x:Ins} (h:stepI S lg c i x s=some s'):
  ∃G vs cs E,StepP S lg c i x s s' G vs cs E:=by
 obtain ⟨n,fr,st,ok,log⟩:=s
 obtain ⟨od,oid,og,oi⟩:=x
 unfold stepI at h
 simp only at h
 split at h
 ·cases h
 ·rename_i G hG
  split at h
  ·cases h
  ·rename_i vs0 hvs
   split at h
   ·cases h
   ·rename_i cs hcs
    split at h
    ·cases h
    ·rename_i val side wr nw kill rm hE
     split at h
     ·cases h
     ·rename_i log' hlog
      split at h
      ·split at h
       ·rename_i ok' st' fr' v hok hst hfr hv
        obtain ⟨hfr,hpk⟩:=newFr_some hfr
        subst hfr
        rw [norm_some] at hv;injection hv with hv;subst hv
        split at h
        ·injection h with h;subst h
         exact ⟨G,_,cs,_,hG,⟨vs0,hvs,rfl,by simpa using okO_iff _ _ _ hok⟩,hcs,hE,hlog,rfl,hst,(fun d hd=>by cases hd),rfl,fun hg=>absurd rfl hg,hpk⟩
        ·rename_i d
         split at h
         ·rename_i hlt
          injection h with h;subst h
          exact ⟨G,_,cs,_,hG,⟨vs0,hvs,rfl,by simpa using okO_iff _ _ _ hok⟩,hcs,hE,hlog,rfl,hst,(fun d' hd=>by injection hd with hd;subst hd;simpa [Nat.blt_eq] using hlt),by simp,fun hg=>absurd rfl hg,hpk⟩
         ·cases h
       ·cases h
      ·rename_i g
       split at h
       ·rename_i d v ok' hv hok
        rw [norm_some] at hv;injection hv with hv;subst hv
        split at h
        ·rename_i hlt
         injection h with h;subst h
         exact ⟨G,_,cs,_,hG,⟨vs0,hvs,rfl,by simpa using okG_iff _ _ _ _ hok⟩,hcs,hE,hlog,rfl,by simp [newSt],(fun d' hd=>by injection hd with hd;subst hd;simpa [Nat.blt_eq] using hlt),by simp [voidF_nil],fun _=>⟨rfl,rfl,rfl,rfl,by simp⟩,fun r hr=>by cases hr⟩
        ·cases h
       ·cases h
theorem idsL_acc {f:A} {xs:List A} {vs:List PV}:((I.call f xs).acc vs).Nodup:=eraseDups_nodup _
theorem pick_op {ρ:Operand→Value} {fr:Nat→Option PV} {wr:Bool} {o:Oper} {i:I} {vs0:List PV} {cs:List SE} {E:Eff} {d:Nat} {S:FuncId→List PV→List SE→CallRes→Prop} {c:CallRes} (hc:compI P wr o=some i) (hpk:∃x y z,i= .pick x y z)
  (H:Opd X γ w fr ρ) (hst:RepSt X γ w st) (hv:valL fr i.opr=some vs0) (hsd:allP (stripI i true vs0).1) (hcs:getL st (i.acc (stripI i true vs0).2)=some cs)
  (hE:eff S c d i (stripI i true vs0).2 (i.acc (stripI i true vs0).2) cs=some E) (hs:allP E.side) (hnew:newSt d E.kill E.rm E.wr E.nw st=some st'):Snd P X γ w st E st' (execOp ρ o):=by
 obtain ⟨x,y,z,rfl⟩:=hpk
 have hop:∃c0 a0 b0,o.op= .pick c0 a0 b0∧arg c0=some x∧arg a0=some y∧arg b0=some z:=by
  revert hc
  unfold compI
  intro hc
  repeat' (split at hc)
  all_goals first
   | (cases hc;done)
   | (obtain ⟨y,hy,hc⟩:=Option.map_eq_some_iff.1 hc;cases hc;done)
   | (injection hc with hc;injection hc with e1 e2 e3;subst e1;subst e2;subst e3
      rename_i _ c0 a0 b0 hop _ _ _ _ _ _ h1 h2 h3
      exact ⟨c0,a0,b0,hop,h1,h2,h3⟩)
   | skip
 obtain ⟨c0,a0,b0,hop,h1,h2,h3⟩:=hop
 have hR0:=op3 H h1 h2 h3 hv
 have hR:RepL X γ w (stripI (.pick x y z) true vs0).2 [ρ c0,ρ a0,ρ b0]:=by
  unfold stripI at hsd⊢
  simp only at hsd⊢
  split at hsd
  ·obtain ⟨u,us,hu,hr1,hr2⟩:=hR0.cons_inv
   rw [hu]
   exact RepL.cons_ (hr1.cnd_inv (by simpa [allP] using hsd)) hr2
  ·exact hR0
 generalize (stripI (.pick x y z) true vs0).2=vs at*
 simp only [eff] at hE
 unfold execOp;rw [hop]
 unfold ePick at hE
 split at hE
 ·rename_i b p q
  have hb:=hR.2 0 _ _ rfl rfl
  have hp:=hR.2 1 _ _ rfl rfl
  have hq:=hR.2 2 _ _ rfl rfl
  have hbv:=hb.bool_inv
  obtain ⟨h4,h5⟩:=pick_sound hp hq hE hs
  have hm:((do pure (Next.value (if←asBool (ρ c0) then ρ a0 else ρ b0))):Sem Next)=pure (.value (if b then ρ a0 else ρ b0)):=by
   rw [hbv];cases b<;>rfl
  show Snd P X γ w st E st' ((do pure (Next.value (if←asBool (ρ c0) then ρ a0 else ρ b0))):Sem Next)
  rw [hm]
  exact Snd.val hst h4 h5 hnew
 ·cases hE
theorem op_wp {wr:Bool} {o:Oper} {i:I} {vs0:List PV} {cs:List SE} {E:Eff} {d:Nat} {c:CallRes} {st':Nat→Option SE} {Q:Exit→Act→World→Prop}
  (hR:Rel X w0 may a w s γ) (hc:compI P wr o=some i) (hv:valL s.fr i.opr=some vs0) (hsd:allP (stripI i true vs0).1) (hcs:getL s.st (i.acc (stripI i true vs0).2)=some cs)
  (hE:eff (PureCall P) c d i (stripI i true vs0).2 (i.acc (stripI i true vs0).2) cs=some E) (hs:allP E.side) (hnew:newSt d E.kill E.rm E.wr E.nw s.st=some st'):
  o.wp P a w (fun a' w'=>∃v γ',a'=a.put o.dst v∧EffOK X γ w s.st E v w' γ' st') Q:=by
 have H:=eval_opd hR
 by_cases hpk:∃x y z,i= .pick x y z
 ·obtain ⟨nx,v,w',γ',hrun,hnx,hok⟩:=pick_op hc hpk H hR.st hv hsd hcs hE hs hnew
  unfold Oper.wp
  rw [hrun]
  rcases hnx with rfl | ⟨rfl,rfl⟩
  ·exact ⟨v,γ',rfl,hok⟩
  ·exact ⟨_,γ',rfl,hok⟩
 have hsi:stripI i true vs0=stripS true vs0:=by
  unfold stripI
  split
  ·exact absurd ⟨_,_,_,rfl⟩ hpk
  ·rfl
 rw [hsi] at hsd hcs hE
 cases hnc:i.isCall with
 | false=>
   obtain ⟨nx,v,w',γ',hrun,hnx,hok⟩:=op_sound hc hnc H hR.st hR.hX hR.rowLo hv hsd hcs hE hs hnew
   unfold Oper.wp
   rw [hrun]
   rcases hnx with rfl | ⟨rfl,rfl⟩
   ·exact ⟨v,γ',rfl,hok⟩
   ·exact ⟨_,γ',rfl,hok⟩
 | true=>
   have hcall:∃cl f y ys,o.op= .call cl∧cl.callee= .value f∧arg f=some y∧mapO (fun (q:Operand×TypeId)=>argT P q.2 q.1) (cl.args.toList.zip cl.argTypes.toList)=some ys∧cl.args.size=cl.argTypes.size∧i= .call y ys:=by
    revert hc
    unfold compI
    intro hc
    repeat' (split at hc)
    all_goals first
     | (cases hc;done)
     | (injection hc with hc;subst hc;simp [I.isCall] at hnc;done)
     | (obtain ⟨y,hy,rfl⟩:=Option.map_eq_some_iff.1 hc;simp [I.isCall] at hnc;done)
     | (injection hc with hc;subst hc
        rename_i _ cl hop _ f hcal _ _ y ys hy hys hsz
        exact ⟨_,_,_,_,hop,hcal,hy,hys,by simpa using hsz,rfl⟩)
   obtain ⟨cl,f,y,ys,hop,hcal,hy,hys,hsz,rfl⟩:=hcall
   have hz:(cl.args.toList.zip cl.argTypes.toList).map (fun q=>a.eval q.1)=(cl.args.map a.eval).toList:=by
    have hl:cl.args.toList.length=cl.argTypes.toList.length:=by simpa using hsz
    have h1:(cl.args.toList.zip cl.argTypes.toList).map (fun q=>q.1)=cl.args.toList:=List.map_fst_zip (by omega)
    rw [show (fun q:Operand×TypeId=>a.eval q.1)=a.eval∘(fun q=>q.1) from rfl,←List.map_map,h1]
    simp
   have hR0:RepL X γ w vs0 (a.eval f::(cl.args.map a.eval).toList):=by
    simp only [I.opr,valL] at hv
    split at hv
    ·rename_i p ps hp hps
     injection hv with hv;subst hv
     refine RepL.cons_ (arg_rep H hy hp) ?_
     have:=argsT_rep (P:=P) (α:=Operand×TypeId) H (fun q=>q.2) (fun q=>q.1) (xs:=cl.args.toList.zip cl.argTypes.toList) (ys:=ys) (ps:=ps) hys hps
     rwa [hz] at this
    ·cases hv
   have hRs:=stripS_sound hR0 hsd
   generalize (stripS true vs0).2=vs at*
   cases vs with
   | nil=>simp [eff,eCall] at hE
   | cons f0 args0=>
     obtain ⟨fv,avs,hfv,hr1,hr2⟩:=hRs.cons_inv
     injection hfv with hfv1 hfv2
     simp only [eff,eCall] at hE
     obtain ⟨id,first,caps,hfe,⟨fn,hfn,hbody,hname⟩,hC⟩:=call_sound hR.st hR.hX hR.heapLe hR.rowLo hr1 hr2 idsL_acc hcs hE hs hnew
     have hrun:(execOp a.eval o).run P w= .ok (.enter id ((first++avs.toArray)++caps)) w:=by
      unfold execOp
      rw [hop]
      have hb:fn.body≠none:=by intro h;rw [h] at hbody;cases hbody
      have hnm:fn.name≠ "runtime.NumGoroutine":=by simpa using hname
      have hav:cl.args.map a.eval=avs.toArray:=by rw [←hfv2]
      simp [resolve,hcal,hfv1,hfe,Deferred.ofValue,invoke,callFunc,hfn,hb,hnm,hav]
     unfold Oper.wp
     rw [hrun]
     simp only [Oper.upon]
     refine hC.mono ?_
     rintro e w' ⟨v,γ',rfl,hok⟩
     exact ⟨v,γ',rfl,hok⟩
end
open Go.RowKit
section
variable {P:Program} {X:Cx} {γ:Gh} {w w0:World} {st st':Nat→Option SE} {may:Nat→Prop} {a:Act} {s s':PS} {ops:Array Oper} {Q:Exit→Act→World→Prop} {K:Act→World→Prop}
theorem compO_parts {wr:Bool} {o:Oper} {x:Ins} (h:compO P wr ops o=some x):guardS ops o.guard=some x.g∧compI P wr o=some x.i∧x.d=o.dst:=by
 unfold compO at h
 split at h
 ·rename_i g i hg hi
  injection h with h;subst h
  exact ⟨hg,hi,rfl⟩
 ·cases h
theorem guard_none {o:Oper} {x:Ins} (hg:guardS ops o.guard=some x.g) (hx:x.g=none) (f:Nat→Option Bool):Region.wanted o f=true:=by
 unfold Region.wanted
 cases h:o.guard with
 | none=>rfl
 | some jw=>
   obtain ⟨j,want⟩:=jw
   rw [h] at hg
   simp only [guardS] at hg
   split at hg
   ·rw [hx] at hg;cases hg
   ·cases hg
theorem guard_some {o:Oper} {x:Ins} {g:Nat×Bool} {G:Bool} (hR:Rel X w0 may a w s γ) (hg:guardS ops o.guard=some x.g) (hx:x.g=some g) (hG:guardV s.fr x.g=some G):
  Region.wanted o (yielded ops a.tmps)=G:=by
 unfold Region.wanted
 cases h:o.guard with
 | none=>rw [h,hx] at hg;cases hg
 | some jw=>
   obtain ⟨j,want⟩:=jw
   rw [h] at hg
   simp only [guardS] at hg
   split at hg
   ·rename_i d hd
    rw [hx] at hg;injection hg with hg;injection hg with hg;subst hg
    rw [hx] at hG
    simp only [guardV] at hG
    have hy:∀p,s.fr d=some p→∃v,a.tmps[d]? =some v∧Rep X γ w p v:=fun p hp=>by
     obtain ⟨h1,h2⟩:=hR.fr d p hp
     have hlt:d<a.tmps.size:=by rw [hR.size];exact h1
     refine ⟨a.tmps[d],by simp [hlt], ?_⟩
     simpa [Array.getD_eq_getD_getElem?,hlt] using h2
    simp only
    unfold yielded
    rw [hd]
    simp only [Option.bind_some]
    split at hG
    ·rename_i b hb
     injection hG with hG;subst hG
     obtain ⟨v,hv,hr⟩:=hy _ hb
     cases hr.bool_inv
     rw [hv];cases b<;>cases want<;>rfl
    ·rename_i gg b hb
     injection hG with hG;subst hG
     obtain ⟨v,hv,hr⟩:=hy _ hb
     rw [hv]
     cases gg with
     | true=>cases (hr.cnd_inv rfl).bool_inv;cases b<;>cases want<;>rfl
     | false=>
       cases hr with
       | cnd _ _ _ _ hu=>rw [hu rfl];cases want<;>cases b<;>rfl
    ·cases hG
   ·cases hg
theorem step_main {wr lg:Bool} {o:Oper} {x:Ins} {c:CallRes} {i:Nat} {G:Bool} {vs vs0:List PV} {cs:List SE} {E:Eff} (hR:Rel X w0 may a w s γ) (hi:compI P wr o=some x.i) (hd:x.d=o.dst) (H:StepP (PureCall P) lg c i x s s' G vs cs E)
  (hv0:valL s.fr x.i.opr=some vs0) (hvs:stripI x.i G vs0=((stripI x.i G vs0).1,vs)) (hK:∀a' w' γ',Rel X w0 may a' w' s' γ'→K a' w') (hG:G=true) (ha:allP ((stripI x.i G vs0).1++E.side)):o.wp P a w K Q:=by
 subst hG
 obtain ⟨ha1,ha2⟩:=(allP_append _ _).1 ha
 have e1:(stripI x.i true vs0).2=vs:=by rw [hvs]
 have:=op_wp (Q:=Q) hR hi hv0 ha1 (by rw [e1];exact H.ent) (by rw [e1];exact H.eff) ha2 H.st
 refine Oper.wp_mono ?_ this
 rintro a' w' ⟨v,γ',rfl,hE⟩
 refine hK _ _ γ' (hR.after hE H.pk H.n fun t p hp=> ?_)
 rw [H.fr] at hp
 cases hxd:x.d with
 | none=>
   rw [hxd] at hp
   right
   refine ⟨by rw [←hd,hxd];simp, ?_⟩
   simp only [voidF] at hp
   obtain ⟨q,hq,rfl⟩:=Option.map_eq_some_iff.1 hp
   exact ⟨q,hq,rfl⟩
 | some d=>
   rw [hxd] at hp
   simp only at hp
   by_cases htd:t=d
   ·subst htd
    rw [upd_same] at hp;injection hp with hp;subst hp
    left
    refine ⟨by rw [←hd,hxd],H.dlt _ hxd, ?_⟩
    split
    ·exact hE.val
    ·exact .cnd _ _ _ (fun _=>hE.val) (fun h=>by cases h)
   ·rw [upd_ne _ _ htd] at hp
    right
    refine ⟨by rw [←hd,hxd];simpa using fun h=>htd h.symm, ?_⟩
    simp only [voidF] at hp
    obtain ⟨q,hq,rfl⟩:=Option.map_eq_some_iff.1 hp
    exact ⟨q,hq,rfl⟩
theorem step_sound {wr lg:Bool} {o:Oper} {x:Ins} {c:CallRes} {i k:Nat} (hk:ops[k]? =some o) (hR:Rel X w0 may a w s γ) (ho:compO P wr ops o=some x) (hs:stepI (PureCall P) lg c i x s=some s') (hok:s'.ok)
  (hK:∀a' w' γ',Rel X w0 may a' w' s' γ'→K a' w'):wpOp P ops Q k K a w:=by
 obtain ⟨hg,hi,hd⟩:=compO_parts ho
 obtain ⟨G,vs,cs,E,H⟩:=stepI_parts hs
 obtain ⟨vs0,hv0,hvs,hokk⟩:=H.vals
 have main:G=true→allP ((stripI x.i G vs0).1++E.side)→o.wp P a w K Q:=step_main hR hi hd H hv0 hvs hK
 unfold wpOp
 rw [hk]
 simp only
 cases hxg:x.g with
 | none=>
   have hG:G=true:=by have:=H.guard;rw [hxg] at this;simpa [guardV] using this.symm
   rw [guard_none hg hxg,if_pos rfl]
   exact .inl (main hG ((hokk.1 hok).2.2 hxg))
 | some g=>
   rw [guard_some hR hg hxg H.guard]
   cases G with
   | true=>
     rw [if_pos rfl]
     exact .inl (main rfl ((hokk.1 hok).2.1 (by rw [hxg];simp) rfl))
   | false=>
     rw [if_neg (by simp)]
     obtain ⟨h1,h2,h3,h4,h5⟩:=H.gd (by rw [hxg];simp)
     have hst:s'.st=s.st:=by
      have:=H.st
      rw [h1,h2,h3,h4] at this
      simpa [newSt] using this.symm
     have hE:EffOK X γ w s.st (Eff.pure .junk) undef w γ s'.st:=by
      rw [hst];exact EffOK.still (Eff.still_pure _) hR.st (.junk _)
     refine hK _ _ γ (hR.after hE (fun r hr=>by cases hr) H.n fun t p hp=> ?_)
     rw [H.fr,h3,voidF_nil] at hp
     cases hxd:x.d with
     | none=>exact absurd hxd h5
     | some d=>
       rw [hxd] at hp
       simp only at hp
       by_cases htd:t=d
       ·subst htd
        rw [upd_same] at hp;injection hp with hp;subst hp
        left
        refine ⟨by rw [←hd,hxd],H.dlt _ hxd, ?_⟩
        rw [if_neg (by rw [hxg];simp)]
        exact .cnd _ _ _ (fun h=>by cases h) (fun _=>rfl)
       ·rw [upd_ne _ _ htd] at hp
        right
        exact ⟨by rw [←hd,hxd];simpa using fun h=>htd h.symm,p,hp,(void_nil p).symm⟩
theorem stepX_sound {wr lg:Bool} {o:Oper} {x:Ins} {c:CallRes} {i k:Nat} (hk:ops[k]? =some o) (hR:Rel X w0 may a w s γ) (ho:compO P wr ops o=some x) (hs:stepX (PureCall P) lg c i x s=some s') (hok:s'.ok)
  (hK:∀a' w' γ',Rel X w0 may a' w' s' γ'→K a' w'):wpOp P ops Q k K a w:=by
 cases lg with
 | true=>exact step_sound (lg:=true) hk hR ho (by simpa only [stepX] using hs) hok hK
 | false=>
   obtain ⟨hg,hi,hd⟩:=compO_parts ho
   obtain ⟨od,oid,og,oi⟩:=x
   obtain ⟨n,fr,st,ok,log⟩:=s
   simp only [stepX,stepG] at hs
   split at hs
   ·rename_i g _ _ hh
    split at hs
    ·rename_i hgv
     obtain ⟨G,vs,cs,E,H⟩:=stepI_parts hs
     obtain ⟨vs0,hv0,hvs,hokk⟩:=H.vals
     have hG:G=true:=by have:=H.guard;simpa [guardV] using this.symm
     have main:=step_main (Q:=Q) (x:=⟨od,oid,none,oi⟩) hR hi hd H hv0 hvs hK hG ((hokk.1 hok).2.2 rfl)
     unfold wpOp
     rw [hk]
     simp only
     rw [guard_some hR hg rfl hgv,if_pos rfl]
     exact .inl main
    ·rename_i hgv
     unfold wpOp
     rw [hk]
     simp only
     rw [guard_some hR hg rfl hgv,if_neg (by simp)]
     have hE:EffOK X γ w st (Eff.pure .junk) undef w γ st:=EffOK.still (Eff.still_pure _) hR.st (.junk _)
     cases hod:od with
     | none=>
       rw [hod] at hs
       simp only [Option.some.injEq] at hs
       subst hs
       rw [←hd]
       simp only [hod]
       exact hK _ _ γ (hR.after hE (fun r hr=>by cases hr) rfl fun t p hp=> .inr ⟨by simp,p,hp,(void_nil p).symm⟩)
     | some d=>
       rw [hod] at hs
       simp only at hs
       split at hs
       ·rename_i hlt
        injection hs with hs;subst hs
        rw [←hd]
        simp only [hod]
        refine hK _ _ γ (hR.after hE (fun r hr=>by cases hr) rfl fun t p hp=> ?_)
        simp only at hp
        by_cases htd:t=d
        ·subst htd
         rw [upd_same] at hp;injection hp with hp;subst hp
         exact .inl ⟨rfl,by simpa [Nat.blt_eq] using hlt, .cnd _ _ _ (fun h=>by cases h) (fun _=>rfl)⟩
        ·rw [upd_ne _ _ htd] at hp
         exact .inr ⟨by simpa using fun h=>htd h.symm,p,hp,(void_nil p).symm⟩
       ·cases hs
    ·cases hs
   ·rename_i g _ _ hh
    split at hs
    ·exact step_sound hk hR ho hs hok hK
    split at hs
    ·rename_i hgv
     unfold wpOp
     rw [hk]
     simp only
     rw [guard_some hR hg rfl hgv,if_neg (by simp)]
     have hE:EffOK X γ w st (Eff.pure .junk) undef w γ st:=EffOK.still (Eff.still_pure _) hR.st (.junk _)
     cases hod:od with
     | none=>
       rw [hod] at hs
       simp only [Option.some.injEq] at hs
       subst hs
       rw [←hd]
       simp only [hod]
       exact hK _ _ γ (hR.after hE (fun r hr=>by cases hr) rfl fun t p hp=> .inr ⟨by simp,p,hp,(void_nil p).symm⟩)
     | some d=>
       rw [hod] at hs
       simp only at hs
       split at hs
       ·rename_i hlt
        injection hs with hs;subst hs
        rw [←hd]
        simp only [hod]
        refine hK _ _ γ (hR.after hE (fun r hr=>by cases hr) rfl fun t p hp=> ?_)
        simp only at hp
        by_cases htd:t=d
        ·subst htd
         rw [upd_same] at hp;injection hp with hp;subst hp
         exact .inl ⟨rfl,by simpa [Nat.blt_eq] using hlt, .cnd _ _ _ (fun h=>by cases h) (fun _=>rfl)⟩
        ·rw [upd_ne _ _ htd] at hp
         exact .inr ⟨by simpa using fun h=>htd h.symm,p,hp,(void_nil p).symm⟩
       ·cases hs
    ·cases hs
   ·rename_i g _ _ hh
    split at hs
    ·rename_i s'' hs''
     injection hs with hs;subst hs
     exact step_sound hk hR ho hs'' hok hK
    ·split at hs
     ·rename_i hgv
      obtain ⟨G,vs,cs,E,H⟩:=stepI_parts hs
      obtain ⟨vs0,hv0,hvs,hokk⟩:=H.vals
      have hG:G=true:=by have:=H.guard;simpa [guardV] using this.symm
      have main:=step_main (Q:=Q) (x:=⟨od,oid,none,oi⟩) hR hi hd H hv0 hvs hK hG ((hokk.1 hok).2.2 rfl)
      unfold wpOp
      rw [hk]
      simp only
      rw [guard_some hR hg rfl hgv,if_pos rfl]
      exact .inl main
     ·rename_i hgv
      unfold wpOp
      rw [hk]
      simp only
      rw [guard_some hR hg rfl hgv,if_neg (by simp)]
      have hE:EffOK X γ w st (Eff.pure .junk) undef w γ st:=EffOK.still (Eff.still_pure _) hR.st (.junk _)
      cases hod:od with
      | none=>
        rw [hod] at hs
        simp only [Option.some.injEq] at hs
        subst hs
        rw [←hd]
        simp only [hod]
        exact hK _ _ γ (hR.after hE (fun r hr=>by cases hr) rfl fun t p hp=> .inr ⟨by simp,p,hp,(void_nil p).symm⟩)
      | some d=>
        rw [hod] at hs
        simp only at hs
        split at hs
        ·rename_i hlt
         injection hs with hs;subst hs
         rw [←hd]
         simp only [hod]
         refine hK _ _ γ (hR.after hE (fun r hr=>by cases hr) rfl fun t p hp=> ?_)
         simp only at hp
         by_cases htd:t=d
         ·subst htd
          rw [upd_same] at hp;injection hp with hp;subst hp
          exact .inl ⟨rfl,by simpa [Nat.blt_eq] using hlt, .cnd _ _ _ (fun h=>by cases h) (fun _=>rfl)⟩
         ·rw [upd_ne _ _ htd] at hp
          exact .inr ⟨by simpa using fun h=>htd h.symm,p,hp,(void_nil p).symm⟩
        ·cases hs
     ·cases hs
   ·exact step_sound hk hR ho hs hok hK
def evL (S:FuncId→List PV→List SE→CallRes→Prop) (lg:Bool) (cr:Nat→CallRes):List (Nat×Ins)→PS→Option PS
 | [],s=>some s
 | (i,x)::r,s=>match stepX S lg (cr i) i x s with
   | some s'=>evL S lg cr r s'
   | none=>none
theorem stepI_ok {S:FuncId→List PV→List SE→CallRes→Prop} {lg:Bool} {c:CallRes} {i:Nat} {x:Ins} (h:stepI S lg c i x s=some s') (hok:s'.ok):s.ok:=by
 obtain ⟨G,vs,cs,E,H⟩:=stepI_parts h
 obtain ⟨vs0,hv0,hvs,hokk⟩:=H.vals
 exact (hokk.1 hok).1
theorem stepX_ok {S:FuncId→List PV→List SE→CallRes→Prop} {lg:Bool} {c:CallRes} {i:Nat} {x:Ins} (h:stepX S lg c i x s=some s') (hok:s'.ok):s.ok:=by
 cases lg with
 | true=>exact stepI_ok (lg:=true) (by simpa only [stepX] using h) hok
 | false=>
   obtain ⟨od,oid,og,oi⟩:=x
   obtain ⟨n,fr,st,ok,log⟩:=s
   simp only [stepX,stepG] at h
   split at h
   ·split at h
    ·exact stepI_ok h hok
    ·split at h
     ·injection h with h;subst h;exact hok
     ·split at h
      ·injection h with h;subst h;exact hok
      ·cases h
    ·cases h
   ·split at h
    ·exact stepI_ok h hok
    split at h
    ·split at h
     ·injection h with h;subst h;exact hok
     ·split at h
      ·injection h with h;subst h;exact hok
      ·cases h
    ·cases h
   ·split at h
    ·rename_i s'' hs''
     injection h with h;subst h
     exact stepI_ok hs'' hok
    ·split at h
     ·exact stepI_ok h hok
     ·split at h
      ·injection h with h;subst h;exact hok
      ·split at h
       ·injection h with h;subst h;exact hok
       ·cases h
     ·cases h
   ·exact stepI_ok h hok
theorem evL_ok {S:FuncId→List PV→List SE→CallRes→Prop} {lg:Bool} {cr:Nat→CallRes}:∀{l:List (Nat×Ins)} {s s':PS},evL S lg cr l s=some s'→s'.ok→s.ok
 | [],s,s',h,hok=>by simp only [evL,Option.some.injEq] at h;subst h;exact hok
 | (i,x)::r,s,s',h,hok=>by
   simp only [evL] at h
   split at h
   ·rename_i s1 h1;exact stepX_ok h1 (evL_ok h hok)
   ·cases h
theorem reg_sound {wr lg:Bool} {cr:Nat→CallRes}:∀{l:List (Nat×Ins)} {a:Act} {w:World} {s s':PS} {γ:Gh},(∀p∈l,∃o,ops[p.1]? =some o∧compO P wr ops o=some p.2)→
  Rel X w0 may a w s γ→evL (PureCall P) lg cr l s=some s'→s'.ok→(∀a' w' γ',Rel X w0 may a' w' s' γ'→Q .normal a' w')→wpOps P ops Q (l.map (·.1)) a w
 | [],a,w,s,s',γ,hl,hR,h,hok,hK=>by
   simp only [evL,Option.some.injEq] at h;subst h
   simpa [wpOps] using hK _ _ _ hR
 | (i,x)::r,a,w,s,s',γ,hl,hR,h,hok,hK=>by
   simp only [evL] at h
   split at h
   ·rename_i s1 h1
    obtain ⟨o,ho,hx⟩:=hl (i,x) (by simp)
    rw [List.map_cons,wpOps_cons]
    exact stepX_sound ho hR hx h1 (evL_ok h hok) fun a' w' γ' hR'=>reg_sound (fun p hp=>hl p (by simp [hp])) hR' h hok hK
   ·cases h
end
open Go.RowKit
theorem boxesOf_sub:∀{ids:List Nat} {cs:List SE} {bs:List (Nat×SE)},boxesOf ids cs=some bs→∀p∈bs,p.1∈ids
 | [],cs,bs,h,p,hp=>by simp only [boxesOf,Option.some.injEq] at h;subst h;simp at hp
 | i::is, [],bs,h,p,hp=>by simp only [boxesOf,Option.some.injEq] at h;subst h;simp at hp
 | i::is, .box l::cs,bs,h,p,hp=>by
   simp only [boxesOf] at h
   split at h
   ·rename_i l' rest hl hrest
    injection h with h;subst h
    rcases List.mem_cons.1 hp with rfl | hp
    ·simp
    ·exact List.mem_cons_of_mem _ (boxesOf_sub hrest p hp)
   ·cases h
 | i::is, .row .. ::cs,bs,h,p,hp=>by
   simp only [boxesOf] at h
   exact List.mem_cons_of_mem _ (boxesOf_sub h p hp)
 | i::is, .bld .. ::cs,bs,h,p,hp=>by
   simp only [boxesOf] at h
   split at h
   ·rename_i rest hrest
    injection h with h;subst h
    rcases List.mem_cons.1 hp with rfl | hp
    ·simp
    ·exact List.mem_cons_of_mem _ (boxesOf_sub hrest p hp)
   ·cases h
def Eff.tame (E:Eff) (ids:List Nat):Prop:=(∀p∈E.wr,p.1∈ids)∧E.nw.length≤16
theorem tame_pure (p:PV) (ids:List Nat):(Eff.pure p).tame ids:=⟨by simp [Eff.pure],by simp [Eff.pure]⟩
theorem tame_side (p:PV) (q:Prop) (ids:List Nat):(Eff.side' p q).tame ids:=⟨by simp [Eff.side'],by simp [Eff.side']⟩
theorem biI_tame {w:Bool} {op:BinOp} {k:IntKind} {a b:Int} {E:Eff} {ids:List Nat} (h:biI w op k a b=some E):E.tame ids:=by
 unfold biI at h
 simp only at h
 repeat' (split at h)
 all_goals first
  | (injection h with h;subst h;first | exact tame_pure _ _ | exact tame_side _ _ _)
  | cases h
theorem shfI_tame {w:Bool} {op:BinOp} {k:IntKind} {a b:Int} {E:Eff} {ids:List Nat} (h:shfI w op k a b=some E):E.tame ids:=by
 unfold shfI at h
 repeat' (split at h)
 all_goals first
  | (injection h with h;subst h;first | exact tame_pure _ _ | exact tame_side _ _ _)
  | cases h
theorem eSt_tame {n:Nat} {vs:List PV} {cs:List SE} {E:Eff} {ids:List Nat} (h:eSt n vs cs=some E) (hi:ids=(vs.take 1).flatMap PV.top):E.tame ids:=by
 unfold eSt at h
 split at h
 ·split at h
  ·injection h with h;subst h;subst hi;exact ⟨by simp [PV.top],by simp⟩
  ·cases h
 ·split at h
  ·injection h with h;subst h;subst hi;exact ⟨by simp [PV.top],by simp⟩
  ·cases h
 ·cases h
theorem eClr_tame {zs:List PV} {vs:List PV} {cs:List SE} {E:Eff} {ids:List Nat} (h:eClr zs vs cs=some E) (hi:ids=(vs.take 1).flatMap PV.top):E.tame ids:=by
 unfold eClr at h
 split at h
 ·split at h
  ·injection h with h;subst h;subst hi;exact ⟨by simp [PV.top],by simp⟩
  ·cases h
 ·cases h
theorem eCpy_tame {z:Nat} {vs:List PV} {cs:List SE} {E:Eff} {ids:List Nat} (h:eCpy z vs cs=some E) (hi:ids=(vs.take 2).flatMap PV.top):E.tame ids:=by
 unfold eCpy at h
 split at h
 ·split at h
  ·split at h
   ·injection h with h;subst h;subst hi;exact ⟨by simp [PV.top],by simp⟩
   ·cases h
  ·cases h
 ·cases h
theorem rowOf_mem:∀{ids:List Nat} {cs:List SE} {r τ e z n:Nat} {f:Nat→List PV},rowOf ids cs=some (r,τ,e,z,n,f)→r∈ids
 | [],cs,r,τ,e,z,n,f,h=>by cases cs<;>simp [rowOf] at h
 | i::is, [],r,τ,e,z,n,f,h=>by simp [rowOf] at h
 | i::is,x::cs,r,τ,e,z,n,f,h=>by
   cases x with
   | row τ' e' z' n' f'=>
     simp only [rowOf] at h
     split at h
     ·simp only [Option.some.injEq,Prod.mk.injEq] at h
      simp [h.1]
     ·cases h
   | box l=>simp only [rowOf] at h;simp [rowOf_mem h]
   | bld T t y=>simp only [rowOf] at h;simp [rowOf_mem h]
theorem eCall_tame {S:FuncId→List PV→List SE→CallRes→Prop} {c:CallRes} {d:Nat} {vs:List PV} {ids:List Nat} {cs:List SE} {E:Eff} (h:eCall S c d vs ids cs=some E):E.tame ids:=by
 unfold eCall at h
 split at h
 ·unfold callV at h
  split at h
  ·rename_i hca
   unfold callA at hca
   split at hca
   ·rename_i id first caps
    cases hgv:natIn id givers with
    | true=>
      rw [hgv] at hca
      simp only at hca
      unfold givA at hca
      split at hca
      ·rename_i hrow
       split at hca
       ·split at hca
        rotate_left
        ·cases hca
        injection hca with hca
        simp only [Prod.mk.injEq] at hca
        obtain ⟨rfl,_,rfl⟩:=hca
        simp only [hgv] at h
        simp only [List.map_cons,List.map_nil,List.headD_cons] at h
        unfold givV at h
        split at h
        ·split at h
         ·injection h with h;subst h
          exact ⟨by simpa using rowOf_mem hrow,by simp⟩
         ·cases h
        ·split at h
         ·injection h with h;subst h
          exact ⟨by simpa using rowOf_mem hrow,by simp⟩
         ·cases h
        ·cases h
       ·cases hca
      ·cases hca
    | false=>
      rw [hgv] at hca
      simp only at hca
      cases hrdr:natIn id readers with
      | true=>
        rw [hrdr] at hca
        simp only at hca
        unfold readA at hca
        split at hca
        ·injection hca with hca
         simp only [Prod.mk.injEq] at hca
         obtain ⟨rfl,_,rfl⟩:=hca
         simp only [hgv,hrdr] at h
         split at h
         ·injection h with h;subst h
          exact ⟨by simp,by simp⟩
         ·cases h
        ·cases hca
      | false=>
      rw [hrdr] at hca
      simp only at hca
      split at hca
      ·rename_i bs hb
       injection hca with hca
       simp only [Prod.mk.injEq] at hca
       obtain ⟨rfl,_,rfl⟩:=hca
       simp only [hgv,hrdr] at h
       split at h
       ·rename_i hcond
        injection h with h;subst h
        refine ⟨fun p hp=> ?_,by simpa using hcond.1⟩
        have:=(List.of_mem_zip (a:=p.1) (b:=p.2) hp).1
        obtain ⟨q,hq,hqe⟩:=List.mem_map.1 this
        rw [←hqe]
        exact boxesOf_sub hb q hq
       ·cases h
      ·cases hca
   ·cases hca
  ·cases h
 ·cases h
theorem eff_tame {S:FuncId→List PV→List SE→CallRes→Prop} {c:CallRes} {d:Nat} {i:I} {vs:List PV} {cs:List SE} {E:Eff} (h:eff S c d i vs (i.acc vs) cs=some E):E.tame (i.acc vs):=by
 cases i with
 | st n x v=>exact eSt_tame h rfl
 | clr zs x=>exact eClr_tame h rfl
 | cpy z x y=>exact eCpy_tame h rfl
 | call f xs=>exact eCall_tame h
 | bi w op x y=>
   simp only [eff,eBi,biV] at h
   repeat' (split at h)
   all_goals first
    | exact biI_tame h
    | exact shfI_tame h
    | (injection h with h;subst h;first | exact tame_pure _ _ | exact tame_side _ _ _)
    | cases h
 | un w op x=>
   simp only [eff] at h
   unfold eUn at h
   split at h
   ·exact biI_tame h
   ·injection h with h;subst h;exact tame_pure _ _
   ·cases h
 | pick x y z=>
   simp only [eff] at h
   unfold ePick pickV at h
   repeat' (split at h)
   all_goals first
    | (injection h with h;subst h;first | exact tame_pure _ _ | exact tame_side _ _ _)
    | cases h
 | app e z bytes x y=>
   simp only [eff] at h
   unfold eApp at h
   repeat' (split at h)
   all_goals first
    | (injection h with h;subst h;exact ⟨by simp [I.acc,PV.top],by simp⟩)
    | cases h
 | slc z x lo hi=>
   cases lo<;>cases hi
   all_goals
    simp only [eff,Option.isSome,eSlc,eSlc00,eSlc10,eSlc01,eSlc11] at h
    repeat' (split at h)
   all_goals first
    | (injection h with h;subst h;first | exact tame_pure _ _ | exact tame_side _ _ _ | exact ⟨by simp [I.acc,PV.top],by simp⟩)
    | cases h
 | mv x=>
   simp only [eff] at h
   unfold eMv at h
   repeat' (split at h)
   all_goals first
    | (injection h with h;subst h;first | exact tame_pure _ _ | exact ⟨by simp [I.acc,PV.topV],by simp⟩)
    | cases h
 | slcs x lo hi=>
   cases lo<;>cases hi
   all_goals
    simp only [eff,Option.isSome,eSlcs,eSlcs00,eSlcs10,eSlcs01,eSlcs11] at h
    repeat' (split at h)
   all_goals first
    | (injection h with h;subst h;first | exact tame_pure _ _ | exact tame_side _ _ _)
    | cases h
 | _=>
   simp only [eff,eMv,eBx,eBd,eBs,eLd,eNc,eBib,eEqa,eCv,eFa,eFd,eIa,eIaa,eIxa,eIxs,eIsn,eLen,eLens,eMx,eMn,eMks,eEx,eCvb,eCvs,eMkm,eMpg,eMpu,eBsx] at h
   repeat' (split at h)
   all_goals first
    | (injection h with h;subst h;first | exact tame_pure _ _ | exact tame_side _ _ _ | exact ⟨by simp [I.acc,PV.top],by simp⟩)
    | cases h
mutual
theorem void_free {ks:List Nat}:∀(p:PV),(∀k∈ks,k∉p.ids)→p.void ks=p
 | .os r,h=>by
   have:r∉ks:=fun hr=>h r hr (by simp [PV.ids])
   simp [PV.void,this]
 | .vw b r lo n,h=>by
   have:r∉ks:=fun hr=>h r hr (by simp [PV.ids])
   simp [PV.void,this]
 | .rf m r,h=>by
   have:r∉ks:=fun hr=>h r hr (by simp [PV.ids])
   simp [PV.void,this]
 | .mpv _ _ _ _ _ _,_=>rfl
 | .pt r i j,h=>by
   have:r∉ks:=fun hr=>h r hr (by simp [PV.ids])
   simp [PV.void,this]
 | .agg cs,h=>by simp only [PV.void,PV.agg.injEq];exact void_freeL cs (by simpa only [PV.ids] using h)
 | .tup cs,h=>by simp only [PV.void,PV.tup.injEq];exact void_freeL cs (by simpa only [PV.ids] using h)
 | .fn f a b,h=>by
   simp only [PV.ids,List.mem_append,not_or] at h
   simp only [PV.void,PV.fn.injEq]
   exact ⟨trivial,void_freeL a fun k hk=>(h k hk).1,void_freeL b fun k hk=>(h k hk).2⟩
 | .cnd g p,h=>by simp only [PV.void,PV.cnd.injEq];exact ⟨trivial,void_free p (by simpa only [PV.ids] using h)⟩
 | .int _ _,_=>rfl
 | .bool _,_=>rfl
 | .str _,_=>rfl
 | .sl _ _ _ _,_=>rfl
 | .nil _,_=>rfl
 | .rp _ _,_=>rfl
 | .raw _,_=>rfl
 | .junk,_=>rfl
theorem void_freeL {ks:List Nat}:∀(l:List PV),(∀k∈ks,k∉PV.idsL l)→PV.voidL ks l=l
 | [],_=>rfl
 | p::ps,h=>by
   simp only [PV.idsL,List.mem_append,not_or] at h
   simp only [PV.voidL,List.cons.injEq]
   exact ⟨void_free p fun k hk=>(h k hk).1,void_freeL ps fun k hk=>(h k hk).2⟩
end
mutual
theorem nj_void {ks:List Nat}:∀(p:PV),(p.void ks).nj=true→p.void ks=p
 | .os r,h=>by
   by_cases hr:r∈ks
   ·simp [PV.void,hr,PV.nj] at h
   ·simp [PV.void,hr]
 | .vw b r lo n,h=>by
   by_cases hr:r∈ks
   ·simp [PV.void,hr,PV.nj] at h
   ·simp [PV.void,hr]
 | .rf m r,h=>by
   by_cases hr:r∈ks
   ·simp [PV.void,hr,PV.nj] at h
   ·simp [PV.void,hr]
 | .mpv _ _ _ _ _ _,_=>rfl
 | .pt r i j,h=>by
   by_cases hr:r∈ks
   ·simp [PV.void,hr,PV.nj] at h
   ·simp [PV.void,hr]
 | .agg cs,h=>by simp only [PV.void,PV.nj,PV.agg.injEq] at h⊢;exact nj_voidL cs h
 | .tup cs,h=>by simp only [PV.void,PV.nj,PV.tup.injEq] at h⊢;exact nj_voidL cs h
 | .fn f a b,h=>by
   simp only [PV.void,PV.nj,Bool.and_eq_true,PV.fn.injEq] at h⊢
   exact ⟨trivial,nj_voidL a h.1,nj_voidL b h.2⟩
 | .cnd g p,h=>by simp only [PV.void,PV.nj,PV.cnd.injEq] at h⊢;exact ⟨trivial,nj_void p h⟩
 | .int _ _,_=>rfl
 | .bool _,_=>rfl
 | .str _,_=>rfl
 | .sl _ _ _ _,_=>rfl
 | .nil _,_=>rfl
 | .rp _ _,_=>rfl
 | .raw _,_=>rfl
 | .junk,_=>rfl
theorem nj_voidL {ks:List Nat}:∀(l:List PV),PV.njL (PV.voidL ks l)=true→PV.voidL ks l=l
 | [],_=>rfl
 | p::ps,h=>by
   simp only [PV.voidL,PV.njL,Bool.and_eq_true,List.cons.injEq] at h⊢
   exact ⟨nj_void p h.1,nj_voidL ps h.2⟩
end
mutual
theorem void_comm (a b:List Nat):∀(p:PV),(p.void a).void b=(p.void b).void a
 | .os r=>by
   by_cases h1:r∈a<;>by_cases h2:r∈b<;>simp [PV.void,h1,h2]
 | .vw h r lo n=>by
   by_cases h1:r∈a<;>by_cases h2:r∈b<;>simp [PV.void,h1,h2]
 | .rf m r=>by
   by_cases h1:r∈a<;>by_cases h2:r∈b<;>simp [PV.void,h1,h2]
 | .mpv _ _ _ _ _ _=>rfl
 | .pt r i j=>by
   by_cases h1:r∈a<;>by_cases h2:r∈b<;>simp [PV.void,h1,h2]
 | .agg cs=>by simp only [PV.void,void_commL a b cs]
 | .tup cs=>by simp only [PV.void,void_commL a b cs]
 | .fn f x y=>by simp only [PV.void,void_commL a b x,void_commL a b y]
 | .cnd g p=>by simp only [PV.void,void_comm a b p]
 | .int _ _=>rfl
 | .bool _=>rfl
 | .str _=>rfl
 | .sl _ _ _ _=>rfl
 | .nil _=>rfl
 | .rp _ _=>rfl
 | .raw _=>rfl
 | .junk=>rfl
theorem void_commL (a b:List Nat):∀(l:List PV),PV.voidL b (PV.voidL a l)=PV.voidL a (PV.voidL b l)
 | []=>rfl
 | p::ps=>by simp only [PV.voidL,void_comm a b p,void_commL a b ps]
end
theorem svoid_comm (a b:List Nat):∀(e:SE),(e.void a).void b=(e.void b).void a
 | .box l=>by simp only [SE.void,void_commL a b l]
 | .row .. =>rfl
 | .bld .. =>rfl
theorem svoid_free {ks:List Nat}:∀{l:List SE},(∀k∈ks,k∉SE.idsL l)→∀e∈l,e.void ks=e
 | .box l'::l,h,e,he=>by
   simp only [SE.idsL,List.mem_append,not_or] at h
   rcases List.mem_cons.1 he with rfl | he
   ·simp only [SE.void,SE.box.injEq];exact void_freeL l' fun k hk=>(h k hk).1
   ·exact svoid_free (fun k hk=>(h k hk).2) e he
 | .row .. ::l,h,e,he=>by
   rcases List.mem_cons.1 he with rfl | he
   ·rfl
   ·exact svoid_free (by simpa only [SE.idsL] using h) e he
 | .bld .. ::l,h,e,he=>by
   rcases List.mem_cons.1 he with rfl | he
   ·rfl
   ·exact svoid_free (by simpa only [SE.idsL] using h) e he
theorem snj_mem:∀{l:List SE} {e:SE},SE.njL l=true→e∈l→∀e' ks,e=SE.void ks e'→e=e'
 | .box l'::l,e,h,he,e',ks,hv=>by
   simp only [SE.njL,Bool.and_eq_true] at h
   rcases List.mem_cons.1 he with rfl | he
   ·cases e' with
    | box l2=>
      simp only [SE.void,SE.box.injEq] at hv⊢
      rw [hv] at h⊢
      exact nj_voidL l2 h.1
    | row=>simp [SE.void] at hv
    | bld=>simp [SE.void] at hv
   ·exact snj_mem h.2 he e' ks hv
 | .row .. ::l,e,h,he,e',ks,hv=>by
   rcases List.mem_cons.1 he with rfl | he
   ·cases e' with
    | box l2=>simp [SE.void] at hv
    | row=>exact hv
    | bld=>simp [SE.void] at hv
   ·exact snj_mem (by simpa only [SE.njL] using h) he e' ks hv
 | .bld .. ::l,e,h,he,e',ks,hv=>by
   rcases List.mem_cons.1 he with rfl | he
   ·cases e' with
    | box l2=>simp [SE.void] at hv
    | row=>simp [SE.void] at hv
    | bld=>exact hv
   ·exact snj_mem (by simpa only [SE.njL] using h) he e' ks hv
theorem strip_ids (G:Bool):∀(l:List PV),PV.idsL (stripL G l).2=PV.idsL l∧PV.njL (stripL G l).2=PV.njL l
 | []=>⟨rfl,rfl⟩
 | p::ps=>by
   obtain ⟨h1,h2⟩:=strip_ids G ps
   cases p<;>simp only [stripL,PV.idsL,PV.njL,PV.ids,PV.nj,h1,h2,and_self]
theorem stripI_ids (i:I) (G:Bool) (l:List PV):PV.idsL (stripI i G l).2=PV.idsL l∧PV.njL (stripI i G l).2=PV.njL l:=by
 have hS:PV.idsL (stripS G l).2=PV.idsL l∧PV.njL (stripS G l).2=PV.njL l:=by
  unfold stripS;split
  ·exact ⟨rfl,rfl⟩
  ·exact strip_ids G l
 unfold stripI
 split
 ·split
  ·exact ⟨rfl,rfl⟩
  ·exact ⟨rfl,rfl⟩
 ·exact hS
def wrLast:List (Nat×SE)→Nat→Option SE
 | [],_=>none
 | (k,e)::r,x=>match wrLast r x with
   | some e'=>some e'
   | none=>if x=k then some e else none
theorem wrS_pt:∀(wr:List (Nat×SE)) (st:Nat→Option SE) (x:Nat),wrS wr st x=match wrLast wr x with
  | some e=>some e
  | none=>st x
 | [],st,x=>rfl
 | (k,e)::r,st,x=>by
   simp only [wrS,wrLast]
   rw [wrS_pt r _ x]
   cases wrLast r x with
   | some e'=>rfl
   | none=>
     simp only [upd_eq]
     split<;>rfl
theorem wrLast_mem:∀{wr:List (Nat×SE)} {x:Nat} {e:SE},wrLast wr x=some e→∃p∈wr,p.1=x
 | [],x,e,h=>by cases h
 | (k,e0)::r,x,e,h=>by
   simp only [wrLast] at h
   split at h
   ·rename_i e' he
    obtain ⟨p,hp,hx⟩:=wrLast_mem he
    exact ⟨p,List.mem_cons_of_mem _ hp,hx⟩
   ·split at h
    ·rename_i hx;exact ⟨(k,e0),by simp,hx.symm⟩
    ·cases h
theorem wrLast_val:∀{wr:List (Nat×SE)} {x:Nat} {e:SE},wrLast wr x=some e→e∈wr.map (·.2)
 | [],x,e,h=>by cases h
 | (k,e0)::r,x,e,h=>by
   simp only [wrLast] at h
   split at h
   ·rename_i e' he
    injection h with h;subst h
    exact List.mem_cons_of_mem _ (wrLast_val he)
   ·split at h
    ·injection h with h;subst h;exact List.mem_cons_self
    ·cases h
theorem nwS_mk:∀(es:List SE) (d:Nat) (st:Nat→Option SE),(∀k,k<es.length→st (d+k)=none)→∃st',nwS d es st=some st'
 | [],d,st,h=>⟨st,rfl⟩
 | e::es,d,st,h=>by
   have h0:=h 0 (by simp)
   rw [Nat.add_zero] at h0
   simp only [nwS,h0]
   refine nwS_mk es (d+1) _ fun k hk=> ?_
   rw [upd_ne st e (by omega),show d+1+k=d+(k+1) from by omega]
   exact h (k+1) (by simp;omega)
theorem nwS_pt {es:List SE} {d:Nat} {st st':Nat→Option SE} (h:nwS d es st=some st') (x:Nat):st' x=if d≤x∧x<d+es.length then es[x - d]? else st x:=by
 obtain ⟨h1,h2⟩:=nwS_get es d st st' h
 split
 ·rename_i hx
  obtain ⟨h3,h4⟩:=hx
  have hk:es[x - d]? =some (es[x - d]'(by omega)):=List.getElem?_eq_getElem (by omega)
  have:=(h1 _ _ hk).1
  rw [show d+(x - d)=x from by omega] at this
  rw [this,hk]
 ·rename_i hx
  exact h2 x (by omega)
theorem newSt_pt {d:Nat} {k:List Nat} {wr:List (Nat×SE)} {es:List SE} {st st':Nat→Option SE} (h:newSt d k [] wr es st=some st') (x:Nat):st' x=if d≤x∧x<d+es.length then es[x - d]? else match wrLast wr x with
  | some e=>some e
  | none=>(st x).map (SE.void k):=by
 rw [newSt_eq,rmS_nil] at h
 rw [nwS_pt h x,wrS_pt];rfl
theorem nwS_free {es:List SE} {d:Nat} {st st':Nat→Option SE} (h:nwS d es st=some st') (x:Nat) (hx:d≤x∧x<d+es.length):st x=none:=by
 obtain ⟨h1,h2⟩:=nwS_get es d st st' h
 have hk:es[x - d]? =some (es[x - d]'(by omega)):=List.getElem?_eq_getElem (by omega)
 have:=(h1 _ _ hk).2
 rwa [show d+(x - d)=x from by omega] at this
theorem newSt_free {d:Nat} {k:List Nat} {wr:List (Nat×SE)} {es:List SE} {st st':Nat→Option SE} (h:newSt d k [] wr es st=some st') (x:Nat) (hx:d≤x∧x<d+es.length):st x=none∧wrLast wr x=none:=by
 rw [newSt_eq,rmS_nil] at h
 have:=nwS_free h x hx
 rw [wrS_pt] at this
 split at this
 ·cases this
 ·rename_i hw
  refine ⟨?_,hw⟩
  cases hs:st x with
  | none=>rfl
  | some e=>simp [voidS,hs] at this
theorem newSt_mk {d:Nat} {k:List Nat} {wr:List (Nat×SE)} {es:List SE} {st:Nat→Option SE} (h:∀m,m<es.length→st (d+m)=none∧wrLast wr (d+m)=none):∃st',newSt d k [] wr es st=some st':=by
 rw [newSt_eq,rmS_nil]
 refine nwS_mk es d _ fun m hm=> ?_
 obtain ⟨h1,h2⟩:=h m hm
 rw [wrS_pt,h2];simp [voidS,h1]
open Go.RowKit
section
variable {S:FuncId→List PV→List SE→CallRes→Prop} {c c':CallRes} {i j:Nat} {x y:Ins} {s s' s₁ s₂:PS}
theorem okO_mk:∀(l:List Prop) (ok:Prop),∃ok',okO ok l=some ok'
 | [],ok=>⟨ok,rfl⟩
 | _::ps,_=>okO_mk ps _
theorem okG_mk (G:Bool):∀(l:List Prop) (ok:Prop),∃ok',okG G ok l=some ok'
 | [],ok=>⟨ok,rfl⟩
 | _::ps,_=>okG_mk G ps _
theorem stepI_mk2 {G:Bool} {vs:List PV} {cs cs2:List SE} {E:Eff} (H:StepP S true c i x s s' G vs cs E) {st₂:Nat→Option SE} (hg:guardV s₂.fr x.g=guardV s.fr x.g) (hv:valL s₂.fr x.i.opr=valL s.fr x.i.opr)
  (hc:getL s₂.st (x.i.acc vs)=some cs2) (hE2:eff S c x.id x.i vs (x.i.acc vs) cs2=some E) (hst:newSt x.id E.kill E.rm E.wr E.nw s₂.st=some st₂) (hn:s₂.n=s.n):
  ∃s₂',stepI S true c i x s₂=some s₂'∧StepP S true c i x s₂ s₂' G vs cs2 E:=by
 obtain ⟨vs0,hv0,hvs,_⟩:=H.vals
 have key:∃s₂',stepI S true c i x s₂=some s₂':=by
  have h1:=H.guard
  have h2:=hc
  have h3:=hE2
  have h5:=H.dlt
  have h6:=H.gd
  rw [←hg] at h1
  rw [←hv] at hv0
  obtain ⟨n,fr,st,ok,log⟩:=s₂
  obtain ⟨od,oid,og,oi⟩:=x
  obtain ⟨val,side,wr,nw,kill,rm⟩:=E
  simp only at*
  unfold stepI
  simp only [h1,hv0]
  rw [hvs]
  simp only [h2,h3,logO]
  cases og with
  | none=>
    obtain ⟨ok',hok⟩:=okO_mk ((stripI oi G vs0).1++side) ok
    simp only [hok,hst,newFr_mk fr H.pk,norm_some]
    cases od with
    | none=>exact ⟨_,rfl⟩
    | some d=>
      have:=h5 d rfl
      have hb:Nat.blt d n=true:=by rw [Nat.blt_eq,hn];exact this
      simp only [hb]
      exact ⟨_,rfl⟩
  | some g=>
    obtain ⟨e1,e2,e3,e4,e5⟩:=h6 (by simp)
    subst e1 e2 e3 e4
    cases od with
    | none=>exact absurd rfl e5
    | some d=>
      obtain ⟨ok',hok⟩:=okG_mk G ((stripI oi G vs0).1++side) ok
      have:=h5 d rfl
      have hb:Nat.blt d n=true:=by rw [Nat.blt_eq,hn];exact this
      simp only [hok,norm_some,hb]
      exact ⟨_,rfl⟩
 obtain ⟨s₂',h⟩:=key
 obtain ⟨G',vs',cs',E',H'⟩:=stepI_parts h
 have g1:=H'.guard
 rw [hg,H.guard] at g1;injection g1 with g1;subst g1
 obtain ⟨vs0',hv0',hvs',_⟩:=H'.vals
 rw [hv,hv0] at hv0';injection hv0' with hv0';subst hv0'
 have e1:vs=vs':=by
  have a1:(stripI x.i G vs0).2=vs:=by rw [hvs]
  have a2:(stripI x.i G vs0).2=vs':=by rw [hvs']
  exact a1.symm.trans a2
 subst e1
 have g2:=H'.ent
 rw [hc] at g2;injection g2 with g2;subst g2
 have g3:=H'.eff
 rw [hE2] at g3;injection g3 with g3;subst g3
 exact ⟨s₂',h,H'⟩
theorem stepI_mk {G:Bool} {vs:List PV} {cs:List SE} {E:Eff} (H:StepP S true c i x s s' G vs cs E) {st₂:Nat→Option SE} (hg:guardV s₂.fr x.g=guardV s.fr x.g) (hv:valL s₂.fr x.i.opr=valL s.fr x.i.opr)
  (hc:getL s₂.st (x.i.acc vs)=getL s.st (x.i.acc vs)) (hst:newSt x.id E.kill E.rm E.wr E.nw s₂.st=some st₂) (hn:s₂.n=s.n):
  ∃s₂',stepI S true c i x s₂=some s₂'∧StepP S true c i x s₂ s₂' G vs cs E:=
 stepI_mk2 H hg hv (hc.trans H.ent) H.eff hst hn
structure Sim (s s':PS):Prop where
 n:s.n=s'.n
 fr:s.fr=s'.fr
 st:s.st=s'.st
 log:s.log=s'.log
 ok:s.ok↔s'.ok
theorem Sim.refl (s:PS):Sim s s:=⟨rfl,rfl,rfl,rfl,Iff.rfl⟩
theorem Sim.trans (h:Sim s s') (h':Sim s' s₁):Sim s s₁:=⟨h.n.trans h'.n,h.fr.trans h'.fr,h.st.trans h'.st,h.log.trans h'.log,h.ok.trans h'.ok⟩
theorem stepI_sim (h:Sim s s₁) (hs:stepI S true c i x s=some s'):∃s₁',stepI S true c i x s₁=some s₁'∧Sim s' s₁':=by
 obtain ⟨G,vs,cs,E,H⟩:=stepI_parts hs
 obtain ⟨s₁',h1,H1⟩:=stepI_mk (s₂:=s₁) (st₂:=s'.st) H (by rw [h.fr]) (by rw [h.fr]) (by rw [h.st]) (by rw [←h.st];exact H.st) h.n.symm
 refine ⟨s₁',h1,by rw [H.n,H1.n,h.n],by rw [H.fr,H1.fr,h.fr], ?_, ?_, ?_⟩
 ·have a:=H.st;rw [h.st,H1.st] at a;injection a with a;exact a.symm
 ·have a:=H.log;rw [h.log,H1.log] at a;injection a with a;exact a.symm
 ·obtain ⟨vs0,hv0,_,hok⟩:=H.vals
  obtain ⟨vs0',hv0',_,hok'⟩:=H1.vals
  rw [←h.fr,hv0] at hv0';injection hv0' with hv0';subst hv0'
  rw [hok,hok',h.ok]
theorem evL_sim {cr:Nat→CallRes}:∀{l:List (Nat×Ins)} {s s' s₁:PS},Sim s s₁→evL S true cr l s=some s'→∃s₁',evL S true cr l s₁=some s₁'∧Sim s' s₁'
 | [],s,s',s₁,h,hs=>by simp only [evL,Option.some.injEq] at hs;subst hs;exact ⟨s₁,rfl,h⟩
 | (i,x)::r,s,s',s₁,h,hs=>by
   simp only [evL,stepX] at hs
   split at hs
   ·rename_i s2 h2
    obtain ⟨s2',h3,h4⟩:=stepI_sim h h2
    simp only [evL,stepX,h3]
    exact evL_sim h4 hs
   ·cases hs
theorem slotsApart_spec (h:slotsApart x y=true):(∀d,x.d=some d→d∉y.reads)∧(∀d,x.d=some d→y.d≠some d)∧(∀d,y.d=some d→d∉x.reads):=by
 unfold slotsApart at h
 refine ⟨fun d hd=> ?_,fun d hd=> ?_,fun d hd=> ?_⟩<;>simp [hd] at h
 ·exact h.1.1
 ·exact h.1.2
 ·exact h.2
theorem StepP.logAt {G:Bool} {vs:List PV} {cs:List SE} {E:Eff} (H:StepP S true c i x s s' G vs cs E):s'.log=upd s.log i ⟨x.i.acc vs,E.wr.map (·.1), !E.rm.isEmpty,E.kill,PV.idsL vs++(SE.idsL (logCs x.i cs E.val)++(E.val.ids++(SE.idsL (E.wr.map (·.2))++SE.idsL E.nw))),PV.njL vs&&SE.njL (logCs x.i cs E.val),(x.i.acc vs).isEmpty&&(E.wr.isEmpty&&(E.nw.isEmpty&&(E.kill.isEmpty&&E.rm.isEmpty))),E.wr.isEmpty&&(E.nw.isEmpty&&(E.kill.isEmpty&&E.rm.isEmpty)),E.rm⟩:=by
 have:=H.log
 simp only [logO,Option.some.injEq] at this
 exact this.symm
theorem valL_nj {fr fr':Nat→Option PV} {ks:List Nat}:∀{l:List A} {vs:List PV},(∀t∈l.flatMap A.slots,fr' t=(fr t).map (PV.void ks))→valL fr' l=some vs→(ks= []∨PV.njL vs=true)→valL fr l=some vs
 | [],vs,_,h,_=>h
 | a::l,vs,hs,h,hn=>by
   simp only [valL] at h
   split at h
   ·rename_i p ps hp hps
    injection h with h;subst h
    have hn1:ks= []∨p.nj=true:=hn.imp id fun h=>by simp only [PV.njL,Bool.and_eq_true] at h;exact h.1
    have hn2:ks= []∨PV.njL ps=true:=hn.imp id fun h=>by simp only [PV.njL,Bool.and_eq_true] at h;exact h.2
    have e2:=valL_nj (fun t ht=>hs t (by simp only [List.flatMap_cons,List.mem_append];exact .inr ht)) hps hn2
    have e1:A.val fr a=some p:=by
     cases a with
     | t n=>
       simp only [A.val] at hp⊢
       rw [hs n (by simp [A.slots])] at hp
       cases hf:fr n with
       | none=>rw [hf] at hp;cases hp
       | some q=>
         rw [hf] at hp
         simp only [Option.map_some,Option.some.injEq] at hp
         rcases hn1 with rfl | hn1
         ·rw [void_nil] at hp;rw [hp]
         ·rw [←hp] at hn1
          rw [←hp,nj_void q hn1]
     | c q=>exact hp
    simp only [valL,e1,e2]
   ·cases h
theorem valL_free {fr fr':Nat→Option PV} {ks:List Nat}:∀{l:List A} {vs:List PV},(∀t∈l.flatMap A.slots,fr' t=(fr t).map (PV.void ks))→valL fr l=some vs→(∀k∈ks,k∉PV.idsL vs)→valL fr' l=some vs
 | [],vs,_,h,_=>h
 | a::l,vs,hs,h,hn=>by
   simp only [valL] at h
   split at h
   ·rename_i p ps hp hps
    injection h with h;subst h
    simp only [PV.idsL,List.mem_append,not_or] at hn
    have e2:=valL_free (fun t ht=>hs t (by simp only [List.flatMap_cons,List.mem_append];exact .inr ht)) hps (fun k hk=>(hn k hk).2)
    have e1:A.val fr' a=some p:=by
     cases a with
     | t n=>
       simp only [A.val] at hp⊢
       rw [hs n (by simp [A.slots]),hp]
       simp only [Option.map_some,void_free p fun k hk=>(hn k hk).1]
     | c q=>exact hp
    simp only [valL,e1,e2]
   ·cases h
theorem guard_void {fr fr':Nat→Option PV} {ks:List Nat} {g:Option (Nat×Bool)} (h:∀t w,g=some (t,w)→fr' t=(fr t).map (PV.void ks)):guardV fr' g=guardV fr g:=by
 cases g with
 | none=>rfl
 | some tw=>
   obtain ⟨t,w⟩:=tw
   simp only [guardV,h t w rfl]
   cases fr t with
   | none=>rfl
   | some p=>
     cases p with
     | cnd g q=>
       cases q with
       | os r=>by_cases hr:r∈ks<;>simp [PV.void,hr]
       | pt r i j=>by_cases hr:r∈ks<;>simp [PV.void,hr]
       | vw h r lo n=>by_cases hr:r∈ks<;>simp [PV.void,hr]
       | rf m r=>by_cases hr:r∈ks<;>simp [PV.void,hr]
       | _=>simp [PV.void]
     | os r=>by_cases hr:r∈ks<;>simp [PV.void,hr]
     | pt r i j=>by_cases hr:r∈ks<;>simp [PV.void,hr]
     | vw h r lo n=>by_cases hr:r∈ks<;>simp [PV.void,hr]
     | rf m r=>by_cases hr:r∈ks<;>simp [PV.void,hr]
     | _=>simp [PV.void]
theorem getL_nj {st st':Nat→Option SE} {ks:List Nat}:∀{l:List Nat} {cs:List SE},(∀r∈l,st' r=(st r).map (SE.void ks))→getL st' l=some cs→(ks= []∨SE.njL cs=true)→getL st l=some cs
 | [],cs,_,h,_=>h
 | r::l,cs,hs,h,hn=>by
   simp only [getL] at h
   split at h
   ·rename_i e es he hes
    injection h with h;subst h
    have hn2:ks= []∨SE.njL es=true:=hn.imp id fun h=>by
     cases e<;>simp only [SE.njL,Bool.and_eq_true] at h
     ·exact h.2
     ·exact h
     ·exact h
    have e2:=getL_nj (fun r hr=>hs r (by simp [hr])) hes hn2
    have e1:st r=some e:=by
     rw [hs r (by simp)] at he
     cases hf:st r with
     | none=>rw [hf] at he;cases he
     | some e'=>
       rw [hf] at he
       simp only [Option.map_some,Option.some.injEq] at he
       rcases hn with rfl | hn
       ·rw [svoid_nil] at he;rw [he]
       ·rw [snj_mem hn (by simp:e∈e::es) e' ks he.symm]
    simp only [getL,e1,e2]
   ·cases h
theorem getL_free {st st':Nat→Option SE} {ks:List Nat}:∀{l:List Nat} {cs:List SE},(∀r∈l,st' r=(st r).map (SE.void ks))→getL st l=some cs→(∀k∈ks,k∉SE.idsL cs)→getL st' l=some cs
 | [],cs,_,h,_=>h
 | r::l,cs,hs,h,hn=>by
   simp only [getL] at h
   split at h
   ·rename_i e es he hes
    injection h with h;subst h
    have hn2:∀k∈ks,k∉SE.idsL es:=fun k hk=>by
     have:=hn k hk
     cases e<;>simp only [SE.idsL,List.mem_append,not_or] at this
     ·exact this.2
     ·exact this
     ·exact this
    have e2:=getL_free (fun r hr=>hs r (by simp [hr])) hes hn2
    have e1:st' r=some e:=by
     rw [hs r (by simp),he]
     simp only [Option.map_some,svoid_free hn e (by simp)]
    simp only [getL,e1,e2]
   ·cases h
theorem voidL_map (ks:List Nat):∀(l:List PV),PV.voidL ks l=l.map (PV.void ks)
 | []=>rfl
 | p::ps=>by simp only [PV.voidL,List.map_cons,voidL_map ks ps]
theorem part_void (ks:List Nat) (l:List PV) (j n:Nat):((PV.voidL ks l).drop j).take n=PV.voidL ks ((l.drop j).take n):=by
 simp only [voidL_map,List.map_drop,List.map_take]
theorem asV_back {ks:List Nat} {n:Nat} {agg:Bool} {l:List PV} {p:PV} (h:asV n agg (PV.voidL ks l)=some p) (hn:p.nj=true):asV n agg l=some p:=by
 unfold asV at h⊢
 rw [voidL_length] at h
 split at h
 ·rename_i hl
  rw [if_pos hl]
  split at h
  ·injection h with h;subst h
   simp only [PV.nj] at hn
   rw [nj_voidL l hn];rename_i ha;rw [if_pos ha]
  ·rename_i ha
   rw [if_neg ha]
   split at h
   ·rename_i c hc
    injection h with h;subst h
    cases l with
    | nil=>simp [PV.voidL] at hc
    | cons a r=>
      cases r with
      | nil=>
        simp only [PV.voidL,List.cons.injEq,and_true] at hc
        subst hc
        rw [nj_void a hn]
      | cons _ _=>simp [PV.voidL] at hc
   ·cases h
 ·cases h
theorem asV_free {ks:List Nat} {n:Nat} {agg:Bool} {l:List PV} {p:PV} (h:asV n agg l=some p) (hn:∀k∈ks,k∉p.ids):asV n agg (PV.voidL ks l)=some p:=by
 have:PV.voidL ks l=l:=by
  unfold asV at h
  split at h
  ·split at h
   ·injection h with h;subst h
    exact void_freeL l (by simpa only [PV.ids] using hn)
   ·split at h
    ·injection h with h;subst h
     simp only [PV.voidL,void_free _ hn]
    ·cases h
  ·cases h
 rw [this];exact h
theorem map_one {ks:List Nat} {cs:List SE} {e:SE} (h:cs.map (SE.void ks)= [e]):∃e',cs= [e']∧e'.void ks=e:=by
 cases cs with
 | nil=>cases h
 | cons a r=>
   cases r with
   | nil=>simp only [List.map_cons,List.map_nil,List.cons.injEq,and_true] at h;exact ⟨a,rfl,h⟩
   | cons _ _=>simp at h
theorem mpB_void {ks:List Nat}:∀l:List PV,mpB (PV.voidL ks l)=mpB l
 | []=>rfl
 | [p]=>by
   have key:∀(r:Nat) (q:PV),mpB [q]=false→mpB [if r∈ks then PV.junk else q]=false:=fun r q h=>by
    by_cases hr:r∈ks
    ·rw [if_pos hr];rfl
    ·rw [if_neg hr];exact h
   simp only [PV.voidL]
   cases p<;>simp only [PV.void]<;>first | rfl | exact key _ _ rfl
 | p::q::r=>by
   have h2:∀(a b:PV) (l:List PV),mpB (a::b::l)=false:=fun a b l=>by
    cases a<;>rfl
   simp only [PV.voidL,h2]
theorem eLd_back {ks:List Nat} {n:Nat} {agg:Bool} {vs:List PV} {cs:List SE} {E:Eff} (h:eLd n agg vs (cs.map (SE.void ks))=some E) (hn:E.val.nj=true):eLd n agg vs cs=some E:=by
 unfold eLd at h
 split at h
 ·rename_i r i j cells hc
  obtain ⟨e',rfl,he⟩:=map_one hc
  cases e' with
  | box l=>
    simp only [SE.void,SE.box.injEq] at he
    subst he
    rw [part_void,mpB_void] at h
    split at h
    ·rename_i hi
     split at h
     ·rename_i p hp
      injection h with h;subst h
      simp only [eLd,if_pos hi,asV_back hp hn]
     ·cases h
    ·cases h
  | row=>simp [SE.void] at he
  | bld=>simp [SE.void] at he
 ·rename_i r i j τ e z m f hc
  obtain ⟨e',rfl,he⟩:=map_one hc
  cases e' with
  | box l=>simp [SE.void] at he
  | row τ' e' z' m' f'=>
    simp only [SE.void,SE.row.injEq] at he
    obtain ⟨rfl,rfl,rfl,rfl,rfl⟩:=he
    exact h
  | bld=>simp [SE.void] at he
 ·exact h
 ·cases h
theorem eLd_free {ks:List Nat} {n:Nat} {agg:Bool} {vs:List PV} {cs:List SE} {E:Eff} (h:eLd n agg vs cs=some E) (hn:∀k∈ks,k∉E.val.ids):eLd n agg vs (cs.map (SE.void ks))=some E:=by
 unfold eLd at h
 split at h
 ·rename_i r i j cells
  split at h
  ·rename_i hi
   split at h
   ·rename_i p hp
    injection h with h;subst h
    simp only [List.map_cons,List.map_nil,SE.void,eLd,mpB_void,if_pos hi,part_void]
    rw [asV_free hp hn]
   ·cases h
  ·cases h
 ·exact h
 ·exact h
 ·cases h
theorem getL_back {st st':Nat→Option SE} {ks:List Nat}:∀{l:List Nat} {cs:List SE},(∀r∈l,st' r=(st r).map (SE.void ks))→getL st' l=some cs→∃cs',getL st l=some cs'∧cs=cs'.map (SE.void ks)
 | [],cs,_,h=>by simp only [getL,Option.some.injEq] at h;subst h;exact ⟨[],rfl,rfl⟩
 | r::l,cs,hs,h=>by
   simp only [getL] at h
   split at h
   ·rename_i e es he hes
    injection h with h;subst h
    obtain ⟨cs',h1,rfl⟩:=getL_back (fun r hr=>hs r (by simp [hr])) hes
    rw [hs r (by simp)] at he
    obtain ⟨e',h2,rfl⟩:=Option.map_eq_some_iff.1 he
    exact ⟨e'::cs',by simp only [getL,h1,h2],rfl⟩
   ·cases h
theorem getL_fwd {st st':Nat→Option SE} {ks:List Nat}:∀{l:List Nat} {cs:List SE},(∀r∈l,st' r=(st r).map (SE.void ks))→getL st l=some cs→getL st' l=some (cs.map (SE.void ks))
 | [],cs,_,h=>by simp only [getL,Option.some.injEq] at h;subst h;rfl
 | r::l,cs,hs,h=>by
   simp only [getL] at h
   split at h
   ·rename_i e es he hes
    injection h with h;subst h
    have h1:=getL_fwd (fun r hr=>hs r (by simp [hr])) hes
    have h2:=hs r (by simp)
    rw [he] at h2
    simp only [getL,h1,h2];rfl
   ·cases h
theorem ent_back {st st':Nat→Option SE} {ks:List Nat} {y:I} {d:Nat} {vs:List PV} {l:List Nat} {cs:List SE} {E:Eff} (hs:∀r∈l,st' r=(st r).map (SE.void ks)) (he:getL st' l=some cs) (hE:eff S c d y vs l cs=some E)
  (hn:ks= []∨SE.njL (logCs y cs E.val)=true):∃cs',getL st l=some cs'∧eff S c d y vs l cs'=some E∧logCs y cs' E.val=logCs y cs E.val:=by
 by_cases hy:∃n agg x,y= .ld n agg x
 ·obtain ⟨n,agg,x,rfl⟩:=hy
  obtain ⟨cs',h1,rfl⟩:=getL_back hs he
  refine ⟨cs',h1, ?_,rfl⟩
  rcases hn with rfl | hn
  ·have:cs'.map (SE.void [])=cs':=by
     rw [List.map_congr_left (g:=id) fun e _=>svoid_nil e];simp
   rw [this] at hE;exact hE
  ·exact eLd_back hE (by simpa [logCs,SE.njL,PV.njL] using hn)
 ·have hl:∀cs v,logCs y cs v=cs:=fun cs v=>by
    cases y<;>first | rfl | exact absurd ⟨_,_,_,rfl⟩ hy
  rw [hl] at hn
  exact ⟨cs,getL_nj hs he hn,hE,rfl⟩
theorem ent_free {st st':Nat→Option SE} {ks:List Nat} {y:I} {d:Nat} {vs:List PV} {l:List Nat} {cs:List SE} {E:Eff} (hs:∀r∈l,st' r=(st r).map (SE.void ks)) (he:getL st l=some cs) (hE:eff S c d y vs l cs=some E)
  (hn:∀k∈ks,k∉SE.idsL (logCs y cs E.val)):∃cs',getL st' l=some cs'∧eff S c d y vs l cs'=some E∧logCs y cs' E.val=logCs y cs E.val:=by
 by_cases hy:∃n agg x,y= .ld n agg x
 ·obtain ⟨n,agg,x,rfl⟩:=hy
  exact ⟨_,getL_fwd hs he,eLd_free hE (fun k hk=>by have:=hn k hk;simpa [logCs,SE.idsL,PV.idsL] using this),rfl⟩
 ·have hl:∀cs v,logCs y cs v=cs:=fun cs v=>by
    cases y<;>first | rfl | exact absurd ⟨_,_,_,rfl⟩ hy
  rw [hl] at hn
  exact ⟨cs,getL_free hs he hn,hE,rfl⟩
theorem swap2 (hij:i≠j) (hA:stepI S true c i x s=some s₁) (hB:stepI S true c' j y s₁=some s₂) (hid:x.id=16*x.d.getD 0) (hap:slotsApart x y=true)
  {eA eB:LogE} (hl:s₂.log i=some eA) (hl':s₂.log j=some eB) (hrmA:eA.rm=false) (hrmB:eB.rm=false) (hd1:∀r∈eA.ws,r∉eB.ids) (hd2:∀r∈eB.ws,r∉eA.ids) (hnew:∀r∈eB.ids,r / 16≠x.d.getD 0)
  (hk1:∀k∈eA.ks,k∉eB.ms) (hk2:∀k∈eB.ks,k∉eA.ms) (hnj:eA.ks= []∨eB.nj=true):
  ∃s₁' s₂',stepI S true c' j y s=some s₁'∧stepI S true c i x s₁'=some s₂'∧Sim s₂ s₂':=by
 obtain ⟨GA,vA,cA,EA,HA⟩:=stepI_parts hA
 obtain ⟨GB,vB,cB,EB,HB⟩:=stepI_parts hB
 obtain ⟨p1,p2,p3⟩:=slotsApart_spec hap
 rw [HB.logAt,upd_ne _ _ hij,HA.logAt,upd_same] at hl
 rw [HB.logAt,upd_same] at hl'
 injection hl with hl;subst hl
 injection hl' with hl';subst hl'
 simp only [Bool.not_eq_false',List.isEmpty_iff,List.mem_append,not_or,Bool.and_eq_true] at hrmA hrmB hd1 hd2 hnew hk1 hk2 hnj
 have hstA:=HA.st;rw [hrmA] at hstA
 have hstB:=HB.st;rw [hrmB] at hstB
 obtain ⟨tA1,tA2⟩:=eff_tame HA.eff
 obtain ⟨tB1,tB2⟩:=eff_tame HB.eff
 have hfrA:=HA.fr
 have hfrB:=HB.fr

 have hdk:∀q∈EA.wr,q.1∉y.i.acc vB:=fun q hq=>hd1 _ (List.mem_map.2 ⟨q,hq,rfl⟩)
 have hdk':∀q∈EB.wr,q.1∉x.i.acc vA:=fun q hq=>hd2 _ (List.mem_map.2 ⟨q,hq,rfl⟩)
 have ptA:=newSt_pt hstA
 have ptB:=newSt_pt hstB
 have frA:=newSt_free hstA
 have frB:=newSt_free hstB
 have w1:∀r,r∉(EA.wr.map (·.1))→wrLast EA.wr r=none:=fun r hr=>by
  cases h:wrLast EA.wr r with
  | none=>rfl
  | some e=>obtain ⟨p,hp,hx⟩:=wrLast_mem h;exact absurd (List.mem_map.2 ⟨p,hp,hx⟩) hr
 have w2:∀r,r∉(EB.wr.map (·.1))→wrLast EB.wr r=none:=fun r hr=>by
  cases h:wrLast EB.wr r with
  | none=>rfl
  | some e=>obtain ⟨p,hp,hx⟩:=wrLast_mem h;exact absurd (List.mem_map.2 ⟨p,hp,hx⟩) hr
 have entA:∀r∈x.i.acc vA,∃e,s.st r=some e:=fun r hr=>by obtain ⟨e,he,_⟩:=getL_mem _ _ HA.ent r hr;exact ⟨e,he⟩
 have entB:∀r∈y.i.acc vB,∃e,s₁.st r=some e:=fun r hr=>by obtain ⟨e,he,_⟩:=getL_mem _ _ HB.ent r hr;exact ⟨e,he⟩

 have same1:∀r∈y.i.acc vB,s₁.st r=(s.st r).map (SE.void EA.kill):=fun r hr=>by
  rw [ptA r,if_neg,w1 r]
  ·intro hm
   obtain ⟨q,hq,rfl⟩:=List.mem_map.1 hm
   exact hdk q hq hr
  ·intro hx
   have:=hnew r hr
   omega
 have someA:∀r e,s.st r=some e→∃e',s₁.st r=some e':=fun r e he=>by
  rw [ptA r]
  by_cases hx:x.id≤r∧r<x.id+EA.nw.length
  ·have:=(frA r hx).1
   rw [he] at this;cases this
  ·rw [if_neg hx]
   split
   ·exact ⟨_,rfl⟩
   ·rw [he];exact ⟨_,rfl⟩

 have freeB:∀r,(y.id≤r∧r<y.id+EB.nw.length)→s.st r=none∧wrLast EB.wr r=none∧s₁.st r=none:=fun r hr=>by
  obtain ⟨h0,hw⟩:=frB r hr
  refine ⟨?_,hw,h0⟩
  cases hs:s.st r with
  | none=>rfl
  | some e=>obtain ⟨e',he'⟩:=someA r e hs;rw [h0] at he';cases he'
 obtain ⟨stB,hstB'⟩:=newSt_mk (d:=y.id) (k:=EB.kill) (wr:=EB.wr) (es:=EB.nw) (st:=s.st) (fun k hk=>by
  obtain ⟨h1,h2,_⟩:=freeB (y.id+k) ⟨by omega,by omega⟩
  exact ⟨h1,h2⟩)
 have rdA:∀t,t∈y.reads→s₁.fr t=(s.fr t).map (PV.void EA.kill):=fun t ht=>by
  rw [hfrA]
  cases hxd:x.d with
  | none=>rfl
  | some d=>
    have hne:t≠d:=by rintro rfl;exact p1 t hxd ht
    simp only [upd_ne _ _ hne];rfl
 obtain ⟨vb0,hvb0,hvbs,hokB⟩:=HB.vals
 obtain ⟨sB1,sB2⟩:=stripI_ids y.i GB vb0
 have evB:(stripI y.i GB vb0).2=vB:=by rw [hvbs]
 rw [evB] at sB1 sB2
 have hvb:valL s.fr y.i.opr=some vb0:=valL_nj (fun t ht=>rdA t (by simp only [Ins.reads,List.mem_append];exact .inl ht)) hvb0 (hnj.imp id fun h=>by rw [←sB2];exact h.1)
 obtain ⟨cB2,hcb,hEb,hlB⟩:=ent_back same1 HB.ent HB.eff (hnj.imp id fun h=>h.2)
 obtain ⟨s₁',hB',HB'⟩:=stepI_mk2 (s₂:=s) (st₂:=stB) HB (guard_void fun t w hg=>rdA t (by simp only [Ins.reads,hg,List.mem_append];right;simp)).symm
  (by rw [hvb,hvb0]) hcb hEb (by rw [hrmB];exact hstB') HA.n.symm
 have hs1':s₁'.st=stB:=by have:=HB'.st;rw [hrmB,hstB'] at this;injection this with this;exact this.symm
 have ptB':=newSt_pt hstB'
 have same2:∀r∈x.i.acc vA,s₁'.st r=(s.st r).map (SE.void EB.kill):=fun r hr=>by
  obtain ⟨e,he⟩:=entA r hr
  rw [hs1',ptB' r,if_neg,w2 r]
  ·intro hm
   obtain ⟨q,hq,rfl⟩:=List.mem_map.1 hm
   exact hdk' q hq hr
  ·intro hx
   rw [(freeB r hx).1] at he;cases he
 have freeA:∀r,(x.id≤r∧r<x.id+EA.nw.length)→s.st r=none∧wrLast EA.wr r=none∧(∃e,s₁.st r=some e):=fun r hr=>by
  obtain ⟨h0,hw⟩:=frA r hr
  refine ⟨h0,hw, ?_⟩
  rw [ptA r,if_pos hr]
  exact ⟨_,List.getElem?_eq_getElem (by omega)⟩
 have offB:∀r,(x.id≤r∧r<x.id+EA.nw.length)→¬(y.id≤r∧r<y.id+EB.nw.length)∧wrLast EB.wr r=none:=fun r hr=>by
  obtain ⟨h1,h2,e,h3⟩:=freeA r hr
  refine ⟨fun hx=> ?_,w2 r fun hm=> ?_⟩
  ·rw [(freeB r hx).2.2] at h3;cases h3
  ·obtain ⟨q,hq,rfl⟩:=List.mem_map.1 hm
   have hm2:=tB1 q hq
   obtain ⟨e',he'⟩:=entB _ hm2
   rw [same1 _ hm2,h1] at he';cases he'
 obtain ⟨stA,hstA'⟩:=newSt_mk (d:=x.id) (k:=EA.kill) (wr:=EA.wr) (es:=EA.nw) (st:=s₁'.st) (fun k hk=>by
  have hr:x.id≤x.id+k∧x.id+k<x.id+EA.nw.length:=⟨by omega,by omega⟩
  obtain ⟨h1,h2,_⟩:=freeA _ hr
  obtain ⟨h3,h4⟩:=offB _ hr
  refine ⟨?_,h2⟩
  rw [hs1',ptB' _,if_neg h3,h4,h1];rfl)
 have hfrB':=HB'.fr
 have rdB:∀t,t∈x.reads→s₁'.fr t=(s.fr t).map (PV.void EB.kill):=fun t ht=>by
  rw [hfrB']
  cases hyd:y.d with
  | none=>rfl
  | some d=>
    have hne:t≠d:=by rintro rfl;exact p3 t hyd ht
    simp only [upd_ne _ _ hne];rfl
 obtain ⟨va0,hva0,hvas,hokA⟩:=HA.vals
 obtain ⟨sA1,sA2⟩:=stripI_ids x.i GA va0
 have evA:(stripI x.i GA va0).2=vA:=by rw [hvas]
 rw [evA] at sA1 sA2
 have hva:valL s₁'.fr x.i.opr=some va0:=valL_free (fun t ht=>rdB t (by simp only [Ins.reads,List.mem_append];exact .inl ht)) hva0 (fun k hk=>by rw [←sA1];exact (hk2 k hk).1)
 obtain ⟨cA2,hca,hEa,hlA⟩:=ent_free same2 HA.ent HA.eff (fun k hk=>(hk2 k hk).2.1)
 obtain ⟨s₂',hA',HA'⟩:=stepI_mk2 (s₂:=s₁') (st₂:=stA) HA (guard_void fun t w hg=>rdB t (by simp only [Ins.reads,hg,List.mem_append];right;simp))
  (by rw [hva,hva0]) hca hEa (by rw [hrmA];exact hstA') HB'.n
 have hs2':s₂'.st=stA:=by have:=HA'.st;rw [hrmA,hstA'] at this;injection this with this;exact this.symm
 have ptA':=newSt_pt hstA'
 have hfrA':=HA'.fr

 have vvA:(if x.g=none then EA.val else PV.cnd GA EA.val).void EB.kill=(if x.g=none then EA.val else PV.cnd GA EA.val):=by
  have:=void_free (ks:=EB.kill) EA.val fun k hk=>(hk2 k hk).2.2.1
  split
  ·exact this
  ·simp only [PV.void,this]
 have vvB:(if y.g=none then EB.val else PV.cnd GB EB.val).void EA.kill=(if y.g=none then EB.val else PV.cnd GB EB.val):=by
  have:=void_free (ks:=EA.kill) EB.val fun k hk=>(hk1 k hk).2.2.1
  split
  ·exact this
  ·simp only [PV.void,this]
 have wvA:∀r e,wrLast EA.wr r=some e→e.void EB.kill=e:=fun r e he=>svoid_free (l:=EA.wr.map (·.2)) (fun k hk=>(hk2 k hk).2.2.2.1) e (wrLast_val he)
 have wvB:∀r e,wrLast EB.wr r=some e→e.void EA.kill=e:=fun r e he=>svoid_free (l:=EB.wr.map (·.2)) (fun k hk=>(hk1 k hk).2.2.2.1) e (wrLast_val he)
 have nvA:∀r:Nat,(EA.nw[r]?).map (SE.void EB.kill)=EA.nw[r]? :=fun r=>by
  cases h:EA.nw[r]? with
  | none=>rfl
  | some e=>simp only [Option.map_some,svoid_free (fun k hk=>(hk2 k hk).2.2.2.2) e (List.mem_of_getElem? h)]
 have nvB:∀r:Nat,(EB.nw[r]?).map (SE.void EA.kill)=EB.nw[r]? :=fun r=>by
  cases h:EB.nw[r]? with
  | none=>rfl
  | some e=>simp only [Option.map_some,svoid_free (fun k hk=>(hk1 k hk).2.2.2.2) e (List.mem_of_getElem? h)]
 refine ⟨s₁',s₂',hB',hA', ?_, ?_, ?_, ?_, ?_⟩
 ·rw [HB.n,HA.n,HA'.n,HB'.n]
 ·rw [hfrB,hfrA,hfrA',hfrB']
  have hvv:voidF EB.kill (voidF EA.kill s.fr)=voidF EA.kill (voidF EB.kill s.fr):=by
   funext t;unfold voidF;cases s.fr t with
   | none=>rfl
   | some p=>simp only [Option.map_some,void_comm]
  have hvu:∀(ks:List Nat) (f:Nat→Option PV) (d:Nat) (v:PV),voidF ks (upd f d v)=upd (voidF ks f) d (v.void ks):=fun ks f d v=>by
   funext t;unfold voidF;simp only [upd_eq];split<;>rfl
  cases hxd:x.d with
  | none=>
    cases hyd:y.d with
    | none=>exact hvv
    | some e=>simp only [hvu,vvB,hvv]
  | some d=>
    cases hyd:y.d with
    | none=>simp only [hvu,vvA,hvv]
    | some e=>
      have hne:e≠d:=by rintro rfl;exact p2 e hxd hyd
      simp only [hvu,vvA,vvB,hvv]
      funext t
      simp only [upd_eq]
      by_cases h1:t=e
      ·subst h1;simp [hne]
      ·simp [h1]
 ·funext r
  rw [hs2',ptB r,ptA' r,hs1']
  by_cases hxA:x.id≤r∧r<x.id+EA.nw.length
  ·obtain ⟨h3,h4⟩:=offB r hxA
   rw [if_neg h3,if_pos hxA,h4,ptA r,if_pos hxA]
   exact nvA _
  ·rw [if_neg hxA,ptA r,if_neg hxA,ptB' r]
   by_cases hxB:y.id≤r∧r<y.id+EB.nw.length
   ·rw [if_pos hxB,if_pos hxB]
    have:wrLast EA.wr r=none:=w1 r fun hm=>by
     obtain ⟨q,hq,rfl⟩:=List.mem_map.1 hm
     obtain ⟨e,he⟩:=entA _ (tA1 q hq)
     rw [(freeB _ hxB).1] at he;cases he
    rw [this]
    exact (nvB _).symm
   ·rw [if_neg hxB,if_neg hxB]
    cases ha:wrLast EA.wr r with
    | none=>
      cases hb:wrLast EB.wr r with
      | none=>
        simp only
        cases s.st r with
        | none=>rfl
        | some e=>simp only [Option.map_some,svoid_comm]
      | some e=>simp only [Option.map_some,wvB r e hb]
    | some e=>
      have:wrLast EB.wr r=none:=w2 r fun hm=>by
       obtain ⟨p,hp,hpx⟩:=wrLast_mem ha
       obtain ⟨q,hq,hqx⟩:=List.mem_map.1 hm
       exact hdk p hp (by rw [hpx,←hqx];exact tB1 q hq)
      rw [this]
      simp only [Option.map_some,wvA r e ha]
 ·rw [HB.logAt,HA.logAt,HA'.logAt,HB'.logAt,hlA,hlB]
  funext t
  simp only [upd_eq]
  by_cases h1:t=j
  ·subst h1;simp [Ne.symm hij]
  ·simp [h1]
 ·obtain ⟨va',a1',_,a2'⟩:=HA'.vals
  obtain ⟨vb',b1',_,b2'⟩:=HB'.vals
  rw [hva] at a1';injection a1' with a1';subst a1'
  rw [hvb] at b1';injection b1' with b1';subst b1'
  rw [hokB,hokA,a2',b2']
  constructor
  ·rintro ⟨⟨h1,h2,h3⟩,h4,h5⟩;exact ⟨⟨h1,h4,h5⟩,h2,h3⟩
  ·rintro ⟨⟨h1,h4,h5⟩,h2,h3⟩;exact ⟨⟨h1,h2,h3⟩,h4,h5⟩
theorem swap3 (hij:i≠j) (hA:stepI S true c i x s=some s₁) (hB:stepI S true c' j y s₁=some s₂) (hap:slotsApart x y=true)
  {eA eB:LogE} (hl:s₂.log i=some eA) (hl':s₂.log j=some eB) (hpu:eA.pu=true∨eB.pu=true)
  (hk1:∀k∈eA.ks,k∉eB.ms) (hk2:∀k∈eB.ks,k∉eA.ms) (hnj:eA.ks= []∨eB.nj=true):
  ∃s₁' s₂',stepI S true c' j y s=some s₁'∧stepI S true c i x s₁'=some s₂'∧Sim s₂ s₂':=by
 obtain ⟨GA,vA,cA,EA,HA⟩:=stepI_parts hA
 obtain ⟨GB,vB,cB,EB,HB⟩:=stepI_parts hB
 obtain ⟨p1,p2,p3⟩:=slotsApart_spec hap
 rw [HB.logAt,upd_ne _ _ hij,HA.logAt,upd_same] at hl
 rw [HB.logAt,upd_same] at hl'
 injection hl with hl;subst hl
 injection hl' with hl';subst hl'
 simp only [List.isEmpty_iff,List.mem_append,not_or,Bool.and_eq_true] at hpu hk1 hk2 hnj
 have hfrA:=HA.fr
 have hfrB:=HB.fr
 obtain ⟨stB,hstB',hcb0,hca0,hstA'⟩:∃stB,newSt y.id EB.kill EB.rm EB.wr EB.nw s.st=some stB∧getL s.st (y.i.acc vB)=getL s₁.st (y.i.acc vB)∧getL stB (x.i.acc vA)=getL s.st (x.i.acc vA)∧newSt x.id EA.kill EA.rm EA.wr EA.nw stB=some s₂.st:=by
  have hsA:=HA.st
  have hsB:=HB.st
  rcases hpu with ⟨q1,q2,q3,q4,q5⟩ | ⟨q1,q2,q3,q4,q5⟩
  ·rw [q2,q3,q4,q5] at hsA⊢
   have e1:s.st=s₁.st:=by simpa [newSt] using hsA
   refine ⟨s₂.st,by rw [e1];exact hsB,by rw [e1],by rw [q1];rfl,rfl⟩
  ·rw [q2,q3,q4,q5] at hsB⊢
   have e1:s₁.st=s₂.st:=by simpa [newSt] using hsB
   refine ⟨s.st,rfl,by rw [q1];rfl,rfl,by rw [←e1];exact hsA⟩
 have rdA:∀t,t∈y.reads→s₁.fr t=(s.fr t).map (PV.void EA.kill):=fun t ht=>by
  rw [hfrA]
  cases hxd:x.d with
  | none=>rfl
  | some d=>
    have hne:t≠d:=by rintro rfl;exact p1 t hxd ht
    simp only [upd_ne _ _ hne];rfl
 obtain ⟨vb0,hvb0,hvbs,hokB⟩:=HB.vals
 obtain ⟨sB1,sB2⟩:=stripI_ids y.i GB vb0
 have evB:(stripI y.i GB vb0).2=vB:=by rw [hvbs]
 rw [evB] at sB1 sB2
 have hvb:valL s.fr y.i.opr=some vb0:=valL_nj (fun t ht=>rdA t (by simp only [Ins.reads,List.mem_append];exact .inl ht)) hvb0 (hnj.imp id fun h=>by rw [←sB2];exact h.1)
 obtain ⟨s₁',hB',HB'⟩:=stepI_mk (s₂:=s) (st₂:=stB) HB (guard_void fun t w hg=>rdA t (by simp only [Ins.reads,hg,List.mem_append];right;simp)).symm
  (by rw [hvb,hvb0]) hcb0 hstB' HA.n.symm
 have hs1':s₁'.st=stB:=by have:=HB'.st;rw [hstB'] at this;injection this with this;exact this.symm
 have hfrB':=HB'.fr
 have rdB:∀t,t∈x.reads→s₁'.fr t=(s.fr t).map (PV.void EB.kill):=fun t ht=>by
  rw [hfrB']
  cases hyd:y.d with
  | none=>rfl
  | some d=>
    have hne:t≠d:=by rintro rfl;exact p3 t hyd ht
    simp only [upd_ne _ _ hne];rfl
 obtain ⟨va0,hva0,hvas,hokA⟩:=HA.vals
 obtain ⟨sA1,sA2⟩:=stripI_ids x.i GA va0
 have evA:(stripI x.i GA va0).2=vA:=by rw [hvas]
 rw [evA] at sA1 sA2
 have hva:valL s₁'.fr x.i.opr=some va0:=valL_free (fun t ht=>rdB t (by simp only [Ins.reads,List.mem_append];exact .inl ht)) hva0 (fun k hk=>by rw [←sA1];exact (hk2 k hk).1)
 obtain ⟨s₂',hA',HA'⟩:=stepI_mk (s₂:=s₁') (st₂:=s₂.st) HA (guard_void fun t w hg=>rdB t (by simp only [Ins.reads,hg,List.mem_append];right;simp))
  (by rw [hva,hva0]) (by rw [hs1'];exact hca0) (by rw [hs1'];exact hstA') HB'.n
 have hs2':s₂'.st=s₂.st:=by have:=HA'.st;rw [hs1',hstA'] at this;injection this with this;exact this.symm
 have hfrA':=HA'.fr

 have vvA:(if x.g=none then EA.val else PV.cnd GA EA.val).void EB.kill=(if x.g=none then EA.val else PV.cnd GA EA.val):=by
  have:=void_free (ks:=EB.kill) EA.val fun k hk=>(hk2 k hk).2.2.1
  split
  ·exact this
  ·simp only [PV.void,this]
 have vvB:(if y.g=none then EB.val else PV.cnd GB EB.val).void EA.kill=(if y.g=none then EB.val else PV.cnd GB EB.val):=by
  have:=void_free (ks:=EA.kill) EB.val fun k hk=>(hk1 k hk).2.2.1
  split
  ·exact this
  ·simp only [PV.void,this]
 refine ⟨s₁',s₂',hB',hA', ?_, ?_, ?_, ?_, ?_⟩
 ·rw [HB.n,HA.n,HA'.n,HB'.n]
 ·rw [hfrB,hfrA,hfrA',hfrB']
  have hvv:voidF EB.kill (voidF EA.kill s.fr)=voidF EA.kill (voidF EB.kill s.fr):=by
   funext t;unfold voidF;cases s.fr t with
   | none=>rfl
   | some p=>simp only [Option.map_some,void_comm]
  have hvu:∀(ks:List Nat) (f:Nat→Option PV) (d:Nat) (v:PV),voidF ks (upd f d v)=upd (voidF ks f) d (v.void ks):=fun ks f d v=>by
   funext t;unfold voidF;simp only [upd_eq];split<;>rfl
  cases hxd:x.d with
  | none=>
    cases hyd:y.d with
    | none=>exact hvv
    | some e=>simp only [hvu,vvB,hvv]
  | some d=>
    cases hyd:y.d with
    | none=>simp only [hvu,vvA,hvv]
    | some e=>
      have hne:e≠d:=by rintro rfl;exact p2 e hxd hyd
      simp only [hvu,vvA,vvB,hvv]
      funext t
      simp only [upd_eq]
      by_cases h1:t=e
      ·subst h1;simp [hne]
      ·simp [h1]
 ·exact hs2'.symm
 ·rw [HB.logAt,HA.logAt,HA'.logAt,HB'.logAt]
  funext t
  simp only [upd_eq]
  by_cases h1:t=j
  ·subst h1;simp [Ne.symm hij]
  ·simp [h1]
 ·obtain ⟨va',a1',_,a2'⟩:=HA'.vals
  obtain ⟨vb',b1',_,b2'⟩:=HB'.vals
  rw [hva] at a1';injection a1' with a1';subst a1'
  rw [hvb] at b1';injection b1' with b1';subst b1'
  rw [hokB,hokA,a2',b2']
  constructor
  ·rintro ⟨⟨h1,h2,h3⟩,h4,h5⟩;exact ⟨⟨h1,h4,h5⟩,h2,h3⟩
  ·rintro ⟨⟨h1,h4,h5⟩,h2,h3⟩;exact ⟨⟨h1,h2,h3⟩,h4,h5⟩
theorem swap4 (hij:i≠j) (hA:stepI S true c i x s=some s₁) (hB:stepI S true c' j y s₁=some s₂) (hap:slotsApart x y=true)
  {eA eB:LogE} (hl:s₂.log i=some eA) (hl':s₂.log j=some eB) (hpu:eA.rd=true) (hd1:∀r∈eB.ws,r∉eA.ids) (hd2:∀r∈eB.rl,r∉eA.ids)
  (hk1:∀k∈eA.ks,k∉eB.ms) (hk2:∀k∈eB.ks,k∉eA.ms) (hnj:eA.ks= []∨eB.nj=true):
  ∃s₁' s₂',stepI S true c' j y s=some s₁'∧stepI S true c i x s₁'=some s₂'∧Sim s₂ s₂':=by
 obtain ⟨GA,vA,cA,EA,HA⟩:=stepI_parts hA
 obtain ⟨GB,vB,cB,EB,HB⟩:=stepI_parts hB
 obtain ⟨p1,p2,p3⟩:=slotsApart_spec hap
 rw [HB.logAt,upd_ne _ _ hij,HA.logAt,upd_same] at hl
 rw [HB.logAt,upd_same] at hl'
 injection hl with hl;subst hl
 injection hl' with hl';subst hl'
 simp only [List.isEmpty_iff,List.mem_append,not_or,Bool.and_eq_true] at hpu hk1 hk2 hnj hd1 hd2
 have hfrA:=HA.fr
 have hfrB:=HB.fr
 have hsA:=HA.st
 have hsB:=HB.st
 obtain ⟨q2,q3,q4,q5⟩:=hpu
 rw [q2,q3,q4,q5] at hsA
 have e1:s.st=s₁.st:=by simpa [newSt] using hsA
 have hpt:∀r∈x.i.acc vA,s₂.st r=(s.st r).map (SE.void EB.kill):=fun r hr=>by
  obtain ⟨e,he,_⟩:=getL_mem _ _ HA.ent r hr
  have hr1:r∉EB.wr.map (·.1):=fun hm=>hd1 r hm hr
  have hr2:r∉EB.rm:=fun hm=>hd2 r hm hr
  have hw:wrLast EB.wr r=none:=by
   cases h:wrLast EB.wr r with
   | none=>rfl
   | some e=>obtain ⟨p,hp,hx⟩:=wrLast_mem h;exact absurd (List.mem_map.2 ⟨p,hp,hx⟩) hr1
  have hv:wrS EB.wr (rmS EB.rm (voidS EB.kill s₁.st)) r=(s.st r).map (SE.void EB.kill):=by
   rw [wrS_pt,hw,←e1];simp only [rmS,if_neg hr2];rfl
  rw [newSt_eq] at hsB
  rw [nwS_pt hsB r]
  by_cases hx:y.id≤r∧r<y.id+EB.nw.length
  ·have:=nwS_free hsB r hx
   rw [hv,he] at this;cases this
  ·rw [if_neg hx];exact hv
 have rdA:∀t,t∈y.reads→s₁.fr t=(s.fr t).map (PV.void EA.kill):=fun t ht=>by
  rw [hfrA]
  cases hxd:x.d with
  | none=>rfl
  | some d=>
    have hne:t≠d:=by rintro rfl;exact p1 t hxd ht
    simp only [upd_ne _ _ hne];rfl
 obtain ⟨vb0,hvb0,hvbs,hokB⟩:=HB.vals
 obtain ⟨sB1,sB2⟩:=stripI_ids y.i GB vb0
 have evB:(stripI y.i GB vb0).2=vB:=by rw [hvbs]
 rw [evB] at sB1 sB2
 have hvb:valL s.fr y.i.opr=some vb0:=valL_nj (fun t ht=>rdA t (by simp only [Ins.reads,List.mem_append];exact .inl ht)) hvb0 (hnj.imp id fun h=>by rw [←sB2];exact h.1)
 obtain ⟨s₁',hB',HB'⟩:=stepI_mk (s₂:=s) (st₂:=s₂.st) HB (guard_void fun t w hg=>rdA t (by simp only [Ins.reads,hg,List.mem_append];right;simp)).symm
  (by rw [hvb,hvb0]) (by rw [e1]) (by rw [e1];exact hsB) HA.n.symm
 have hs1':s₁'.st=s₂.st:=by have:=HB'.st;rw [e1,hsB] at this;injection this with this;exact this.symm
 have hfrB':=HB'.fr
 have rdB:∀t,t∈x.reads→s₁'.fr t=(s.fr t).map (PV.void EB.kill):=fun t ht=>by
  rw [hfrB']
  cases hyd:y.d with
  | none=>rfl
  | some d=>
    have hne:t≠d:=by rintro rfl;exact p3 t hyd ht
    simp only [upd_ne _ _ hne];rfl
 obtain ⟨va0,hva0,hvas,hokA⟩:=HA.vals
 obtain ⟨sA1,sA2⟩:=stripI_ids x.i GA va0
 have evA:(stripI x.i GA va0).2=vA:=by rw [hvas]
 rw [evA] at sA1 sA2
 have hva:valL s₁'.fr x.i.opr=some va0:=valL_free (fun t ht=>rdB t (by simp only [Ins.reads,List.mem_append];exact .inl ht)) hva0 (fun k hk=>by rw [←sA1];exact (hk2 k hk).1)
 obtain ⟨cA2,hca,hEa,hlA⟩:=ent_free (st':=s₁'.st) (fun r hr=>by rw [hs1'];exact hpt r hr) HA.ent HA.eff (fun k hk=>(hk2 k hk).2.1)
 obtain ⟨s₂',hA',HA'⟩:=stepI_mk2 (s₂:=s₁') (st₂:=s₂.st) HA (guard_void fun t w hg=>rdB t (by simp only [Ins.reads,hg,List.mem_append];right;simp))
  (by rw [hva,hva0]) hca hEa (by rw [hs1',q2,q3,q4,q5];simp [newSt]) HB'.n
 have hs2':s₂'.st=s₂.st:=by have:=HA'.st;rw [hs1',q2,q3,q4,q5] at this;simpa [newSt] using this.symm
 have hfrA':=HA'.fr

 have vvA:(if x.g=none then EA.val else PV.cnd GA EA.val).void EB.kill=(if x.g=none then EA.val else PV.cnd GA EA.val):=by
  have:=void_free (ks:=EB.kill) EA.val fun k hk=>(hk2 k hk).2.2.1
  split
  ·exact this
  ·simp only [PV.void,this]
 have vvB:(if y.g=none then EB.val else PV.cnd GB EB.val).void EA.kill=(if y.g=none then EB.val else PV.cnd GB EB.val):=by
  have:=void_free (ks:=EA.kill) EB.val fun k hk=>(hk1 k hk).2.2.1
  split
  ·exact this
  ·simp only [PV.void,this]
 refine ⟨s₁',s₂',hB',hA', ?_, ?_, ?_, ?_, ?_⟩
 ·rw [HB.n,HA.n,HA'.n,HB'.n]
 ·rw [hfrB,hfrA,hfrA',hfrB']
  have hvv:voidF EB.kill (voidF EA.kill s.fr)=voidF EA.kill (voidF EB.kill s.fr):=by
   funext t;unfold voidF;cases s.fr t with
   | none=>rfl
   | some p=>simp only [Option.map_some,void_comm]
  have hvu:∀(ks:List Nat) (f:Nat→Option PV) (d:Nat) (v:PV),voidF ks (upd f d v)=upd (voidF ks f) d (v.void ks):=fun ks f d v=>by
   funext t;unfold voidF;simp only [upd_eq];split<;>rfl
  cases hxd:x.d with
  | none=>
    cases hyd:y.d with
    | none=>exact hvv
    | some e=>simp only [hvu,vvB,hvv]
  | some d=>
    cases hyd:y.d with
    | none=>simp only [hvu,vvA,hvv]
    | some e=>
      have hne:e≠d:=by rintro rfl;exact p2 e hxd hyd
      simp only [hvu,vvA,vvB,hvv]
      funext t
      simp only [upd_eq]
      by_cases h1:t=e
      ·subst h1;simp [hne]
      ·simp [h1]
 ·exact hs2'.symm
 ·rw [HB.logAt,HA.logAt,HA'.logAt,HB'.logAt,hlA]
  funext t
  simp only [upd_eq]
  by_cases h1:t=j
  ·subst h1;simp [Ne.symm hij]
  ·simp [h1]
 ·obtain ⟨va',a1',_,a2'⟩:=HA'.vals
  obtain ⟨vb',b1',_,b2'⟩:=HB'.vals
  rw [hva] at a1';injection a1' with a1';subst a1'
  rw [hvb] at b1';injection b1' with b1';subst b1'
  rw [hokB,hokA,a2',b2']
  constructor
  ·rintro ⟨⟨h1,h2,h3⟩,h4,h5⟩;exact ⟨⟨h1,h4,h5⟩,h2,h3⟩
  ·rintro ⟨⟨h1,h4,h5⟩,h2,h3⟩;exact ⟨⟨h1,h2,h3⟩,h4,h5⟩
end
inductive Lv where
 | nrm
 | ex (id:Nat)
 | ret
def disjointL (a b:List Nat):Bool:=a.all fun x=> !b.contains x
def killOk (x y:LogE):Bool:=match x.ks,y.ks with
 | [], []=>true
 | kx,ky=>disjointL kx y.ms&&(disjointL ky x.ms&&(kx.isEmpty || y.nj))
def apartOk (log:Nat→Option LogE):List (Nat×Nat×Nat)→Bool
 | []=>true
 | (a,b,d)::r=>(match log a,log b with
   | some x,some y=>(x.pu || y.pu || (!x.rm&& !y.rm&&(disjointL x.ws y.ids&&disjointL y.ws x.ids)&&y.ids.all (fun i=> !(i / 16==d))) || (x.rd&&(disjointL y.ws x.ids&&disjointL y.rl x.ids)))&&killOk x y
   | _,_=>false)&&apartOk log r
def C.labOf:C→Option Nat
 | .seq a b=>match a.labOf with
   | some l=>some l
   | none=>b.labOf
 | .lab l=>some l
 | .cut b=>b.labOf
 | _=>none
def C.from (l:Nat):C→Option C
 | .seq a b=>match a.from l with
   | some r=>some (.seq r b)
   | none=>b.from l
 | .lab l'=>match Nat.beq l' l with
   | true=>some .skip
   | false=>none
 | .cut b=>b.from l
 | _=>none
def outs (Q:Lv→PS→Prop):Lv→PS→Prop
 | .nrm,s=>Q .nrm s
 | .ex i,s=>match Nat.ble 1000000 i with
   | true=>False
   | false=>Q (.ex i) s
 | .ret,s=>Q .ret s
def jmps (l:Nat) (J:PS→Prop) (Q:Lv→PS→Prop):Lv→PS→Prop
 | .nrm,s=>Q .nrm s
 | .ex i,s=>match Nat.ble 1000000 i with
   | true=>match Nat.beq i (1000000+l) with
     | true=>J s
     | false=>False
   | false=>Q (.ex i) s
 | .ret,s=>Q .ret s
def vc (S:FuncId→List PV→List SE→CallRes→Prop) (LS:C→(Lv→PS→Prop)→PS→Prop):C→(Lv→PS→Prop)→PS→Prop
 | .skip,Q,s=>Q .nrm s
 | .reg ins,Q,s=>evK S false 0 ins s (fun s'=>Q .nrm s')
 | .drw ins ps,Q,s=>match s with
   | ⟨n,fr,st,ok,_⟩=>evK S true 0 ins ⟨n,fr,st,ok,fun _=>none⟩ (fun s'=>match s' with
     | ⟨n',fr',st',ok',log'⟩=>apartOk log' ps=true∧Q .nrm ⟨n',fr',st',ok',fun _=>none⟩)
 | .seq a b,Q,s=>vc S LS a (fun e s'=>match e with
   | .nrm=>vc S LS b Q s'
   | .ex i=>Q (.ex i) s'
   | .ret=>Q .ret s') s
 | .cond c x y,Q,s=>match s with
   | ⟨n,fr,st,ok,log⟩=>match A.val fr c with
     | some (.bool b)=>ok∧(b=true→vc S LS x Q ⟨n,fr,st,True,log⟩)∧(b=false→vc S LS y Q ⟨n,fr,st,True,log⟩)
     | _=>False
 | .block id b,Q,s=>vc S LS b (fun e s'=>match e with
   | .nrm=>Q .nrm s'
   | .ex i=>match Nat.beq i id with
     | true=>Q .nrm s'
     | false=>Q (.ex i) s'
   | .ret=>Q .ret s') s
 | .loop b,Q,s=>match s with
   | ⟨n,fr,st,ok,log⟩=>ok∧LS (.loop b) Q ⟨n,fr,st,True,log⟩
 | .exit id,Q,s=>Q (.ex id) s
 | .scope b,Q,s=>match b.labOf with
   | none=>vc S LS b (outs Q) s
   | some _=>match s with
     | ⟨n,fr,st,ok,log⟩=>ok∧LS (.scope b) Q ⟨n,fr,st,True,log⟩
 | .ret,Q,s=>Q .ret s
 | .cut b,Q,s=>match s with
   | ⟨n,fr,st,ok,log⟩=>ok∧LS b Q ⟨n,fr,st,True,log⟩
 | .bad,_,_=>False
 | .raw c,Q,s=>match s with
   | ⟨n,fr,st,ok,log⟩=>ok∧LS (.raw c) Q ⟨n,fr,st,True,log⟩
 | .lab _,Q,s=>Q .nrm s
 | .gto l,Q,s=>Q (.ex (1000000+l)) s
def C.er:C→C
 | .seq a b=> .seq a.er b.er
 | .cond c x y=> .cond c x.er y.er
 | .block id b=> .block id b.er
 | .loop b=> .loop b.er
 | .scope b=> .scope b.er
 | .cut b=>b.er
 | c=>c
end Pv
end Go.Proofs.YtdcgnfkkklbckaaGreatDoor
