/- LAW TopCascade: the row and its card: the law returns true for every input, and the input reads as before; the listed tables read as the program's text lays them. -/
import Derived.Test.YtdcgnfkkklbckaaGreatDoorZuk
import Derived.Test.YtdcgnfkkklbckaaGreatDoorTie
import Derived.Test.YtdcgnfkkklbckaaGreatDoorZug
import Derived.WalkKit
import Derived.ProofKit
import Derived.OpenShut
import Derived.ShutString
import Derived.ChangeOld
import Derived.Below
import Derived.LaidMore
import Derived.Lay
import Derived.LaidSub
import Derived.SevenTiedAt
import Derived.Shelf.Vars
import Derived.MakeChecks
import Derived.Test.YtdcgnfkkklbckaaGreatDoorCards
set_option linter.unusedSimpArgs false
set_option linter.unusedVariables false
set_option maxRecDepth 100000
set_option maxHeartbeats 4000000
namespace Go.Proofs.YtdcgnfkkklbckaaGreatDoor
open Go.ChangeShapes Go.WideShapes Go.ChangeAt Go.RowKit
theorem Tryz.own:ownKnob Tryz.prog.godebug=none:=by kernel_rfl
theorem Tryz.laidOut:laidOutB Tryz.prog=true:=by kernel_rfl
def lists:List (String×DataW Unit):= [("math/bits.deBruijn32tab",Rows.laid_math_bits_deBruijn32tab),("math/bits.deBruijn64tab",Rows.laid_math_bits_deBruijn64tab),("internal/strconv.uint64pow10",Rows.laid_internal_strconv_uint64pow10),("unicode/utf8.acceptRanges",Rows.laid_unicode_utf8_acceptRanges),("hydrocascade/licence.kinds",Rows.laid_hydrocascade_licence_kinds),("strconv.ErrRange",Rows.laid_strconv_ErrRange),("strconv.ErrSyntax",Rows.laid_strconv_ErrSyntax),("hydrocascade/rules.words",Rows.laid_hydrocascade_rules_words),("unicode/utf8.first",Rows.laid_unicode_utf8_first)]
theorem returns_door {H:Type} {enc:TypeId×Value→H} {a:Assume} {C:Checked} {os:Os} {f:FuncId} {fn:Func} {s:ChangeSpec} {conds:List PathCond} {apart fresh handsOn again:Bool} {X:World→Array Value→Prop}
  (hX:∀(w w':World) (args:Array Value),w.heap=w'.heap→X w args→X w' args)
  (own:ownKnob C.prog.godebug=none) (started:os.Started) (noInit:C.prog.inits.idxOf? f=none) (hfn:C.prog.funcs[f]? =some fn)
  (witness:∃(w:World) (tape:Tape) (i:Input),w.os=os∧(w.forCall tape i).Shaped C.prog∧i.vars= []∧Input.okWide C.prog (w.forCall tape i) .any w.heap.size f i∧
   ((s.pre enc C.prog fn conds apart (w.forCall tape i).memory i.args∧X (w.forCall tape i).memory i.args)∧sizedMet enc C.prog fn (OpenSpec.ofChange s) apart (w.forCall tape i).memory i.args)∧a.holds C.prog (lone (Frame.enter C.prog f i.args .normal) [] (w.forCall tape i)))
  (law:∀(W:World) (base:Nat) (args:Array Value) (ds gs:List (DataW H)) (before:List MemPlace),(∀(j:Nat) t v,fn.params[j]? =some t→args[j]? =some v→Value.okWide C.prog W .any base t v)→
   DataW.Whole enc C.prog fn.params.toList s.vars apart W args.toList ds gs before→(DataW.weightsEach C.prog (fn.params.toList++s.plain.varTypes C.prog) (ds++gs)).all (· ≤reachBytes)=true→X W args→W.ShapedOpen C.prog→
   Calls C.prog f args W fun e W'=>∃v,e= .returned v∧s.post enc C.prog fn apart fresh handsOn again W args v W'):
  ReturnsInHanded a C os f .any (fun w args=>(s.pre enc C.prog fn conds apart w args∧X w args)∧sizedMet enc C.prog fn (OpenSpec.ofChange s) apart w args) (s.post enc C.prog fn apart fresh handsOn again):=by
 refine returnsInHanded_of_calls own started noInit witness fun w tape i _ hsh _ hok hpre _=> ?_
 obtain ⟨_,_,_,g,hg,_,_,_,_,hval⟩:=hok
 cases Option.some.inj (hg.symm.trans hfn)
 obtain ⟨⟨⟨ds,gs,before,hw,_⟩,hx⟩,hz⟩:=hpre
 refine (law (w.forCall tape i) w.heap.size i.args ds gs before hval (DataW.Whole.of_heap (w':=w.forCall tape i) (by rfl) hw) (hz.weights hw) (hX _ _ _ (by rfl) hx) hsh).mono ?_
 rintro e W' ⟨v,rfl,hp⟩
 exact ChangeSpec.post_blind hp
theorem tab_of {W:World} (h:laidMetH Tryz.prog lists W):Lib.TabIs Tryz.prog W "internal/strconv.uint64pow10" .u64 Lib.pow10Tab:=by
 have h1:=(laidMetH_iff.1 h).1
 have h2:=h1.filter fun x=>x.1== "internal/strconv.uint64pow10"
 have e:((lists.filter fun x=>x.2.handleName?.isNone).filter fun x=>x.1== "internal/strconv.uint64pow10")= [("internal/strconv.uint64pow10",Lib.tabData .u64 Lib.pow10Tab)]:=by kernel_rfl
 rw [e] at h2
 exact Lib.tabIs_of_head (g:=3) (t:=411) (e:=372) (n:=20) (by kernel_rfl) (by kernel_rfl) (by kernel_rfl) (by kernel_rfl) (by kernel_rfl) (by kernel_rfl) h2
theorem cells_of_strs {H:Type} {enc:TypeId×Value→H} {P:Program} {w:World} {base:Nat} {sp:Nat→Bool} {held:Bool} {fuel:Nat} {t e:TypeId} {n:Nat} {cs:List Value} {zs:List (List UInt8)} {p:List MemPlace}
  (ht:P.underlying t=some (.array n e)) (he:P.underlying e=some .string) (hce:P.cellsOf e=1) (hct:P.cellsOf t=n)
  (h:DataW.trod enc P w base sp held fuel t cs=some (.agg (zs.map fun z=> .lit (.string z)),p)):cs=zs.map fun z=>Value.string ⟨z.toArray⟩:=by
 cases fuel with
 | zero=>simp [DataW.trod] at h
 | succ fuel=>
   simp only [DataW.trod,ht,hce,hct,Nat.mul_one] at h
   split at h
   ·rename_i hl
    obtain ⟨xs,hm,hx⟩:=Option.map_eq_some_iff.1 h
    have hxs:xs.map (·.1)=zs.map fun z=>(DataW.lit (.string z):DataW H):=by
     have:=congrArg Prod.fst hx
     simpa using this
    have hxl:xs.length=n:=by simpa using Lib.mapM_length hm
    have hzl:zs.length=n:=by
     have:=congrArg List.length hxs
     simp at this
     omega
    apply List.ext_getElem?
    intro i
    by_cases hi:i<n
    ·obtain ⟨b,hb,hf⟩:=Lib.mapM_at hm i i (by simp [hi])
     obtain ⟨z,hc,hz,_⟩:=DataW.trod_string he hf
     have h1:cs[i]? =some (.string z):=by
      have:=congrArg (·[0]?) hc
      simpa [List.getElem?_take,List.getElem?_drop] using this
     have h2:(xs.map (·.1))[i]? =some (DataW.lit (.string z.data.toList):DataW H):=by rw [List.getElem?_map,hb,hz];rfl
     rw [hxs] at h2
     simp only [List.getElem?_map,Option.map_eq_some_iff,DataW.lit.injEq,Lit.string.injEq] at h2
     obtain ⟨z',hz',rfl⟩:=h2
     simp [h1,hz']
    ·rw [List.getElem?_eq_none (by omega),List.getElem?_eq_none (by simp;omega)]
   ·cases h
theorem words_of {W:World} (h:laidMetH Tryz.prog lists W):W.var? Tryz.prog "hydrocascade/rules.words"=some (Pv.kindWords.map fun s=>Value.string ⟨s.toArray⟩).toArray:=by
 have h1:=(laidMetH_iff.1 h).1
 have h2:=h1.filter fun x=>x.1== "hydrocascade/rules.words"
 have e:((lists.filter fun x=>x.2.handleName?.isNone).filter fun x=>x.1== "hydrocascade/rules.words")= [("hydrocascade/rules.words", .agg (Pv.kindWords.map fun z=> .lit (.string z)))]:=by kernel_rfl
 rw [e] at h2
 obtain ⟨ps,⟨g',t',cs,fuel,p,q,hg',ht',hvar,hd,_,_⟩,_⟩:=h2
 obtain rfl:=Option.some.inj ((show Tryz.prog.globalNamed "hydrocascade/rules.words"=some 0 by kernel_rfl).symm.trans hg')
 obtain rfl:=Option.some.inj ((show (Tryz.prog.globals[0]?).map (·.type)=some 176 by kernel_rfl).symm.trans ht')
 rw [hvar,←cells_of_strs (n:=5) (e:=9) (by kernel_rfl) (by kernel_rfl) (by kernel_rfl) (by kernel_rfl) hd]
theorem list_two {l:List Value} (h:l.length=2):∃a b,l= [a,b]:=by
 match l,h with
 | [a,b],_=>exact ⟨a,b,rfl⟩
theorem trod_pair {H:Type} {enc:TypeId×Value→H} {P:Program} {w:World} {base:Nat} {sp:Nat→Bool} {held:Bool} {fuel:Nat} {t bt:TypeId} {fs:Array Field} {f0 f1:Field} {cs:List Value} {x:DataW H×List MemPlace} (ht:P.underlying t=some (.struct fs)) (hfs:fs.toList= [f0,f1])
  (t0:f0.type=bt) (o0:f0.offset=0) (t1:f1.type=bt) (o1:f1.offset=1) (hb:P.underlying bt=some .bool) (hcb:P.cellsOf bt=1) (hct:P.cellsOf t=2) (h:DataW.trod enc P w base sp held fuel t cs=some x):
  ∃a b,cs= [.bool a, .bool b]∧x.1= .agg [.lit (.bool a), .lit (.bool b)]:=by
 cases fuel with
 | zero=>simp [DataW.trod] at h
 | succ fuel=>
   unfold DataW.trod at h
   rw [ht] at h
   split at h<;>try (simp_all;done)
   rename_i fs' hfs'
   injection hfs' with hfs';injection hfs' with hfs';subst hfs'
   rw [hct] at h
   split at h
   ·rename_i hl
    obtain ⟨xs,hm,hx⟩:=Option.map_eq_some_iff.1 h
    rw [hfs] at hm
    have hxl:xs.length=2:=by simpa using Lib.mapM_length hm
    obtain ⟨b0,hb0,hf0⟩:=Lib.mapM_at hm 0 f0 rfl
    obtain ⟨b1,hb1,hf1⟩:=Lib.mapM_at hm 1 f1 rfl
    rw [t0,o0,hcb] at hf0
    rw [t1,o1,hcb] at hf1
    obtain ⟨a,ha,rfl⟩:=DataW.trod_bool hb hf0
    obtain ⟨b,hb',rfl⟩:=DataW.trod_bool hb hf1
    match xs,hxl,hb0,hb1 with
    | [y0,y1],_,h0,h1=>
      simp at h0 h1
      subst h0;subst h1
      obtain ⟨c0,c1,hcs⟩:=list_two hl
      rw [hcs] at ha hb'⊢
      simp at ha hb'
      subst ha;subst hb'
      exact ⟨a,b,rfl,by rw [←hx];rfl⟩
   ·cases h
theorem cells_of_pairs {H:Type} {enc:TypeId×Value→H} {P:Program} {w:World} {base:Nat} {sp:Nat→Bool} {held:Bool} {fuel:Nat} {t e bt:TypeId} {fs:Array Field} {f0 f1:Field} {n:Nat} {cs:List Value} {zs:List (Bool×Bool)} {p:List MemPlace}
  (ht:P.underlying t=some (.array n e)) (he:P.underlying e=some (.struct fs)) (hfs:fs.toList= [f0,f1])
  (t0:f0.type=bt) (o0:f0.offset=0) (t1:f1.type=bt) (o1:f1.offset=1) (hb:P.underlying bt=some .bool) (hcb:P.cellsOf bt=1) (hce:P.cellsOf e=2) (hct:P.cellsOf t=n*2)
  (h:DataW.trod enc P w base sp held fuel t cs=some (.agg (zs.map fun z=> .agg [.lit (.bool z.1), .lit (.bool z.2)]),p)):cs.length=n*2∧zs.length=n∧∀i,i<n→(cs.drop (i*2)).take 2= [Value.bool (zs.getD i default).1,Value.bool (zs.getD i default).2]:=by
 cases fuel with
 | zero=>simp [DataW.trod] at h
 | succ fuel=>
   simp only [DataW.trod,ht,hce,hct] at h
   split at h
   ·rename_i hl
    obtain ⟨xs,hm,hx⟩:=Option.map_eq_some_iff.1 h
    have hxs:xs.map (·.1)=zs.map fun z=>(DataW.agg [.lit (.bool z.1), .lit (.bool z.2)]:DataW H):=by
     have:=congrArg Prod.fst hx
     simpa using this
    have hxl:xs.length=n:=by simpa using Lib.mapM_length hm
    have hzl:zs.length=n:=by
     have:=congrArg List.length hxs
     simp at this
     omega
    refine ⟨hl,hzl,fun i hi=> ?_⟩
    obtain ⟨b,hb2,hf⟩:=Lib.mapM_at hm i i (by simp [hi])
    obtain ⟨u,v,hc,hz⟩:=trod_pair he hfs t0 o0 t1 o1 hb hcb hce hf
    have h2:(xs.map (·.1))[i]? =some (DataW.agg [.lit (.bool u), .lit (.bool v)]:DataW H):=by rw [List.getElem?_map,hb2,Option.map_some,hz]
    rw [hxs,List.getElem?_map,List.getElem?_eq_getElem (by omega),Option.map_some] at h2
    simp only [Option.some.injEq,DataW.agg.injEq,List.cons.injEq,DataW.lit.injEq,Lit.bool.injEq,and_true] at h2
    rw [hc,List.getD_eq_getElem?_getD,List.getElem?_eq_getElem (by omega),Option.getD_some,h2.1,h2.2]
   ·cases h
theorem kinds_of {W:World} (h:laidMetH Tryz.prog lists W):W.var? Tryz.prog "hydrocascade/licence.kinds"=some (Pv.kindFlags.map Value.bool).toArray:=by
 have h1:=(laidMetH_iff.1 h).1
 have h2:=h1.filter fun x=>x.1== "hydrocascade/licence.kinds"
 have e:((lists.filter fun x=>x.2.handleName?.isNone).filter fun x=>x.1== "hydrocascade/licence.kinds")= [("hydrocascade/licence.kinds", .agg (([(false,false),(true,false),(false,false),(false,true),(true,true)]:List (Bool×Bool)).map fun z=> .agg [.lit (.bool z.1), .lit (.bool z.2)]))]:=by kernel_rfl
 rw [e] at h2
 obtain ⟨ps,⟨g',t',cs,fuel,p,q,hg',ht',hvar,hd,_,_⟩,_⟩:=h2
 obtain rfl:=Option.some.inj ((show Tryz.prog.globalNamed "hydrocascade/licence.kinds"=some 2 by kernel_rfl).symm.trans hg')
 obtain rfl:=Option.some.inj ((show (Tryz.prog.globals[2]?).map (·.type)=some 327 by kernel_rfl).symm.trans ht')
 obtain ⟨hl,_,hi⟩:=cells_of_pairs (n:=5) Tryz.underlying327 Tryz.underlying326 rfl rfl rfl rfl rfl Tryz.underlying4 (by kernel_rfl) (by kernel_rfl) (by kernel_rfl) hd
 rw [hvar]
 congr 1
 apply Array.ext'
 rw [List.toList_toArray]
 have a0:=hi 0 (by decide)
 have a1:=hi 1 (by decide)
 have a2:=hi 2 (by decide)
 have a3:=hi 3 (by decide)
 have a4:=hi 4 (by decide)
 generalize cs.toList=c at hl a0 a1 a2 a3 a4
 match c,hl with
 | [c0,c1,c2,c3,c4,c5,c6,c7,c8,c9],_=>
   simp at a0 a1 a2 a3 a4
   simp [Pv.kindFlags,a0,a1,a2,a3,a4]
theorem glob_of {W:World} (h:laidMetH Tryz.prog lists W) (hs:W.ShapedOpen Tryz.prog):Pv.GlobOK W:=fun b p hb=>by
 match b,hb with
 | 0,hb=>
   injection hb with hb;subst hb
   have ht:=words_of h
   unfold World.var? at ht
   rw [show Tryz.prog.globalNamed "hydrocascade/rules.words"=some 0 from by kernel_rfl] at ht
   simp only [Option.bind_some] at ht
   split at ht
   ·rename_i cs T fz hc
    simp only [Option.some.injEq] at ht
    subst ht
    exact ⟨_,hc,T,fz,rfl⟩
   ·cases ht
 | 1,hb=>cases hb
 | 2,hb=>
   injection hb with hb;subst hb
   have ht:=kinds_of h
   unfold World.var? at ht
   rw [show Tryz.prog.globalNamed "hydrocascade/licence.kinds"=some 2 from by kernel_rfl] at ht
   simp only [Option.bind_some] at ht
   split at ht
   ·rename_i cs T fz hc
    simp only [Option.some.injEq] at ht
    subst ht
    exact ⟨_,hc,T,fz,rfl⟩
   ·cases ht
 | 3,hb=>
   injection hb with hb;subst hb
   have ht:=tab_of h
   unfold Lib.TabIs World.var? at ht
   rw [show Tryz.prog.globalNamed "internal/strconv.uint64pow10"=some 3 from by kernel_rfl] at ht
   simp only [Option.bind_some] at ht
   split at ht
   ·rename_i cs T fz hc
    simp only [Option.some.injEq] at ht
    subst ht
    exact ⟨_,hc,T,fz,rfl⟩
   ·cases ht
 | 4,hb=>
   injection hb with hb;subst hb
   obtain ⟨m,hm⟩:=cell_of_shapedOpen_int (P:=Tryz.prog) (w:=W) (g:=4) (t:=3) (zero:= #[.int .i64 0]) (k:= .i64) hs (of_decide_eq_true (by kernel_rfl)) (by kernel_rfl) rfl (by kernel_rfl) (by kernel_rfl) (by kernel_rfl)
   unfold World.cell? at hm
   split at hm
   ·rename_i cs T fz hc
    exact ⟨_,hc,cs,T,fz,m,rfl,by simpa using hm⟩
   ·cases hm
 | b+5,hb=>cases hb
open Go.ChangeShapes Go.WideShapes Go.ChangeAt Go.RowKit
namespace Pv
theorem dec_int:∀ps,ShL [.int .i64] ps→∃x:Int,ps=eInt x∧inR .i64 x:=fun ps h=>by
 obtain ⟨p,qs,rfl,h1,h⟩:=shl_cons h
 cases shl_nil h
 obtain ⟨a,rfl,ha⟩:=sh_int h1
 exact ⟨a,rfl,ha⟩
end Pv
theorem liftedTopCascade (os:Os) (started:os.Started) (H:Type) (enc:TypeId×Value→H):
  ReturnsInHanded {} Tryz.checked os 3 .any (fun w args=>(Rows.topCascadeSpec.pre enc Tryz.prog Tryz.f3 Rows.topCascadeRow.domain false w args∧laidMetH Tryz.prog lists w)∧sizedMet enc Tryz.prog Tryz.f3 (OpenSpec.ofChange Rows.topCascadeSpec) false w args) (Rows.topCascadeSpec.post enc Tryz.prog Tryz.f3 false true false false):=by
 refine returns_door (C:=Tryz.checked) (X:=fun w _=>laidMetH Tryz.prog lists w) (fun _ _ _ hh h=>h.of_heap hh) Tryz.own started (by kernel_rfl) Tryz.func3
  (ChangeSpec.witness_shaped (enc:=enc) (C:=Tryz.checked) (os:=os) (X:=fun w _=>laidMetH Tryz.prog lists w) false (World.laidAll Tryz.prog os lists) #[.slice none 0 0] 8 (World.laidAll_os _ _ _)
   (World.shaped_of_ZipB (by kernel_rfl) (by kernel_rfl)) (by kernel_rfl) (by kernel_rfl) (by kernel_rfl)
   (by rw [MakeChecks.laidMetH_plain _ _ _ (by kernel_rfl)];exact laidMet_laidAll _ (by kernel_rfl) (by kernel_rfl))) ?_
 intro W base args ds gs before hval0 hW hsz0 hL hS
 have hval:∀(j:Nat) t v,Tryz.f3.params[j]? =some t→args[j]? =some v→Value.okWide Tryz.prog W .any base t v:=hval0
 have hW':=hW
 obtain ⟨p,q,hA0,hV,rfl,hfz,hnd⟩:=hW
 have hA:DataW.TrodAll enc Tryz.prog W 0 (fun _=>true) true Tryz.f3.params.toList args.toList ds p:=hA0
 rw [Tryz.params3] at hA hval
 have hgl:Pv.GlobOK W:=glob_of hL hS
 have hsz:(DataW.weightsEach Tryz.prog (Tryz.f3.params.toList++(Rows.topCascadeSpec).plain.varTypes Tryz.prog) (ds++gs)).all (· ≤reachBytes)=true:=hsz0
 rw [Tryz.params3] at hsz
 obtain ⟨v0,vs0,d0,ds0,p0,q0,hargs,rfl,rfl,h0,r0⟩:=trodAll_cons hA
 obtain ⟨rfl,rfl,rfl⟩:=trodAll_nil r0
 obtain rfl:args= #[v0]:=by cases args;simp_all
 obtain ⟨rfl,rfl⟩:=trodVars_none hV
 have k0:=h0
 have lt0:∀x∈p0,x.block<W.heap.size:=by obtain ⟨m,hm⟩:=k0;exact DataW.trod_lt m _ _ _ hm
 obtain ⟨a0,len0,cap0,rfl⟩:=okWide_slice Tryz.underlying22 (hval 0 22 v0 rfl rfl)
 obtain ⟨_,s0,g0⟩:=Pv.arg_one (m:=9) (s:= .sl [.int .i64]) (by kernel_rfl) rfl k0
 obtain ⟨l0,e0,_,i0⟩:=Pv.sh_list hgl Pv.eInt (Pv.inR .i64) Pv.dec_int s0 g0
 clear hA0 hval0
 refine (Pv.law_calls hgl (Pv.call3 l0) (Pv.RepL.cons_ e0 Pv.RepL.nil_)).mono fun e W' ⟨he,bel⟩=> ?_
 subst he
 exact ⟨_,rfl,_,_,_, [],_, [],hW',trodAll_mk1 (shut_bool Tryz.underlying4 _),(trodAll_cons_mk (Below.trod Tryz.laidOut (by kernel_rfl) (of_decide_eq_true (by kernel_rfl)) k0 bel lt0) trodAll_mk0),rfl,bel.frame _,fun h=>by cases h⟩
theorem TopCascade_row:Rows.TopCascadeSaid:=
 OpenClaim.holds_of_wide 3 Tryz.f3 rfl rfl rfl rfl rfl rfl rfl ⟨rfl,rfl,rfl,rfl,rfl⟩ rfl rfl rfl rfl rfl (by kernel_rfl) Tryz.func3 (by
   unfold joinedFacts
   simp only [Bool.and_eq_true]
   (repeat' (apply And.intro))<;>(as_aux_lemma=>kernel_rfl))
  (of_decide_eq_true (by kernel_rfl)) (by unfold Func.isWrapper;first | (rw [if_pos (by decide +kernel)];kernel_rfl) | (rw [if_neg (by decide +kernel)];exact ⟨rfl,rfl⟩))
  (fun os started H enc _=>liftedTopCascade os started H enc)
theorem TopCascade_holds:Rows.TopCascadeCardSaid:=
 Claim7.holds_tied_plain_at .later [] [.data, .data, .data, .data, .data, .sentinel, .sentinel, .data, .pinned] true (true, "e7780b5818bdd3a97b419b92d3de36dc521f254ed0e3da3c1ca9274bcd9524f2") true TopCascade_row (fun _ h=>by cases h) (by as_aux_lemma=>kernel_rfl) (fun _ h=>by cases h) topCascade_row_tie rfl ⟨rfl,rfl⟩ (by as_aux_lemma=>kernel_rfl) rfl
  (fun f fn hf hfn=>by
   obtain rfl:f=3:=Option.some.inj ((show Tryz.prog.funcNamed "hydrocascade/hydrocascadetop.TopCascade"=some 3 by as_aux_lemma=>kernel_rfl).symm.trans hf) |>.symm
   obtain rfl:fn=Tryz.f3:=(Option.some.inj (Tryz.func3.symm.trans hfn)).symm
   exact ⟨by as_aux_lemma=>kernel_rfl,fun j t ht=>by
    rw [Tryz.params3] at ht
    have hm:t∈ [22]:=by simpa using Array.mem_of_getElem? ht
    have hall:([22].all fun u=> !Tryz.prog.wantsStandIn u)=true:=by as_aux_lemma=>kernel_rfl
    exact (show Tryz.prog.wantsStandIn t=false by simpa using List.all_eq_true.1 hall t hm)⟩)
  (by as_aux_lemma=>kernel_rfl)
end Go.Proofs.YtdcgnfkkklbckaaGreatDoor
