/- A LAW's ROW, FROM ITS FUNCTION's CONTRACT: slices of slices that came in. -/
import Derived.Test.YtdcgnfkkklbckaaGreatDoorZmi
import Derived.Test.YtdcgnfkkklbckaaGreatDoorZmg
import Derived.Test.YtdcgnfkkklbckaaGreatDoorZmf
import Derived.Defers
import Derived.SizedLaws
set_option linter.unusedSimpArgs false
set_option linter.unusedVariables false
set_option maxRecDepth 100000
set_option maxHeartbeats 8000000
namespace Go.Proofs.YtdcgnfkkklbckaaGreatDoor
namespace Pv
def c134:C:=(sr [kk 2 (.mv (.c (.str [])))] (.seq (sr [km 4 0,kk 5 (.nc 4),kk 6 (.fa 0 5),kk 7 (.ld 1 false 6),kk 8 (.len 7),kk 9 (.bi false .eql 8 (cn 0))] (.cond 9 (sr [km 10 0,kk 11 (.nc 10),kk 12 (.fa 1 11),kz (.st 1 12 (.c (.bool true)))] (sr [kk 2 (.mv (.c (.str [])))] .ret)) .skip)) (sr [km 13 0,kk 14 (.nc 13),kk 15 (.fa 0 14),kk 16 (.ld 1 false 15),kk 17 (.ia 1 16 (cn 0)),kk 18 (.ld 1 false 17),km 3 18] (sr [km 19 0,km 20 0,kk 21 (.nc 20),kk 22 (.fa 0 21),kk 23 (.ld 1 false 22),kk 24 (.slc 1 23 (some (cn 1)) none),kk 25 (.nc 19),kk 26 (.fa 0 25),kz (.st 1 26 24)] (sr [km 27 3,km 2 27] .ret)))))
theorem fits134:fits Tryz.prog false Tryz.f134 1 28 [(2,none)]=some c134.er:=by kernel_rfl
def c135:C:=(sr [kk 2 (.mv (cn 0))] (sr [km 6 0,kk 7 (cl 134 [6]),km 3 7] (.seq (sr [km 8 3,kk 9 (.lens 8),kk 10 (.bi false .eql 9 (cn 0)),km 11 10,kg 12 11 false (.mv 3),kg 13 11 false (.lens 12),kg 14 11 false (.bi false .gtr 13 (cn 10)),kk 15 (.pick 11 (.c (.bool true)) 14),km 16 15,kg 17 16 false (.mv 3),kg 18 16 false (cl 193 [17,(.c (.str [48,49,50,51,52,53,54,55,56,57]))]),kg 19 16 false (.bi false .neq 18 (.c (.str []))),kk 20 (.pick 16 (.c (.bool true)) 19)] (.cond 20 (sr [km 21 0,kk 22 (.nc 21),kk 23 (.fa 1 22),kz (.st 1 23 (.c (.bool true)))] (sr [kk 2 (.mv (cn 0))] .ret)) .skip)) (sr [km 25 3,kk 26 (cl 194 [25]),km 24 26,kk 27 (.ex 24 0),kk 28 (.ex 24 1),km 4 27,km 5 28] (sr [km 29 4,km 2 29] .ret)))))
theorem fits135:fits Tryz.prog false Tryz.f135 1 30 [(2,none)]=some c135.er:=by kernel_rfl
def eRw (w:List (List UInt8)) (bad:Bool):List PV:= [.sl 1 1 w.length (fl eStr w), .bool bad]
theorem fl_tail (x:List UInt8) (r:List (List UInt8)):RowEq (x::r).tail.length (fun i=>fl eStr (x::r) (1+i)) (fl eStr r):=fun i _=>by
 simp only [fl];rw [Nat.add_comm];rfl
def wLens (w:List (List UInt8)):Prop:=w.length≤65537∧∀x∈w,x.length≤65536
theorem wLens.tail {w:List (List UInt8)} (h:wLens w):wLens w.tail:=⟨by have:=h.1;rw [List.length_tail];omega,fun x hx=>h.2 x (List.mem_of_mem_tail hx)⟩
theorem wLens.head {w:List (List UInt8)} (h:wLens w):(w.headD []).length≤65536:=by
 cases w with
 | nil=>exact Nat.zero_le _
 | cons x r=>exact h.2 x (List.mem_cons_self ..)
theorem call134 (w:List (List UInt8)) (bad:Bool):PureCall Tryz.prog 134 [.pt 0 0 0] [.box (eRw w bad)] ⟨.str (w.headD []), [.box (eRw w.tail (bad || w.isEmpty))], []⟩:=by
 refine pure_call mix Tryz.func134 fits134 rfl ?_
 cases w with
 | nil=>
   rw [show (bad || ([]:List (List UInt8)).isEmpty)=true by cases bad<;>rfl]
   conv=>whnf
   refine ⟨trivial,fun hc=> ?_,fun hc=>(by cases hc)⟩
   conv=>whnf
   exact retB
 | cons x r=>
   rw [show (bad || (x::r).isEmpty)=bad by cases bad<;>rfl]
   have hq:=fl_tail x r
   conv=>whnf
   refine ⟨trivial,fun hc=> ?_,fun hc=> ?_⟩
   ·simp only [bp,List.length_cons] at hc;omega
   conv=>whnf
   refine ⟨?_, [], ?_⟩
   ·exact g0
   conv=>whnf
   refine ⟨rfl, ?_, ?_,trivial⟩<;>exact ent
def numG (w:List (List UInt8)):Int:=(numF (w.headD [])).getD 0
def numB (w:List (List UInt8)):Bool:=(numF (w.headD [])).isNone
theorem num_test (s:List UInt8):(bif bif (s.length:Int)==0 then true else decide (10<(s.length:Int)) then true else !(Lib.trimS s digT== []))=(numF s).isNone:=by
 have hn:=num_none s
 cases h:numF s with
 | none=>
   rcases hn.1 h with h | h | h
   ·rw [h];rfl
   ·rw [show ((s.length:Int)==0)=false by rw [beq_eq_false_iff_ne];omega,decide_eq_true (by omega)];rfl
   ·rw [show (Lib.trimS s digT== [])=false by rw [beq_eq_false_iff_ne];exact h];simp
 | some n=>
   have h0:¬(s.length=0∨10<s.length∨Lib.trimS s digT≠ []):=fun hh=>by rw [hn.2 hh] at h;cases h
   have h1:s.length≠0:=fun e=>h0 (.inl e)
   have h2:¬10<s.length:=fun e=>h0 (.inr (.inl e))
   have h3:Lib.trimS s digT= []:=Classical.byContradiction fun e=>h0 (.inr (.inr e))
   rw [show ((s.length:Int)==0)=false by rw [beq_eq_false_iff_ne];omega,decide_eq_false (by omega),h3];rfl
theorem call135 (w:List (List UInt8)) (bad:Bool) (hw:wLens w):PureCall Tryz.prog 135 [.pt 0 0 0] [.box (eRw w bad)] ⟨.int .i64 (numG w), [.box (eRw w.tail (bad || numB w))], []⟩:=by
 have hs:=hw.head
 have hE:w.isEmpty=true→numB w=true:=fun h=>by
  have:w= []:=by simpa using h
  subst this;rfl
 unfold numG
 unfold numB at hE⊢
 refine pure_call mix Tryz.func135 fits135 rfl ?_
 conv=>whnf
 refine ⟨_,fun _=>call134 w bad, ?_⟩
 generalize w.headD []=s at hs hE⊢
 generalize w.tail=r
 have hn:=num_none s
 conv=>whnf
 refine ⟨_,fun _=>call193 s (by omega), ?_⟩
 conv=>whnf
 refine ⟨?_,fun hc=> ?_,fun hc=> ?_⟩
 ·exact g0
 ·rw [num_test] at hc
  have h0:numF s=none:=by simpa using hc
  rw [h0]
  rw [show (bad || (none:Option Int).isNone)=true by cases bad<;>rfl]
  conv=>whnf
  exact retB
 ·rw [num_test] at hc
  obtain ⟨n,h0⟩:∃n,numF s=some n:=by
   cases h:numF s with
   | none=>rw [h] at hc;cases hc
   | some n=>exact ⟨n,rfl⟩
  have hwe:w.isEmpty=false:=by
   cases he:w.isEmpty with
   | false=>rfl
   | true=>have:=hE he;rw [h0] at this;cases this
  rw [h0,hwe]
  rw [show (bad || (some n:Option Int).isNone)=bad by cases bad<;>rfl,show (bad || false)=bad by cases bad<;>rfl]
  conv=>whnf
  refine ⟨_,fun _=>call194 s n h0, ?_⟩
  conv=>whnf
  exact retB
def c69L1:C:=(sr [kk 29 (.bi false .lss 28 (cn 5))] (.seq (.cond 29 .skip (.exit 0)) (.seq (.block 1 (sr [km 30 28,kk 31 (.ixa 5 1 false 27 28),km 8 30,km 9 31] (sr [km 32 8,kk 33 (.bi false .gtr 32 (cn 0)),km 34 33,kg 35 34 true (.mv 9),kg 36 34 true (.mv 7),kg 37 34 true (.bi false .eql 35 36),kk 38 (.pick 34 37 (.c (.bool false)))] (.cond 38 (.reg [km 39 8,kk 40 (.fa 1 5),kz (.st 1 40 39)]) .skip)))) (.reg [kk 41 (.bi false .add 28 (cn 1)),km 28 41]))))
def c69:C:=(sr [kk 2 (.al [(.int .i64 0),(.int .i64 0),(.int .i64 0),(.int .i64 0),(.int .i64 0),(.int .i64 0),(.int .i64 0)]),kk 3 (.mv (.c (.bool false)))] (.scope (sr [km 10 0,kk 11 (.bd [(.nil 1),(.bool false)] [(0,1,10)]),kk 12 (.bx 2 11),km 4 12] (sr [kk 13 (.bd [(.int .i64 0),(.int .i64 0)] [(1,1,(cn 364))]),kk 14 (.bd [(.int .i64 0),(.int .i64 0),(.int .i64 0),(.int .i64 0),(.int .i64 0),(.int .i64 0),(.int .i64 0)] [(3,2,13),(6,1,(cn 16777216))]),kk 5 (.al [(.int .i64 0),(.int .i64 0),(.int .i64 0),(.int .i64 0),(.int .i64 0),(.int .i64 0),(.int .i64 0)]),kz (.st 7 5 14)] (sr [kk 15 (.mkm [.s] [.b] false false),km 6 15] (sr [km 16 4,km 17 4,kk 18 (cl 134 [17]),kk 19 (.bi false .neq 18 (.c (.str [114,97,110,107]))),kk 20 (.nc 16),kk 21 (.fa 1 20),kz (.st 1 21 19)] (sr [km 22 4,kk 23 (cl 135 [22]),kk 24 (.fa 0 5),kz (.st 1 24 23)] (sr [km 25 4,kk 26 (cl 134 [25]),km 7 26] (.seq (sr [kk 27 (.ld 5 true (.c (.rp 1 [(.str []),(.str [108,101,97,115,116]),(.str [109,111,115,116]),(.str [117,112]),(.str [100,111,119,110])]))),kk 28 (.mv (cn 0))] (.block 0 (.loop c69L1))) (sr [km 42 4,km 43 4,kk 44 (.nc 43),kk 45 (.fa 1 44),kk 46 (.ld 1 false 45),km 47 46,kg 48 47 false (.fa 1 5),kg 49 47 false (.ld 1 false 48),kg 50 47 false (.bi false .eql 49 (cn 0)),kk 51 (.pick 47 (.c (.bool true)) 50),kk 52 (.nc 42),kk 53 (.fa 1 52),kz (.st 1 53 51)] (sr [km 54 4,kk 55 (cl 135 [54]),kk 56 (.fa 2 5),kz (.st 1 56 55)] (.cut (.seq (.lab 0) (.seq (sr [km 57 4,kk 58 (.nc 57),kk 59 (.fa 1 58),kk 60 (.ld 1 false 59),km 61 60,kg 62 61 false (.mv 4),kg 63 61 false (.nc 62),kg 64 61 false (.fa 0 63),kg 65 61 false (.ld 1 false 64),kg 66 61 false (.len 65),kg 67 61 false (.bi false .eql 66 (cn 0)),kk 68 (.pick 61 (.c (.bool true)) 67)] (.cond 68 (.seq (.drw [kk 69 (.ld 7 true 5),km 70 4,kk 71 (.nc 70),kk 72 (.fa 1 71),kk 73 (.ld 1 false 72),kk 74 (.un false .not 73),kz (.st 7 2 69),km 3 74] (pl [(0,[1,2,3,4,5],69),(1,[6],70),(2,[6],71),(3,[6],72),(4,[6],73),(5,[6],74)])) .ret) .skip)) (sr [km 75 4,kk 76 (cl 134 [75]),km 7 76] (sr [km 77 4,km 78 6,km 79 7,kk 80 (.mpg [.s] [.b] false false false 78 79),kk 81 (.nc 77),kk 82 (.fa 1 81),kz (.st 1 82 80)] (sr [km 83 6,km 84 7,kz (.mpu [.s] [.b] false false 83 84 (.c (.bool true)))] (.seq (sr [km 85 7] (.block 2 (sr [kk 90 (.bi false .eql 85 (.c (.str [100,97,121,115]))),km 89 90] (.cond 89 (.reg [km 91 4,kk 92 (cl 135 [91]),km 93 4,kk 94 (cl 135 [93]),kk 95 (.bd [(.int .i64 0),(.int .i64 0)] [(0,1,92),(1,1,94)]),kk 96 (.fa 3 5),kz (.st 2 96 95)]) (sr [kk 98 (.bi false .eql 85 (.c (.str [97,98,111,118,101]))),km 97 98] (.cond 97 (.reg [km 99 4,kk 100 (cl 135 [99]),kk 101 (.fa 5 5),kz (.st 1 101 100)]) (sr [kk 103 (.bi false .eql 85 (.c (.str [98,101,108,111,119]))),km 102 103] (.cond 102 (.reg [km 104 4,kk 105 (cl 135 [104]),kk 106 (.fa 6 5),kz (.st 1 106 105)]) (.reg [km 86 4,kk 87 (.nc 86),kk 88 (.fa 1 87),kz (.st 1 88 (.c (.bool true)))]))))))))) (.gto 0)))))))))))))))))))
theorem fits69:fits Tryz.prog false Tryz.f69 1 107 [(2,some (7,true)),(3,none)]=some c69.er:=by kernel_rfl
section
variable {P:Program} {s:PS} {wr:Bool} {np n:Nat} {Q:Lv→PS→Prop} {b:C}
theorem LSem.jumps2 (hmix:P.follows .mixedOrders=true) {α:Type} (l:Nat) (r:C) (hr:C.from l b=some r) (I:α→Prop) (fl:α→List (Nat×PV)) (sl:α→List (Nat×SE)) (μ:α→Nat)
  (pass:∀x,I x→∀J:PS→Prop,(∀s',(s'.ok∧∃x',I x'∧μ x'<μ x∧Ent np s' n (fl x') (sl x'))→J s')→vc (PureCall P) (LSem P wr np) r (jmps l J Q) (St n (fl x) (sl x)))
  (first:∀J:PS→Prop,(∀x,I x→vc (PureCall P) (LSem P wr np) r (jmps l J Q) (St n (fl x) (sl x)))→vc (PureCall P) (LSem P wr np) b (jmps l J Q) s):LSem P wr np (.scope b) Q s:=
 LSem.jumps hmix l r hr I fl sl μ (first _ fun x hx=>pass x hx _ fun _ ⟨h0,x',h1,_,h3⟩=>⟨h0,x',h1,h3⟩) fun x hx=>pass x hx _ fun _ h=>h
end
def partsG:Nat→Cd→Bool→Bool→Bool→Bool→List (List UInt8)→Cd×Bool
 | 0,c,bad,_,_,_,_=>(c, !bad)
 | n+1,c,bad,d,a,b,w=>if bad=true then (c,false) else match w with
   | []=>(c,true)
   | x::r=>if x=wDays then partsG n { c with f:=numG r,u:=numG r.tail } ((d || numB r) || numB r.tail) true a b r.tail.tail
     else if x=wAbove then partsG n { c with a:=numG r } (a || numB r) d true b r.tail
     else if x=wBelow then partsG n { c with b:=numG r } (b || numB r) d a true r.tail
     else (c,false)
def kU (w:List UInt8):Nat→Int
 | 0=>0
 | i+1=>if 0<i∧kindWords.getD i []=w then i else kU w i
theorem kU_kind (w:List UInt8):kU w 5=kindOf w:=by
 by_cases h1:w=wLeast
 ·subst h1;decide
 by_cases h2:w=wMost
 ·subst h2;decide
 by_cases h3:w=wUp
 ·subst h3;decide
 by_cases h4:w=wDown
 ·subst h4;decide
 unfold kindOf
 rw [if_neg h1,if_neg h2,if_neg h3,if_neg h4]
 unfold kU;rw [if_neg (fun h=>h4 h.2.symm)]
 unfold kU;rw [if_neg (fun h=>h3 h.2.symm)]
 unfold kU;rw [if_neg (fun h=>h2 h.2.symm)]
 unfold kU;rw [if_neg (fun h=>h1 h.2.symm)]
 unfold kU;rw [if_neg (fun h=>absurd h.1 (Nat.lt_irrefl 0))]
 rfl
def headG (w:List (List UInt8)):Cd×Bool:=
 (⟨numG w.tail,kindOf (w.tail.tail.headD []),numG w.tail.tail.tail,0,364,0,16777216⟩,
  (((!(w.headD []==wRank)) || numB w.tail) || w.tail.tail.isEmpty || (kindOf (w.tail.tail.headD [])==0)) || numB w.tail.tail.tail)
def condG (w:List (List UInt8)):Cd×Bool:=partsG (w.length+1) (headG w).1 (headG w).2 false false false w.tail.tail.tail.tail
theorem call69 (w:List (List UInt8)) (hw:wLens w):PureCall Tryz.prog 69 [.sl 1 1 w.length (fl eStr w)] [] ⟨.tup [.agg (eCd (condG w).1), .bool (condG w).2], [], []⟩:=by
 refine pure_call mix Tryz.func69 fits69 rfl ?_
 conv=>whnf
 refine ⟨trivial, ?_⟩
 refine LSem.jumps2 (n:=107) mix (α:=(Nat×Cd×Bool×Bool×Bool×Bool)×List (List UInt8)×(List PC→Bool)×(List PC→List PC)) 0 _ rfl
  (fun ⟨⟨n,c,bad,d,a,b⟩,w',h,f⟩=>wLens w'∧w'.length<n∧(f [.s wDays]= [.b d]∧f [.s wAbove]= [.b a]∧f [.s wBelow]= [.b b]∧∀k,∃z,f [.s k]= [.b z])∧partsG n c bad d a b w'=condG w)
  (fun ⟨⟨n,c,bad,d,a,b⟩,w',h,f⟩=> [(2, .pt 32 0 0),(4, .pt 192 0 0),(5, .pt 80 0 0),(6, .rf none 240)])
  (fun ⟨⟨n,c,bad,d,a,b⟩,w',h,f⟩=> [(32, .box [.int .i64 0, .int .i64 0, .int .i64 0, .int .i64 0, .int .i64 0, .int .i64 0, .int .i64 0]),(80, .box (eCd c)),(192, .box (eRw w' bad)),(240, .box [.mpv [.s] [.b] false false h f])])
  (fun x=>x.1.1) ?_ ?_
 ·rintro ⟨⟨n,c,bad,d,a,b⟩,w',h,f⟩ ⟨h1,h2,⟨h3,h4,h5,h6⟩,h7⟩ J hJ
  obtain ⟨n,rfl⟩:∃m,n=m+1:=⟨n - 1,by omega⟩
  cases bad with
  | true=>
    rw [show condG w=(c,false) from h7.symm]
    conv=>whnf
    refine ⟨?_,fun hc=> ?_,fun hc=>(by cases hc)⟩
    ·exact g0
    conv=>whnf
    refine ⟨rfl, ?_⟩
    conv=>whnf
    refine ⟨?_, [], ?_⟩
    ·exact g0
    conv=>whnf
    refine ⟨rfl, ?_,trivial,trivial⟩
    exact ent
  | false=>
    cases w' with
    | nil=>
      rw [show condG w=(c,true) from h7.symm]
      conv=>whnf
      refine ⟨?_,fun hc=> ?_,fun hc=>(by cases hc)⟩
      ·exact g0
      conv=>whnf
      refine ⟨rfl, ?_⟩
      conv=>whnf
      refine ⟨?_, [], ?_⟩
      ·exact g0
      conv=>whnf
      refine ⟨rfl, ?_,trivial,trivial⟩
      exact ent
    | cons x r=>
      conv=>whnf
      refine ⟨?_,fun hc=> ?_,fun hc=> ?_⟩
      ·exact g0
      ·simp only [bp,List.length_cons] at hc;omega
      clear hc
      conv=>whnf
      have hN:PureCall Tryz.prog 134 [.pt 0 0 0] [.box (eRw (x::r) false)] ⟨.str x, [.box (eRw r false)], []⟩:=call134 (x::r) false
      have hr:wLens r:=h1.tail
      have h2':r.length<n:=by rw [List.length_cons] at h2;omega
      have hne:∀u v:List UInt8,u≠v→eqK [.s u] [.s v]=false:=fun u v h=>by
       show (u==v&&true)=false
       rw [beq_eq_false_iff_ne.2 h];rfl
      have heq:∀u:List UInt8,eqK [.s u] [.s u]=true:=fun u=>by
       show (u==u&&true)=true
       rw [beq_self_eq_true];rfl
      refine ⟨_,fun _=>hN, ?_⟩
      by_cases e1:x=wDays
      ·subst e1
       have hB:boolP ((f [.s wDays]).headD default)=d:=by rw [h3];rfl
       conv=>whnf
       refine ⟨?_,fun hc=> ?_,fun hc=>absurd hc (by decide)⟩
       ·exact g0
       conv=>whnf
       refine ⟨_,fun _=>call135 r (boolP ((f [.s wDays]).headD default)) hr, ?_⟩
       conv=>whnf
       refine ⟨_,fun _=>call135 r.tail (boolP ((f [.s wDays]).headD default) || numB r) hr.tail, ?_⟩
       conv=>whnf
       apply hJ
       refine ⟨?_,((n,{ c with f:=numG r,u:=numG r.tail },(boolP ((f [.s wDays]).headD default) || numB r) || numB r.tail,true,a,b),r.tail.tail,(fun k=>eqK k [.s wDays] || h k),(fun k=>bif eqK k [.s wDays] then [.b true] else f k)),⟨hr.tail.tail, ?_,⟨?_, ?_, ?_, ?_⟩, ?_⟩, ?_,rfl,rfl, ?_, ?_⟩
       ·exact g0
       ·simp only [List.length_tail];omega
       ·dsimp only;rw [heq];rfl
       ·dsimp only;rw [hne _ _ (by decide)];exact h4
       ·dsimp only;rw [hne _ _ (by decide)];exact h5
       ·intro k
        dsimp only
        cases eqK [.s k] [.s wDays]
        ·exact h6 k
        ·exact ⟨true,rfl⟩
       ·rw [hB,←h7];rfl
       ·exact Nat.lt_succ_self n
       ·exact ent
       ·exact ent
      by_cases e2:x=wAbove
      ·subst e2
       have hB:boolP ((f [.s wAbove]).headD default)=a:=by rw [h4];rfl
       conv=>whnf
       refine ⟨?_,fun hc=>absurd hc (by decide),fun hc=> ?_⟩
       ·exact g0
       conv=>whnf
       refine ⟨?_,fun hc=> ?_,fun hc=>absurd hc (by decide)⟩
       ·exact g0
       conv=>whnf
       refine ⟨_,fun _=>call135 r (boolP ((f [.s wAbove]).headD default)) hr, ?_⟩
       conv=>whnf
       apply hJ
       refine ⟨?_,((n,{ c with a:=numG r },boolP ((f [.s wAbove]).headD default) || numB r,d,true,b),r.tail,(fun k=>eqK k [.s wAbove] || h k),(fun k=>bif eqK k [.s wAbove] then [.b true] else f k)),⟨hr.tail, ?_,⟨?_, ?_, ?_, ?_⟩, ?_⟩, ?_,rfl,rfl, ?_, ?_⟩
       ·exact g0
       ·simp only [List.length_tail];omega
       ·dsimp only;rw [hne _ _ (by decide)];exact h3
       ·dsimp only;rw [heq];rfl
       ·dsimp only;rw [hne _ _ (by decide)];exact h5
       ·intro k
        dsimp only
        cases eqK [.s k] [.s wAbove]
        ·exact h6 k
        ·exact ⟨true,rfl⟩
       ·rw [hB,←h7];rfl
       ·exact Nat.lt_succ_self n
       ·exact ent
       ·exact ent
      by_cases e3:x=wBelow
      ·subst e3
       have hB:boolP ((f [.s wBelow]).headD default)=b:=by rw [h5];rfl
       conv=>whnf
       refine ⟨?_,fun hc=>absurd hc (by decide),fun hc=> ?_⟩
       ·exact g0
       conv=>whnf
       refine ⟨?_,fun hc=>absurd hc (by decide),fun hc=> ?_⟩
       ·exact g0
       conv=>whnf
       refine ⟨?_,fun hc=> ?_,fun hc=>absurd hc (by decide)⟩
       ·exact g0
       conv=>whnf
       refine ⟨_,fun _=>call135 r (boolP ((f [.s wBelow]).headD default)) hr, ?_⟩
       conv=>whnf
       apply hJ
       refine ⟨?_,((n,{ c with b:=numG r },boolP ((f [.s wBelow]).headD default) || numB r,d,a,true),r.tail,(fun k=>eqK k [.s wBelow] || h k),(fun k=>bif eqK k [.s wBelow] then [.b true] else f k)),⟨hr.tail, ?_,⟨?_, ?_, ?_, ?_⟩, ?_⟩, ?_,rfl,rfl, ?_, ?_⟩
       ·exact g0
       ·simp only [List.length_tail];omega
       ·dsimp only;rw [hne _ _ (by decide)];exact h3
       ·dsimp only;rw [hne _ _ (by decide)];exact h4
       ·dsimp only;rw [heq];rfl
       ·intro k
        dsimp only
        cases eqK [.s k] [.s wBelow]
        ·exact h6 k
        ·exact ⟨true,rfl⟩
       ·rw [hB,←h7];rfl
       ·exact Nat.lt_succ_self n
       ·exact ent
       ·exact ent
      have hG:(c,false)=condG w:=by
       rw [←h7];unfold partsG;dsimp only;rw [if_neg (by decide),if_neg e1,if_neg e2,if_neg e3]
      conv=>whnf
      refine ⟨?_,fun hc=>absurd (eq_of_beq hc) e1,fun hc=> ?_⟩
      ·exact g0
      conv=>whnf
      refine ⟨?_,fun hc=>absurd (eq_of_beq hc) e2,fun hc=> ?_⟩
      ·exact g0
      conv=>whnf
      refine ⟨?_,fun hc=>absurd (eq_of_beq hc) e3,fun hc=> ?_⟩
      ·exact g0
      conv=>whnf
      apply hJ
      refine ⟨?_,((n,c,true,d,a,b),r,(fun k=>eqK k [.s x] || h k),(fun k=>bif eqK k [.s x] then [.b true] else f k)),⟨hr,h2',⟨?_, ?_, ?_, ?_⟩, ?_⟩, ?_,rfl,rfl, ?_, ?_⟩
      ·exact g0
      ·dsimp only;rw [hne _ _ (fun e=>e1 e.symm)];exact h3
      ·dsimp only;rw [hne _ _ (fun e=>e2 e.symm)];exact h4
      ·dsimp only;rw [hne _ _ (fun e=>e3 e.symm)];exact h5
      ·intro k
       dsimp only
       cases eqK [.s k] [.s x]
       ·exact h6 k
       ·exact ⟨true,rfl⟩
      ·rw [←hG];cases n<;>rfl
      ·exact Nat.lt_succ_self n
      ·exact ent
      ·exact ent
 ·intro J hJ
  have hw1:=hw.tail
  have hw2:=hw1.tail
  have hw3:=hw2.tail
  conv=>whnf
  refine ⟨_,fun _=>call134 w false, ?_⟩
  conv=>whnf
  refine ⟨_,fun _=>call135 w.tail (!(w.headD []==wRank)) hw1, ?_⟩
  conv=>whnf
  refine ⟨_,fun _=>call134 w.tail.tail ((!(w.headD []==wRank)) || numB w.tail), ?_⟩
  conv=>whnf
  refine ⟨?_, ?_⟩
  ·exact g0
  refine LSem.loop (n:=107) mix (α:=Nat) (fun i=>i≤5)
   (fun i=> [(2, .pt 32 0 0),(4, .pt 192 0 0),(5, .pt 80 0 0),(6, .rf none 240),(7, .str (w.tail.tail.headD [])),(27, .agg [.str [], .str wLeast, .str wMost, .str wUp, .str wDown]),(28, .int .i64 i)])
   (fun i=> [(32, .box [.int .i64 0, .int .i64 0, .int .i64 0, .int .i64 0, .int .i64 0, .int .i64 0, .int .i64 0]),(80, .box (eCd ⟨numG w.tail,kU (w.tail.tail.headD []) i,0,0,364,0,16777216⟩)),(192, .box (eRw w.tail.tail.tail (((!(w.headD []==wRank)) || numB w.tail) || w.tail.tail.isEmpty))),(240, .box [.mpv [.s] [.b] false false (fun _=>false) (fun _=> [.b false])])]) (fun i=>5 - i) 0 ?_ ?_ ?_
  ·exact Nat.zero_le _
  ·refine ⟨rfl,rfl, ?_, ?_⟩<;>exact ent
  ·intro i hi
   have hcs:i=0∨i=1∨i=2∨i=3∨i=4∨i=5:=by omega
   rcases hcs with rfl | rfl | rfl | rfl | rfl | rfl
   ·conv=>whnf
    refine ⟨trivial,fun hc=> ?_,fun hc=>(by cases hc)⟩
    conv=>whnf
    refine ⟨?_,fun hc=>(by cases hc),fun hc=> ?_⟩
    ·exact g0
    conv=>whnf
    refine ⟨?_,1,by omega,by omega,rfl,rfl, ?_, ?_⟩
    ·exact g0
    ·exact ent
    ·exact ent
   ·conv=>whnf
    refine ⟨trivial,fun hc=> ?_,fun hc=>(by cases hc)⟩
    conv=>whnf
    refine ⟨?_,fun hc=> ?_,fun hc=> ?_⟩
    ·exact g0
    ·have hk:(1:Int)=kU (w.tail.tail.headD []) 2:=by
       have he:wLeast=w.tail.tail.headD []:=eq_of_beq hc
       unfold kU;rw [if_pos ⟨by decide,he⟩];rfl
     conv=>whnf
     refine ⟨?_,2,by omega,by omega,rfl,rfl, ?_, ?_⟩
     ·exact g0
     ·exact ent
     ·exact ent
    ·have hk:kU (w.tail.tail.headD []) 1=kU (w.tail.tail.headD []) 2:=by
       have he:¬wLeast=w.tail.tail.headD []:=ne_of_beq_false hc
       rw [show kU (w.tail.tail.headD []) 2=if 0<1∧kindWords.getD 1 []=w.tail.tail.headD [] then 1 else kU (w.tail.tail.headD []) 1 from rfl,if_neg (fun h=>he h.2)]
     conv=>whnf
     refine ⟨?_,2,by omega,by omega,rfl,rfl, ?_, ?_⟩
     ·exact g0
     ·exact ent
     ·exact ent
   ·conv=>whnf
    refine ⟨trivial,fun hc=> ?_,fun hc=>(by cases hc)⟩
    conv=>whnf
    refine ⟨?_,fun hc=> ?_,fun hc=> ?_⟩
    ·exact g0
    ·have hk:(2:Int)=kU (w.tail.tail.headD []) 3:=by
       have he:wMost=w.tail.tail.headD []:=eq_of_beq hc
       unfold kU;rw [if_pos ⟨by decide,he⟩];rfl
     conv=>whnf
     refine ⟨?_,3,by omega,by omega,rfl,rfl, ?_, ?_⟩
     ·exact g0
     ·exact ent
     ·exact ent
    ·have hk:kU (w.tail.tail.headD []) 2=kU (w.tail.tail.headD []) 3:=by
       have he:¬wMost=w.tail.tail.headD []:=ne_of_beq_false hc
       rw [show kU (w.tail.tail.headD []) 3=if 0<2∧kindWords.getD 2 []=w.tail.tail.headD [] then 2 else kU (w.tail.tail.headD []) 2 from rfl,if_neg (fun h=>he h.2)]
     conv=>whnf
     refine ⟨?_,3,by omega,by omega,rfl,rfl, ?_, ?_⟩
     ·exact g0
     ·exact ent
     ·exact ent
   ·conv=>whnf
    refine ⟨trivial,fun hc=> ?_,fun hc=>(by cases hc)⟩
    conv=>whnf
    refine ⟨?_,fun hc=> ?_,fun hc=> ?_⟩
    ·exact g0
    ·have hk:(3:Int)=kU (w.tail.tail.headD []) 4:=by
       have he:wUp=w.tail.tail.headD []:=eq_of_beq hc
       unfold kU;rw [if_pos ⟨by decide,he⟩];rfl
     conv=>whnf
     refine ⟨?_,4,by omega,by omega,rfl,rfl, ?_, ?_⟩
     ·exact g0
     ·exact ent
     ·exact ent
    ·have hk:kU (w.tail.tail.headD []) 3=kU (w.tail.tail.headD []) 4:=by
       have he:¬wUp=w.tail.tail.headD []:=ne_of_beq_false hc
       rw [show kU (w.tail.tail.headD []) 4=if 0<3∧kindWords.getD 3 []=w.tail.tail.headD [] then 3 else kU (w.tail.tail.headD []) 3 from rfl,if_neg (fun h=>he h.2)]
     conv=>whnf
     refine ⟨?_,4,by omega,by omega,rfl,rfl, ?_, ?_⟩
     ·exact g0
     ·exact ent
     ·exact ent
   ·conv=>whnf
    refine ⟨trivial,fun hc=> ?_,fun hc=>(by cases hc)⟩
    conv=>whnf
    refine ⟨?_,fun hc=> ?_,fun hc=> ?_⟩
    ·exact g0
    ·have hk:(4:Int)=kU (w.tail.tail.headD []) 5:=by
       have he:wDown=w.tail.tail.headD []:=eq_of_beq hc
       unfold kU;rw [if_pos ⟨by decide,he⟩];rfl
     conv=>whnf
     refine ⟨?_,5,by omega,by omega,rfl,rfl, ?_, ?_⟩
     ·exact g0
     ·exact ent
     ·exact ent
    ·have hk:kU (w.tail.tail.headD []) 4=kU (w.tail.tail.headD []) 5:=by
       have he:¬wDown=w.tail.tail.headD []:=ne_of_beq_false hc
       rw [show kU (w.tail.tail.headD []) 5=if 0<4∧kindWords.getD 4 []=w.tail.tail.headD [] then 4 else kU (w.tail.tail.headD []) 4 from rfl,if_neg (fun h=>he h.2)]
     conv=>whnf
     refine ⟨?_,5,by omega,by omega,rfl,rfl, ?_, ?_⟩
     ·exact g0
     ·exact ent
     ·exact ent
   ·conv=>whnf
    refine ⟨trivial,fun hc=>(by cases hc),fun hc=> ?_⟩
    rw [kU_kind]
    conv=>whnf
    refine ⟨_,fun _=>call135 w.tail.tail.tail (bif ((!(w.headD []==wRank)) || numB w.tail) || w.tail.tail.isEmpty then true else kindOf (w.tail.tail.headD [])==0) hw3, ?_⟩
    conv=>whnf
    refine ⟨?_, ?_⟩
    ·exact g0
    refine LSem.cut mix (fl:= [(2, .pt 32 0 0),(4, .pt 192 0 0),(5, .pt 80 0 0),(6, .rf none 240)])
     (sl:= [(32, .box [.int .i64 0, .int .i64 0, .int .i64 0, .int .i64 0, .int .i64 0, .int .i64 0, .int .i64 0]),(80, .box (eCd (headG w).1)),(192, .box (eRw w.tail.tail.tail.tail (headG w).2)),(240, .box [.mpv [.s] [.b] false false (fun _=>false) (fun _=> [.b false])])]) ?_
     (hJ ((w.length+1,(headG w).1,(headG w).2,false,false,false),w.tail.tail.tail.tail,_,_) ⟨hw3.tail,by simp only [List.length_tail];omega,⟨rfl,rfl,rfl,fun k=>⟨false,rfl⟩⟩,rfl⟩)
    have hB:((bif ((!(w.headD []==wRank)) || numB w.tail) || w.tail.tail.isEmpty then true else kindOf (w.tail.tail.headD [])==0) || numB w.tail.tail.tail)=(headG w).2:=by
     unfold headG
     dsimp only
     cases ((!(w.headD []==wRank)) || numB w.tail) || w.tail.tail.isEmpty<;>rfl
    rw [hB]
    refine ⟨rfl,rfl, ?_, ?_⟩<;>exact ent
def c133:C:=(sr [kk 2 (.mv (.c (.nil 1)))] (sr [km 3 0,kk 4 (cl 149 [3,(.c (.fn (.func 192) [] []))]),km 2 4] .ret))
theorem fits133:fits Tryz.prog false Tryz.f133 1 5 [(2,none)]=some c133.er:=by kernel_rfl
def c68L1:C:=(sr [kk 11 (.bi false .lss 10 9)] (.seq (.cond 11 .skip (.exit 0)) (.seq (.block 1 (sr [km 12 10,kk 13 (.ia 1 8 10),kk 14 (.ld 1 false 13),km 4 12,km 5 14] (sr [km 15 5,kk 16 (cl 133 [15]),km 6 16] (sr [km 17 6,kk 18 (.len 17),kk 19 (.bi false .gtr 18 (cn 0)),km 20 19,kg 21 20 true (.mv 6),kg 22 20 true (.ia 1 21 (cn 0)),kg 23 20 true (.ld 1 false 22),kg 24 20 true (.ixs 23 (cn 0)),kg 25 20 true (.bi false .neq 24 (.c (.int .u8 35))),kk 26 (.pick 20 25 (.c (.bool false)))] (.cond 26 (.reg [km 27 3,km 28 4,kk 29 (.bi false .add 28 (cn 1)),km 30 6,kk 31 (.bd [(.int .i64 0),(.nil 1)] [(0,1,29),(1,1,30)]),kk 32 (.bs 183 2 [31]),kk 33 (.app 183 2 32 27 32),km 3 33]) .skip))))) (.reg [kk 34 (.bi false .add 10 (cn 1)),km 10 34]))))
def c68:C:=(sr [kk 2 (.mv (.c (.nil 2)))] (sr [kk 3 (.mv (.c (.nil 2)))] (.seq (sr [km 7 0,kk 8 (cl 132 [7,(.c (.str [10]))]),kk 9 (.len 8),kk 10 (.mv (cn 0))] (.block 0 (.loop c68L1))) (sr [km 35 3,km 2 35] .ret))))
theorem fits68:fits Tryz.prog false Tryz.f68 1 36 [(2,none)]=some c68.er:=by kernel_rfl
theorem call133 (s:List UInt8) (h:s.length≤65536):PureCall Tryz.prog 133 [.str s] [] ⟨.os 1000000000, [], [.row 0 9 1 (wordsB isBl s).length (fl eStr (wordsB isBl s))]⟩:=by
 refine pure_call mix Tryz.func133 fits133 rfl ?_
 conv=>whnf
 refine ⟨_,fun _=>call149 s h, ?_⟩
 conv=>whnf
 refine ⟨?_, [64], ?_⟩
 ·exact g0
 conv=>whnf
 refine ⟨rfl, ?_,trivial, ?_⟩<;>exact ent
def cntd:List (List UInt8)→Bool
 | []=>false
 | x::_=> !(x.getD 0 0==35)
def linL:Int→List (List (List UInt8))→List (Int×List (List UInt8))
 | _, []=> []
 | i,w::r=>if cntd w=true then (i+1,w)::linL (i+1) r else linL (i+1) r
def eLn (x:Int×List (List UInt8)):List PV:= [.int .i64 x.1, .sl 0 1 x.2.length (fl eStr x.2)]
def linesW (s:List UInt8):List (List (List UInt8)):=(splitC 10 s).map (wordsB isBl)
theorem linesW_getD {s:List UInt8} {i:Nat} (h:i<(splitC 10 s).length):(linesW s).getD i default=wordsB isBl ((splitC 10 s).getD i default):=by
 simp [linesW,List.getD,h]
theorem linesW_len (s:List UInt8):(linesW s).length=(splitC 10 s).length:=by simp [linesW]
theorem linL_drop {W:List (List (List UInt8))} {i:Nat} (h:i<W.length):linL (i:Int) (W.drop i)=if cntd (W.getD i default)=true then ((i:Int)+1,W.getD i default)::linL ((i:Int)+1) (W.drop (i+1)) else linL ((i:Int)+1) (W.drop (i+1)):=by
 rw [List.drop_eq_getElem_cons h]
 have:W.getD i default=W[i]:=by simp [List.getD,h]
 rw [this];rfl
theorem call68 (s:List UInt8) (hs:s.length≤65536):PureCall Tryz.prog 68 [.str s] [] ⟨.os 1000000000, [], [.row 0 183 2 (linL 0 (linesW s)).length (fl eLn (linL 0 (linesW s)))]⟩:=by
 obtain ⟨L,hL⟩:∃L,L=splitC 10 s:=⟨_,rfl⟩
 obtain ⟨W,hW⟩:∃W,W=linesW s:=⟨_,rfl⟩
 have hWl:W.length=L.length:=by rw [hW,hL,linesW_len]
 have hLl:L.length≤65537:=by have:=(splitC_len 10 s).1;rw [←hL] at this;omega
 have hWg:∀i,i<L.length→W.getD i default=wordsB isBl (L.getD i default):=fun i hi=>by
  rw [hW,linesW_getD (by rw [←hL];exact hi),hL]
 have hLm:∀i,i<L.length→(L.getD i default).length≤65536:=fun i hi=>by
  have:=(splitC_len 10 s).2 (L.getD i default) (by rw [←hL];exact getD_mem hi);omega
 refine pure_call mix Tryz.func68 fits68 rfl ?_
 conv=>whnf
 refine ⟨_,fun _=>call132 s 10 (by omega), ?_⟩
 rw [←hL,←hW]
 conv=>whnf
 refine ⟨?_, ?_⟩
 ·exact g0
 refine LSem.adopt 3 1000000 183 2 2 rfl rfl ?_
 refine LSem.loop (n:=36) mix (α:=Nat×List (Int×List (List UInt8))) (fun x=>x.1≤L.length∧x.2.length≤x.1∧x.2++linL (x.1:Int) (W.drop x.1)=linL 0 W)
  (fun x=> [(3, .os 1000000),(8, .os 128),(9, .int .i64 L.length),(10, .int .i64 x.1)])
  (fun x=> [(1000000, .row 0 183 2 x.2.length (fl eLn x.2)),(128, .row 0 9 1 L.length (fl eStr L))]) (fun x=>L.length - x.1) (0, []) ?_ ?_ ?_
 ·exact ⟨Nat.zero_le _,Nat.le_refl _,rfl⟩
 ·refine ⟨rfl,rfl, ?_, ?_⟩<;>exact ent
 ·rintro ⟨i,out⟩ ⟨hi,ho,hp⟩
  dsimp only at hi ho hp
  have hj:((i:Int)).toNat=i:=by omega
  conv=>whnf
  refine ⟨trivial,fun hc=> ?_,fun hc=> ?_⟩
  ·replace hc:=of_decide_eq_true hc
   have hlt:i<L.length:=by
    have h:(i:Int)<L.length:=hc
    omega
   rw [linL_drop (by omega)] at hp
   have hWi:=hWg i hlt
   have hok:=words_ok isBl (L.getD i default)
   conv=>whnf
   dsimp only
   rw [hj]
   refine ⟨_,fun _=>call133 (L.getD i default) (hLm i hlt), ?_⟩
   rw [←hWi] at hok⊢
   generalize W.getD i default=w at hp hok⊢
   cases w with
   | nil=>
     rw [if_neg (by decide)] at hp
     conv=>whnf
     refine ⟨?_,fun h=>(by cases h),fun _=> ?_⟩
     ·exact g0
     conv=>whnf
     refine ⟨?_,(i+1,out),⟨hlt,by dsimp only;omega,hp⟩, ?_,rfl,rfl, ?_, ?_⟩
     ·exact g0
     ·dsimp only;omega
     ·exact ent
     ·exact ent
   | cons x r=>
     have hx:=(hok x (List.mem_cons_self ..)).1
     have hxl:0<x.length:=List.length_pos_iff.2 hx
     have hcn:cntd (x::r)= !(x.getD 0 0==35):=rfl
     have h35:(((x.getD 0 0).toNat:Int) != 35)= !(x.getD 0 0==35):=by
      rw [Bool.eq_iff_iff]
      simp only [bne_iff_ne,ne_eq,Bool.not_eq_true',beq_eq_false_iff_ne]
      constructor
      ·intro h e;rw [e] at h;exact h rfl
      ·intro h e;exact h (UInt8.toNat_inj.1 (by show _=35;omega))
     rw [hcn,←h35] at hp
     have hd:decide ((0:Int)<(((x::r).length:Nat):Int))=true:=decide_eq_true (by rw [List.length_cons];omega)
     conv=>whnf
     refine ⟨?_,fun h=> ?_,fun h=> ?_⟩
     ·exact g1
     ·replace h:(((x.getD 0 0).toNat:Int) != 35)=true:=by rw [hd] at h;exact h
      rw [if_pos h] at hp
      have q:=fl_push eLn out ((i:Int)+1,x::r)
      have hol:(out++ [((i:Int)+1,x::r)]).length=out.length+1:=by simp
      conv=>whnf
      refine ⟨?_,(i+1,out++ [((i:Int)+1,x::r)]),⟨hlt,by dsimp only;rw [hol];omega,by dsimp only;rw [List.append_assoc];exact hp⟩, ?_,rfl,rfl, ?_, ?_⟩
      ·exact g0
      ·dsimp only;omega
      ·exact ent
      ·exact ent
     ·replace h:(((x.getD 0 0).toNat:Int) != 35)=false:=by rw [hd] at h;exact h
      rw [if_neg (by rw [h];decide)] at hp
      conv=>whnf
      refine ⟨?_,(i+1,out),⟨hlt,by dsimp only;omega,hp⟩, ?_,rfl,rfl, ?_, ?_⟩
      ·exact g0
      ·dsimp only;omega
      ·exact ent
      ·exact ent
  ·replace hc:=of_decide_eq_false hc
   have hk:i=L.length:=by
    have h:¬(i:Int)<L.length:=hc
    omega
   subst hk
   rw [←hWl,List.drop_length] at hp
   rw [show linL 0 W=out by rw [←hp];exact List.append_nil out]
   conv=>whnf
   refine ⟨?_, [1000000], ?_⟩
   ·exact g0
   conv=>whnf
   refine ⟨rfl, ?_,trivial, ?_⟩<;>exact ent
theorem splitP_len (p:UInt8→Bool):∀s:List UInt8,(splitP p s).length≤s.length+1∧∀x∈splitP p s,x.length≤s.length
 | []=>by simp [splitP]
 | x::xs=>by
   obtain ⟨h1,h2⟩:=splitP_len p xs
   simp only [splitP]
   split
   ·refine ⟨by simp only [List.length_cons];omega,fun y hy=> ?_⟩
    rcases List.mem_cons.1 hy with rfl | hy
    ·simp
    ·have:=h2 y hy;simp only [List.length_cons];omega
   ·split
    ·simp
    ·rename_i h t he
     rw [he] at h1 h2
     refine ⟨by simp only [List.length_cons] at h1⊢;omega,fun y hy=> ?_⟩
     rcases List.mem_cons.1 hy with rfl | hy
     ·have:=h2 h (List.mem_cons_self ..);simp only [List.length_cons];omega
     ·have:=h2 y (List.mem_cons_of_mem _ hy);simp only [List.length_cons];omega
theorem wordsB_mem {p:UInt8→Bool} {s x:List UInt8} (h:x∈wordsB p s):x.length≤s.length:=(splitP_len p s).2 x (List.mem_filter.1 h).1
theorem wordsB_len (p:UInt8→Bool) (s:List UInt8):(wordsB p s).length≤s.length+1:=Nat.le_trans (List.length_filter_le _ _) (splitP_len p s).1
def c19L1:C:=(sr [kk 23 (.bi false .lss 22 21)] (.seq (.cond 23 .skip (.exit 0)) (.seq (.block 1 (sr [kk 24 (.ia 2 20 22),kk 25 (.ld 2 true 24),kk 8 (.al [(.int .i64 0),(.nil 1)]),kz (.st 2 8 25)] (sr [kk 27 (.fa 1 8),kk 28 (.ld 1 false 27),kk 29 (cl 69 [28]),km 26 29,kk 30 (.ex 26 0),kk 31 (.ex 26 1),kk 9 (.al [(.int .i64 0),(.int .i64 0),(.int .i64 0),(.int .i64 0),(.int .i64 0),(.int .i64 0),(.int .i64 0)]),kz (.st 7 9 30),km 10 31] (.seq (sr [km 32 10,kk 33 (.un false .not 32)] (.cond 33 (.seq (.drw [kk 34 (.fa 0 8),kk 35 (.ld 1 false 34),kk 2 (.mv (.c (.nil 7))),km 3 35,kk 4 (.mv (cn 7))] [(0,2,34),(1,2,35)]) .ret) .skip)) (.seq (sr [kk 36 (.ld 7 true 9),kk 37 (cl 70 [36]),km 11 37] (sr [km 38 11,kk 39 (.bi false .neq 38 (cn 0))] (.cond 39 (.seq (.drw [kk 40 (.fa 0 8),kk 41 (.ld 1 false 40),km 42 11,kk 2 (.mv (.c (.nil 7))),km 3 41,km 4 42] (pl [(0,[2,3],40),(1,[2,3],41),(2,[3,4],42)])) .ret) .skip))) (.reg [km 43 6,kk 44 (.ld 7 true 9),kk 45 (.bs 89 7 [44]),kk 46 (.app 89 7 56 43 45),km 6 46])))))) (.reg [kk 47 (.bi false .add 22 (cn 1)),km 22 47]))))
def c19:C:=(sr [kk 2 (.mv (.c (.nil 7))),kk 3 (.mv (cn 0)),kk 4 (.mv (cn 0))] (.seq (sr [km 12 0,kk 13 (.lens 12),kk 14 (.bi false .gtr 13 (cn 65536))] (.cond 14 (sr [kk 2 (.mv (.c (.nil 7))),kk 3 (.mv (cn 0)),kk 4 (.mv (cn 10))] .ret) .skip)) (sr [km 15 0,kk 16 (cl 68 [15]),km 5 16] (.seq (sr [km 17 5,kk 18 (.len 17),kk 19 (.bi false .gtr 18 (cn 200))] (.cond 19 (sr [kk 2 (.mv (.c (.nil 7))),kk 3 (.mv (cn 0)),kk 4 (.mv (cn 10))] .ret) .skip)) (sr [kk 6 (.mv (.c (.nil 7)))] (.seq (sr [km 20 5,kk 21 (.len 20),kk 22 (.mv (cn 0))] (.block 0 (.loop c19L1))) (sr [km 48 6,km 2 48,kk 3 (.mv (cn 0)),kk 4 (.mv (cn 0))] .ret)))))))
theorem fits19:fits Tryz.prog false Tryz.f19 1 49 [(2,none),(3,none),(4,none)]=some c19.er:=by kernel_rfl
theorem linL_mem:∀{W:List (List (List UInt8))} {i:Int} {x:Int×List (List UInt8)},x∈linL i W→x.2∈W
 | [],i,x,h=>by simp [linL] at h
 | w::r,i,x,h=>by
   unfold linL at h
   split at h
   ·rcases List.mem_cons.1 h with rfl | h
    ·simp
    ·exact List.mem_cons_of_mem _ (linL_mem h)
   ·exact List.mem_cons_of_mem _ (linL_mem h)
theorem linL_len:∀(W:List (List (List UInt8))) (i:Int),(linL i W).length≤W.length
 | [],i=>Nat.le_refl _
 | w::r,i=>by
   have ih:=linL_len r (i+1)
   unfold linL
   split<;>simp only [List.length_cons]<;>omega
theorem linesW_lens {s:List UInt8} (hs:s.length≤65536):∀w∈linesW s,wLens w:=fun w hw=>by
 obtain ⟨y,hy,rfl⟩:=List.mem_map.1 hw
 have h1:=(splitC_len 10 s).2 y hy
 have h2:=wordsB_len isBl y
 exact ⟨by omega,fun x hx=>by have:=wordsB_mem hx;omega⟩
def parG:List (Int×List (List UInt8))→List Cd→List Cd×Int×Int
 | [],out=>(out,0,0)
 | x::r,out=>if (condG x.2).2=false then ([],x.1,7) else if oneC (condG x.2).1≠0 then ([],x.1,oneC (condG x.2).1) else parG r (out++ [(condG x.2).1])
def parseG (s:List UInt8):List Cd×Int×Int:=if 65536<s.length then ([],0,10) else if 200<(linL 0 (linesW s)).length then ([],0,10) else parG (linL 0 (linesW s)) []
theorem parG_drop {l:List (Int×List (List UInt8))} {i:Nat} (out:List Cd) (h:i<l.length):parG (l.drop i) out=if (condG (l.getD i default).2).2=false then ([],(l.getD i default).1,7) else
  if oneC (condG (l.getD i default).2).1≠0 then ([],(l.getD i default).1,oneC (condG (l.getD i default).2).1) else parG (l.drop (i+1)) (out++ [(condG (l.getD i default).2).1]):=by
 rw [List.drop_eq_getElem_cons h]
 have:l.getD i default=l[i]:=by simp [List.getD,h]
 rw [this];rfl
theorem call19 (s:List UInt8) (hs:s.length≤4611686018427387904):PureCall Tryz.prog 19 [.str s] [] ⟨.tup [.sl 0 7 (parseG s).1.length (fl eCd (parseG s).1), .int .i64 (parseG s).2.1, .int .i64 (parseG s).2.2], [], []⟩:=by
 refine pure_call mix Tryz.func19 fits19 rfl ?_
 conv=>whnf
 refine ⟨?_,fun hc=> ?_,fun hc=> ?_⟩
 ·exact g0
 ·simp only [bp] at hc
  rw [show parseG s=([],0,10) by unfold parseG;rw [if_pos (by omega)]]
  conv=>whnf
  exact ret
 simp only [bp] at hc
 have hs2:s.length≤65536:=by omega
 have hlen:=linL_len (linesW s) 0
 rw [linesW_len] at hlen
 have hll2:=(splitC_len 10 s).1
 have hmem:∀i,i<(linL 0 (linesW s)).length→wLens ((linL 0 (linesW s)).getD i default).2:=fun i hi=>linesW_lens hs2 _ (linL_mem (getD_mem hi))
 conv=>whnf
 refine ⟨_,fun _=>call68 s hs2, ?_⟩
 conv=>whnf
 refine ⟨?_,fun hc2=> ?_,fun hc2=> ?_⟩
 ·exact g0
 ·simp only [bp] at hc2
  rw [show parseG s=([],0,10) by unfold parseG;rw [if_neg (by omega),if_pos (by omega)]]
  conv=>whnf
  exact ret
 simp only [bp] at hc2
 rw [show parseG s=parG (linL 0 (linesW s)) [] by unfold parseG;rw [if_neg (by omega),if_neg (by omega)]]
 generalize linL 0 (linesW s)=l at hlen hmem hc2⊢
 conv=>whnf
 refine ⟨trivial, ?_⟩
 refine LSem.adopt 6 1000000 89 7 7 rfl rfl ?_
 refine LSem.loop (n:=49) mix (α:=Nat×List Cd) (fun x=>x.1≤l.length∧x.2.length≤x.1∧parG (l.drop x.1) x.2=parG l [])
  (fun x=> [(6, .os 1000000),(20, .os 256),(21, .int .i64 l.length),(22, .int .i64 x.1)])
  (fun x=> [(1000000, .row 0 89 7 x.2.length (fl eCd x.2)),(256, .row 0 183 2 l.length (fl eLn l))]) (fun x=>l.length - x.1) (0, []) ?_ ?_ ?_
 ·exact ⟨Nat.zero_le _,Nat.le_refl _,rfl⟩
 ·refine ⟨rfl,rfl, ?_, ?_⟩<;>exact ent
 ·rintro ⟨i,out⟩ ⟨hi,ho,hp⟩
  dsimp only at hi ho hp
  have hj:((i:Int)).toNat=i:=by omega
  conv=>whnf
  refine ⟨trivial,fun hc3=> ?_,fun hc3=> ?_⟩
  ·replace hc3:=of_decide_eq_true hc3
   have hlt:i<l.length:=by
    have h:(i:Int)<l.length:=hc3
    omega
   have hw:=hmem i hlt
   rw [parG_drop out hlt] at hp
   conv=>whnf
   dsimp only
   rw [hj]
   refine ⟨_,fun _=>call69 (l.getD i default).2 hw, ?_⟩
   generalize condG (l.getD i default).2=R at hp⊢
   generalize (l.getD i default).1=nu at hp⊢
   conv=>whnf
   refine ⟨?_,fun h1=> ?_,fun h1=> ?_⟩
   ·exact g0
   ·simp only [bp] at h1
    rw [if_pos h1] at hp
    rw [←hp]
    conv=>whnf
    refine ⟨rfl, ?_⟩
    conv=>whnf
    exact ret
   simp only [bp] at h1
   rw [if_neg (by rw [h1];decide)] at hp
   conv=>whnf
   refine ⟨_,fun _=>call70 R.1, ?_⟩
   conv=>whnf
   refine ⟨?_,fun h2=> ?_,fun h2=> ?_⟩
   ·exact g0
   ·simp only [bp] at h2
    rw [if_pos h2] at hp
    rw [←hp]
    conv=>whnf
    refine ⟨rfl, ?_⟩
    conv=>whnf
    exact ret
   ·simp only [bp] at h2
    rw [if_neg (by omega)] at hp
    have q:=fl_push eCd out R.1
    conv=>whnf
    refine ⟨?_,(i+1,out++ [R.1]),⟨hlt,by dsimp only;rw [List.length_append];simp only [List.length_cons,List.length_nil];omega,hp⟩, ?_,rfl,rfl, ?_, ?_⟩
    ·exact g0
    ·dsimp only;omega
    ·exact ent
    ·exact ent
  ·replace hc3:=of_decide_eq_false hc3
   have hk:i=l.length:=by
    have h:¬(i:Int)<l.length:=hc3
    omega
   subst hk
   rw [List.drop_length] at hp
   have hp2:(out,(0:Int),(0:Int))=parG l []:=hp
   rw [←hp2]
   conv=>whnf
   exact ret
def inRB (k:IntKind) (n:Int):Bool:=decide (k.min≤n)&&decide (n≤k.max)
theorem inRB_ok {k:IntKind} {n:Int} (h:inRB k n=true):inR k n:=by
 unfold inRB at h;simp only [Bool.and_eq_true,decide_eq_true_eq] at h;exact h
def biB (w:Bool) (op:BinOp) (k:IntKind) (a b:Int):Bool:=match op with
 | .add=>w || inRB k (a+b)
 | .sub=>w || inRB k (a - b)
 | .mul=>w || inRB k (a*b)
 | .quo=> !(b==0)&&(w || inRB k (a.tdiv b))
 | .rem=> !(b==0)
 | .shr=>b==1
 | .or | .xor | .and=>(decide (0≤a)&&decide (a≤k.max))&&(decide (0≤b)&&decide (b≤k.max))
 | _=>true
def shfB (w:Bool) (op:BinOp) (k:IntKind) (a b:Int):Bool:=match op with
 | .shr=>decide (0≤b)&&decide (b.toNat≤k.bits)
 | .shl=>(decide (0≤b)&&decide (b.toNat≤k.bits))&&(w || inRB k (a*2 ^ b.toNat))
 | _=>true
def biVB (w:Bool) (op:BinOp):PV→PV→Bool
 | .int k a, .int k' b=>if k=k' then biB w op k a b else shfB w op k a b
 | .str a, .str b=>match op with
   | .add=>decide (a.length+b.length≤9223372036854775807)
   | _=>true
 | _,_=>true
def pickB:Bool→PV→PV→Bool
 | _, .bool _, .bool _=>true
 | c, .bool _, .cnd g (.bool _)=>c || g
 | c, .cnd g (.bool _), .bool _=> !c || g
 | c, .bool _, .cnd _ .junk=>c
 | c, .cnd _ .junk, .bool _=> !c
 | c, .cnd g (.bool _), .cnd g' (.bool _)=>(!c || g)&&(c || g')
 | _,_,_=>true
def idxB (i:Int) (n:Nat):Bool:=decide (0≤i)&&decide (i.toNat<n)
def slcB (lo hi:Bool) (vs:List PV) (cs:List SE):Bool:=match lo,hi,vs,cs with
 | true,false, [.sl _ _ m _, .int _ l],_=>decide (0≤l)&&decide (l.toNat≤m)
 | true,false, [.os _, .int _ l], [.row _ _ _ m _]=>decide (0≤l)&&decide (l.toNat≤m)
 | false,true, [.sl _ _ m _, .int _ h],_=>decide (0≤h)&&decide (h.toNat≤m)
 | false,true, [.os _, .int _ h], [.row _ _ _ m _]=>decide (0≤h)&&decide (h.toNat≤m)
 | true,true, [.sl _ _ m _, .int _ l, .int _ h],_=>(decide (0≤l)&&decide (l.toNat≤h.toNat))&&(decide (0≤h)&&decide (h.toNat≤m))
 | _,_,_,_=>true
def slcsB (lo hi:Bool) (vs:List PV):Bool:=match lo,hi,vs with
 | true,false, [.str s, .int _ l]=>decide (0≤l)&&decide (l.toNat≤s.length)
 | false,true, [.str s, .int _ h]=>decide (0≤h)&&decide (h.toNat≤s.length)
 | true,true, [.str s, .int _ l, .int _ h]=>(decide (0≤l)&&decide (l.toNat≤h.toNat))&&(decide (0≤h)&&decide (h.toNat≤s.length))
 | _,_,_=>true
def appB (bytes:Nat) (vs:List PV) (cs:List SE):Bool:=match vs,cs with
 | [.vw true _ _ h,y], .row .. ::cs=>match srcRows y cs with
   | some (_,_,m',_)=>decide ((h+m')*bytes≤140737488355328)&&decide (h+m'≤maxLen)
   | none=>true
 | [.os _,y], .row _ _ _ m _::cs=>match srcRows y cs with
   | some (_,_,m',_)=>decide ((m+m')*bytes≤140737488355328)&&decide (m+m'≤maxLen)
   | none=>true
 | [.nil _,y],cs=>match srcRows y cs with
   | some (_,_,m',_)=>decide (m'*bytes≤140737488355328)&&decide (m'≤maxLen)
   | none=>true
 | _,_=>true
def effB (i:I) (vs:List PV) (cs:List SE):Bool:=match i with
 | .bi w op _ _=>match vs with
   | [a,b]=>biVB w op a b
   | _=>true
 | .pick _ _ _=>match vs with
   | [.bool c,a,b]=>pickB c a b
   | _=>true
 | .ld _ _ _=>match vs,cs with
   | [.pt _ i _], [.row _ _ _ m _]=>decide (i<m)
   | _,_=>true
 | .st _ _ _=>match vs,cs with
   | [.pt _ i _,_], [.row _ _ _ m _]=>decide (i<m)
   | _,_=>true
 | .isn _ _=>match vs,cs with
   | [.sl _ _ n _],_=>decide (0<n)
   | [.os _], [.row _ _ _ n _]=>decide (0<n)
   | _,_=>true
 | .un w .neg _=>match vs with
   | [.int k n]=>biB w .sub k 0 n
   | _=>true
 | .cv w k _=>match vs with
   | [.int _ n]=>w || inRB k n
   | _=>true
 | .ia _ _ _=>match vs,cs with
   | [.sl _ _ m _, .int _ i],_=>idxB i m
   | [.os _, .int _ i], [.row _ _ _ m _]=>idxB i m
   | [.vw _ _ _ n, .int _ i], [.row ..]=>idxB i n
   | [.rf (some (_,n)) _, .int _ i],_=>idxB i n
   | _,_=>true
 | .iaa len _ _ _=>match vs with
   | [_, .int _ i]=>idxB i len
   | _=>true
 | .ixa len _ _ _ _=>match vs with
   | [_, .int _ i]=>idxB i len
   | _=>true
 | .ixs _ _=>match vs with
   | [.str s, .int _ i]=>idxB i s.length
   | _=>true
 | .app _ _ bytes _ _=>appB bytes vs cs
 | .slc _ _ lo hi=>slcB lo.isSome hi.isSome vs cs
 | .slcs _ lo hi=>slcsB lo.isSome hi.isSome vs
 | .mks _ _ bytes _ _ _=>match vs with
   | [.int _ n, .int _ c]=>(decide (0≤n)&&decide (n≤c))&&(decide (c*(bytes:Int)≤140737488355328)&&decide (c≤(maxLen:Int)))
   | _=>true
 | .cvb _ _=>match vs with
   | [.str s]=>decide (s.length≤maxLen)
   | _=>true
 | .cvs _=>false
 | .clr _ _=>match vs,cs with
   | [.vw _ _ lo n], [.row _ _ _ m _]=>decide (lo+n≤m)
   | _,_=>true
 | _=>true
theorem biB_ok {w:Bool} {op:BinOp} {k:IntKind} {a b:Int} {E:Eff} (h:biI w op k a b=some E) (hb:biB w op k a b=true):allP E.side:=by
 unfold biI at h
 unfold biB at hb
 cases op<;>simp only at h hb<;>cases w<;>simp only [Bool.false_eq_true,if_false,if_true,Option.some.injEq,reduceCtorEq,Bool.true_or,Bool.false_or] at h hb<;>(try subst h)<;>
  simp_all [Eff.pure,Eff.side',allP,Bool.and_eq_true,inRB_ok]
theorem shfB_ok {w:Bool} {op:BinOp} {k:IntKind} {a b:Int} {E:Eff} (h:shfI w op k a b=some E) (hb:shfB w op k a b=true):allP E.side:=by
 unfold shfI at h
 unfold shfB at hb
 cases op<;>simp only at h hb<;>cases w<;>simp only [Bool.false_eq_true,if_false,if_true,Option.some.injEq,reduceCtorEq,Bool.true_or,Bool.false_or] at h hb<;>(try subst h)<;>
  simp_all [Eff.pure,Eff.side',allP,Bool.and_eq_true,inRB_ok]
theorem biVB_ok {w:Bool} {op:BinOp} {a b:PV} {E:Eff} (h:biV w op a b=some E) (hb:biVB w op a b=true):allP E.side:=by
 unfold biV at h
 unfold biVB at hb
 split at h
 ·simp only at hb
  split at h
  ·rename_i hk;rw [if_pos hk] at hb;exact biB_ok h hb
  ·rename_i hk;rw [if_neg hk] at hb;exact shfB_ok h hb
 ·simp only at hb
  cases op<;>simp only [Option.some.injEq,reduceCtorEq] at h hb<;>(try subst h)<;>simp_all [Eff.pure,Eff.side',allP]
 ·cases h
theorem pickB_ok {c:Bool} {a b:PV} {E:Eff} (h:pickV c a b=some E) (hb:pickB c a b=true):allP E.side:=by
 unfold pickV at h
 split at h<;>(try simp only [Option.some.injEq,reduceCtorEq] at h)<;>(try subst h)<;>simp only [pickB,Bool.and_eq_true,Bool.or_eq_true,Bool.not_eq_true'] at hb<;>
  simp only [Eff.pure,Eff.side',allP,and_true]
 ·intro hc;rcases hb with hb | hb
  ·rw [hc] at hb;cases hb
  ·exact hb
 ·intro hc;rcases hb with hb | hb
  ·rw [hc] at hb;cases hb
  ·exact hb
 ·exact hb
 ·exact hb
 ·refine ⟨fun hc=> ?_,fun hc=> ?_⟩
  ·rcases hb.1 with h | h
   ·rw [hc] at h;cases h
   ·exact h
  ·rcases hb.2 with h | h
   ·rw [hc] at h;cases h
   ·exact h
theorem idxB_ok {i:Int} {n:Nat} (h:idxB i n=true):0≤i∧i.toNat<n:=by
 unfold idxB at h;simpa using h
theorem ld_ok {n:Nat} {agg:Bool} {x:A} {vs:List PV} {cs:List SE} {E:Eff} (h:eLd n agg vs cs=some E) (hb:effB (.ld n agg x) vs cs=true):allP E.side:=by
 unfold eLd at h
 repeat' split at h
 all_goals first
  | (cases h;done)
  | (injection h with h;subst h;simp_all [effB,Eff.pure,Eff.side',allP])
theorem st_ok {n:Nat} {x v:A} {vs:List PV} {cs:List SE} {E:Eff} (h:eSt n vs cs=some E) (hb:effB (.st n x v) vs cs=true):allP E.side:=by
 unfold eSt at h
 repeat' split at h
 all_goals first
  | (cases h;done)
  | (injection h with h;subst h;simp_all [effB,Eff.pure,Eff.side',allP])
theorem clr_ok {zs:List PV} {x:A} {vs:List PV} {cs:List SE} {E:Eff} (h:eClr zs vs cs=some E) (hb:effB (.clr zs x) vs cs=true):allP E.side:=by
 unfold eClr at h
 repeat' split at h
 all_goals first
  | (cases h;done)
  | (injection h with h;subst h;simp_all [effB,Eff.pure,Eff.side',allP])
theorem cpy_ok {z:Nat} {vs:List PV} {cs:List SE} {E:Eff} (h:eCpy z vs cs=some E):allP E.side:=by
 unfold eCpy at h
 repeat' split at h
 all_goals first
  | (cases h;done)
  | (injection h with h;subst h;exact trivial)
theorem isn_ok {neg:Bool} {x:A} {vs:List PV} {cs:List SE} {E:Eff} (h:eIsn neg vs cs=some E) (hb:effB (.isn neg x) vs cs=true):allP E.side:=by
 unfold eIsn at h
 repeat' split at h
 all_goals first
  | (cases h;done)
  | (injection h with h;subst h;simp_all [effB,Eff.pure,Eff.side',allP])
theorem ia_ok {z:Nat} {x y:A} {vs:List PV} {cs:List SE} {E:Eff} (h:eIa z vs cs=some E) (hb:effB (.ia z x y) vs cs=true):allP E.side:=by
 unfold eIa at h
 repeat' split at h
 all_goals first
  | (cases h;done)
  | (injection h with h;subst h;simp only [effB] at hb;simpa [Eff.side',allP] using idxB_ok hb)
theorem iaa_ok {len z:Nat} {x y:A} {vs:List PV} {cs:List SE} {E:Eff} (h:eIaa len z vs=some E) (hb:effB (.iaa len z x y) vs cs=true):allP E.side:=by
 unfold eIaa at h
 repeat' split at h
 all_goals first
  | (cases h;done)
  | (injection h with h;subst h;simp only [effB] at hb;simpa [Eff.side',allP] using idxB_ok hb)
theorem ixa_ok {len z:Nat} {agg:Bool} {x y:A} {vs:List PV} {cs:List SE} {E:Eff} (h:eIxa len z agg vs=some E) (hb:effB (.ixa len z agg x y) vs cs=true):allP E.side:=by
 unfold eIxa at h
 repeat' split at h
 all_goals first
  | (cases h;done)
  | (injection h with h;subst h;simp only [effB] at hb;simpa [Eff.side',allP] using idxB_ok hb)
theorem ixs_ok {x y:A} {vs:List PV} {cs:List SE} {E:Eff} (h:eIxs vs=some E) (hb:effB (.ixs x y) vs cs=true):allP E.side:=by
 unfold eIxs at h
 repeat' split at h
 all_goals first
  | (cases h;done)
  | (injection h with h;subst h;simp only [effB] at hb;simpa [Eff.side',allP] using idxB_ok hb)
theorem app_ok {d e z bytes:Nat} {x y:A} {vs:List PV} {cs:List SE} {E:Eff} (h:eApp d e z bytes vs cs=some E) (hb:effB (.app e z bytes x y) vs cs=true):allP E.side:=by
 unfold eApp at h
 simp only [effB,appB] at hb
 split at h<;>(try (cases h;done))<;>(split at h<;>(try (cases h;done))<;>(split at h<;>(try (cases h;done))<;>(injection h with h;subst h;rename_i hs _;simp only [hs,Bool.and_eq_true,decide_eq_true_eq] at hb;exact ⟨hb.1,hb.2,trivial⟩)))
theorem slc_ok {z:Nat} {x:A} {lo hi:Option A} {vs:List PV} {cs:List SE} {E:Eff} (h:eSlc z lo.isSome hi.isSome vs cs=some E) (hb:effB (.slc z x lo hi) vs cs=true):allP E.side:=by
 simp only [effB] at hb
 cases hl:lo.isSome<;>cases hh:hi.isSome<;>rw [hl,hh] at h hb<;>simp only [eSlc] at h
 ·unfold eSlc00 at h
  repeat' split at h
  all_goals first | (cases h;done) | (injection h with h;subst h;simp [Eff.pure,allP])
 ·unfold eSlc01 at h
  repeat' split at h
  all_goals first | (cases h;done) | (injection h with h;subst h;simp only [slcB,Bool.and_eq_true,decide_eq_true_eq] at hb;simpa [Eff.side',allP] using hb)
 ·unfold eSlc10 at h
  repeat' split at h
  all_goals first | (cases h;done) | (injection h with h;subst h;simp only [slcB,Bool.and_eq_true,decide_eq_true_eq] at hb;simpa [Eff.side',allP] using hb)
 ·unfold eSlc11 at h
  repeat' split at h
  all_goals first | (cases h;done) | (injection h with h;subst h;simp only [slcB,Bool.and_eq_true,decide_eq_true_eq] at hb;simp only [Eff.side',allP,and_true];exact ⟨hb.1.1,hb.1.2,hb.2.1,hb.2.2⟩)
theorem slcs_ok {x:A} {lo hi:Option A} {vs:List PV} {cs:List SE} {E:Eff} (h:eSlcs lo.isSome hi.isSome vs=some E) (hb:effB (.slcs x lo hi) vs cs=true):allP E.side:=by
 simp only [effB] at hb
 cases hl:lo.isSome<;>cases hh:hi.isSome<;>rw [hl,hh] at h hb<;>simp only [eSlcs] at h
 ·unfold eSlcs00 at h
  repeat' split at h
  all_goals first | (cases h;done) | (injection h with h;subst h;simp [Eff.pure,allP])
 ·unfold eSlcs01 at h
  repeat' split at h
  all_goals first | (cases h;done) | (injection h with h;subst h;simp only [slcsB,Bool.and_eq_true,decide_eq_true_eq] at hb;simpa [Eff.side',allP] using hb)
 ·unfold eSlcs10 at h
  repeat' split at h
  all_goals first | (cases h;done) | (injection h with h;subst h;simp only [slcsB,Bool.and_eq_true,decide_eq_true_eq] at hb;simpa [Eff.side',allP] using hb)
 ·unfold eSlcs11 at h
  repeat' split at h
  all_goals first | (cases h;done) | (injection h with h;subst h;simp only [slcsB,Bool.and_eq_true,decide_eq_true_eq] at hb;simp only [Eff.side',allP,and_true];exact ⟨hb.1.1,hb.1.2,hb.2.1,hb.2.2⟩)
theorem mks_ok {d e z bytes:Nat} {zero:List PV} {x y:A} {vs:List PV} {cs:List SE} {E:Eff} (h:eMks d e z bytes zero vs=some E) (hb:effB (.mks e z bytes zero x y) vs cs=true):allP E.side:=by
 unfold eMks at h
 repeat' split at h
 all_goals first
  | (cases h;done)
  | (injection h with h;subst h;simp only [effB,Bool.and_eq_true,decide_eq_true_eq] at hb;simp only [allP,and_true];exact ⟨hb.1.1,hb.1.2,hb.2.1,hb.2.2⟩)
theorem mx_pure {vs:List PV} {E:Eff} (h:eMx vs=some E):allP E.side:=by
 unfold eMx at h
 repeat' split at h
 all_goals first | (cases h;done) | (injection h with h;subst h;exact trivial)
theorem mn_pure {vs:List PV} {E:Eff} (h:eMn vs=some E):allP E.side:=by
 unfold eMn at h
 repeat' split at h
 all_goals first | (cases h;done) | (injection h with h;subst h;exact trivial)
theorem effB_ok {i:I} {c:CallRes} {d:Nat} {vs:List PV} {ids:List Nat} {cs:List SE} {E:Eff} (h:eff (fun _ _ _ _=>True) c d i vs ids cs=some E) (hb:effB i vs cs=true):allP E.side:=by
 cases i with
 | bi w op x y=>
   simp only [eff,eBi] at h
   split at h
   ·exact biVB_ok h (by simpa [effB] using hb)
   ·cases h
 | pick a b c'=>
   simp only [eff,ePick] at h
   split at h
   ·exact pickB_ok h (by simpa [effB] using hb)
   ·cases h
 | ld n agg x=>exact ld_ok (x:=x) h hb
 | st n x v=>exact st_ok (x:=x) (v:=v) h hb
 | isn neg x=>exact isn_ok (x:=x) h hb
 | clr zs x=>exact clr_ok (x:=x) h hb
 | cpy z x y=>exact cpy_ok h
 | un w op x=>
   simp only [eff] at h
   unfold eUn at h
   split at h
   ·exact biB_ok h (by simpa [effB] using hb)
   ·injection h with h;subst h;exact trivial
   ·cases h
 | cv w k x=>
   simp only [eff,eCv] at h
   simp only [effB] at hb
   split at h
   ·simp only [Bool.or_eq_true] at hb
    split at h
    ·injection h with h;subst h;exact trivial
    ·rename_i hw
     injection h with h;subst h
     exact ⟨inRB_ok (hb.resolve_left hw),trivial⟩
   ·cases h
 | ia z x y=>exact ia_ok (x:=x) (y:=y) h hb
 | iaa len z x y=>exact iaa_ok (x:=x) (y:=y) h hb
 | ixa len z agg x y=>exact ixa_ok (x:=x) (y:=y) h hb
 | ixs x y=>exact ixs_ok (x:=x) (y:=y) h hb
 | app e z bytes x y=>exact app_ok (x:=x) (y:=y) h hb
 | slc z x lo hi=>exact slc_ok (x:=x) h hb
 | slcs x lo hi=>exact slcs_ok (x:=x) h hb
 | mks e z bytes zero x y=>exact mks_ok (x:=x) (y:=y) h hb
 | cvb e x=>
   simp only [eff,eCvb] at h
   simp only [effB] at hb
   split at h
   ·injection h with h;subst h
    exact ⟨by simpa using hb,trivial⟩
   ·cases h
 | cvs x=>cases hb
 | mx xs=>exact mx_pure h
 | mn xs=>exact mn_pure h
 | call f xs=>
   simp only [eff,eCall,callV] at h
   repeat' split at h
   all_goals first
    | (cases h;done)
    | (injection h with h;subst h;exact ⟨trivial,trivial⟩)
    | (unfold givV at h
       repeat' split at h
       all_goals first
        | (cases h;done)
        | (injection h with h;subst h;exact ⟨trivial,trivial⟩))
 | _=>
   simp only [eff,eMv,eBx,eBd,eBs,eNc,eBib,eEqa,eFa,eFd,eLen,eLens,eEx,eMkm,eMpg,eMpu,eBsx,eCvb] at h
   (repeat' split at h)<;>first | (cases h;done) | (injection h with h;subst h;simp [Eff.pure,allP]) | skip
def cndsB:List PV→Bool
 | []=>true
 | .cnd g _::ps=>g&&cndsB ps
 | _::ps=>cndsB ps
def stripB (i:I) (vs:List PV):Bool:=match i with
 | .pick _ _ _=>match vs with
   | .cnd g _::_=>g
   | _=>true
 | _=>cndsB vs
theorem cndsB_ok (vs:List PV):cndsB vs=true→allP (stripL true vs).1:=by
 induction vs with
 | nil=>exact fun _=>trivial
 | cons p ps ih=>
   intro h
   cases p with
   | cnd g p=>simp only [cndsB,Bool.and_eq_true] at h;exact ⟨fun _=>h.1,ih h.2⟩
   | _=>simp only [cndsB] at h;exact ih h
theorem stripB_ok {i:I} {vs:List PV} (h:stripB i vs=true):allP (stripI i true vs).1:=by
 have hs:cndsB vs=true→allP (stripS true vs).1:=fun h=>by
  unfold stripS
  split
  ·trivial
  ·exact cndsB_ok vs h
 cases i with
 | pick a b c=>
   cases vs with
   | nil=>trivial
   | cons p ps=>
     cases p with
     | cnd g p=>exact ⟨fun _=>h,trivial⟩
     | _=>trivial
 | _=>exact hs h
def stepB (o:Ins) (s:PS):Bool:=match guardV s.fr o.g with
 | some true=>match valL s.fr o.i.opr with
   | some vs0=>stripB o.i vs0&&(match getL s.st (o.i.acc (stripI o.i true vs0).2) with
     | some cs=>effB o.i (stripI o.i true vs0).2 cs
     | none=>true)
   | none=>true
 | _=>true
abbrev anyS:FuncId→List PV→List SE→CallRes→Prop:=fun _ _ _ _=>True
theorem allP_app {l m:List Prop} (h:allP l) (h':allP m):allP (l++m):=(allP_append _ _).2 ⟨h,h'⟩
theorem stepI_run {lg:Bool} {c:CallRes} {i:Nat} {o:Ins} {s s':PS} (h:stepI anyS lg c i o s=some s') (hb:stepB o s=true) (hok:s.ok):s'.ok:=by
 obtain ⟨G,vs,cs,E,H⟩:=stepI_parts h
 obtain ⟨vs0,hv0,hvs,hokk⟩:=H.vals
 have hg:=H.guard
 cases G with
 | false=>
   refine hokk.2 ⟨hok,fun _ h=>(by cases h),fun hn=> ?_⟩
   rw [hn] at hg;simp [guardV] at hg
 | true=>
   have e2:(stripI o.i true vs0).2=vs:=by rw [hvs]
   unfold stepB at hb
   rw [hg] at hb
   simp only [hv0,e2,H.ent,Bool.and_eq_true] at hb
   have hall:=allP_app (stripB_ok hb.1) (effB_ok H.eff hb.2)
   exact hokk.2 ⟨hok,fun _ _=>hall,fun _=>hall⟩
theorem stepX_run {lg:Bool} {c:CallRes} {i:Nat} {o:Ins} {s s':PS} (h:stepX anyS lg c i o s=some s') (hb:stepB o s=true) (hok:s.ok):s'.ok:=by
 cases lg with
 | true=>exact stepI_run (lg:=true) (by simpa only [stepX] using h) hb hok
 | false=>
   obtain ⟨od,oid,og,oi⟩:=o
   obtain ⟨n,fr,st,ok,log⟩:=s
   have hsame:∀g,og=some g→guardV fr (some g)=some true→stepB ⟨od,oid,none,oi⟩ ⟨n,fr,st,ok,log⟩=true:=fun g hg hgv=>by
    subst hg
    unfold stepB at hb⊢
    simp only [hgv] at hb
    simpa [guardV] using hb
   simp only [stepX,stepG] at h
   split at h
   ·rename_i g _ _ hh
    split at h
    ·rename_i hgv
     exact stepI_run h (hsame _ rfl hgv) hok
    ·split at h
     ·injection h with h;subst h;exact hok
     ·split at h
      ·injection h with h;subst h;exact hok
      ·cases h
    ·cases h
   ·split at h
    ·exact stepI_run h hb hok
    split at h
    ·split at h
     ·injection h with h;subst h;exact hok
     ·split at h
      ·injection h with h;subst h;exact hok
      ·cases h
    ·cases h
   ·split at h
    ·rename_i s'' hs''
     injection h with h;subst h
     exact stepI_run hs'' hb hok
    ·split at h
     ·rename_i hgv
      exact stepI_run h (hsame _ rfl hgv) hok
     ·split at h
      ·injection h with h;subst h;exact hok
      ·split at h
       ·injection h with h;subst h;exact hok
       ·cases h
     ·cases h
   ·exact stepI_run h hb hok
def runI (R:FuncId→List PV→List SE→Option CallRes) (lg:Bool):Nat→List Ins→PS→Option PS
 | _, [],s=>some s
 | i,o::r,s=>match stepB o s with
   | false=>none
   | true=>match o.i.isCall&&(lg || !skipJ o s) with
     | true=>match callAt o s with
       | some (G,id,args,bs)=>match G with
         | true=>match R id args bs with
           | some c=>match stepX anyS lg c i o s with
             | some s'=>runI R lg (i+1) r s'
             | none=>none
           | none=>none
         | false=>match stepX anyS lg default i o s with
           | some s'=>runI R lg (i+1) r s'
           | none=>none
       | none=>none
     | false=>match stepX anyS lg default i o s with
       | some s'=>runI R lg (i+1) r s'
       | none=>none
theorem runI_sound {P:Program} {R:FuncId→List PV→List SE→Option CallRes} (hR:∀f args bs c,R f args bs=some c→PureCall P f args bs c) {lg:Bool}:
  ∀{ins:List Ins} {i:Nat} {s s':PS},runI R lg i ins s=some s'→s.ok→s'.ok∧∀K:PS→Prop,K s'→evK (PureCall P) lg i ins s K
 | [],i,s,s',h,hok=>by
   simp only [runI,Option.some.injEq] at h;subst h
   exact ⟨hok,fun K hK=>hK⟩
 | o::r,i,s,s',h,hok=>by
   simp only [runI] at h
   split at h
   ·cases h
   ·rename_i hb
    split at h
    ·rename_i hc
     split at h
     ·rename_i G id args bs hca
      split at h
      ·split at h
       ·rename_i c hRc
        split at h
        ·rename_i s1 h1
         obtain ⟨g1,g2⟩:=runI_sound hR h (stepX_run h1 hb hok)
         refine ⟨g1,fun K hK=> ?_⟩
         simp only [evK,hc,hca]
         exact ⟨c,fun _=>hR _ _ _ _ hRc,by rw [h1];exact g2 K hK⟩
        ·cases h
       ·cases h
      ·split at h
       ·rename_i s1 h1
        obtain ⟨g1,g2⟩:=runI_sound hR h (stepX_run h1 hb hok)
        refine ⟨g1,fun K hK=> ?_⟩
        simp only [evK,hc,hca]
        exact ⟨default,fun h=>(by cases h),by rw [h1];exact g2 K hK⟩
       ·cases h
     ·cases h
    ·rename_i hc
     split at h
     ·rename_i s1 h1
      obtain ⟨g1,g2⟩:=runI_sound hR h (stepX_run h1 hb hok)
      refine ⟨g1,fun K hK=> ?_⟩
      simp only [evK,hc,h1]
      exact g2 K hK
     ·cases h
open Go.RowKit
def PS.tr:PS→PS
 | ⟨n,fr,st,_,log⟩=>⟨n,fr,st,True,log⟩
def mAdd (t m:Nat):Nat:=Nat.lor m (Nat.shiftLeft 1 t)
def mHas (t m:Nat):Bool:=Nat.beq (Nat.land 1 (Nat.shiftRight m t)) 1
def mDel (t m:Nat):Nat:=match mHas t m with
 | true=>Nat.sub m (Nat.shiftLeft 1 t)
 | false=>m
def mA (a:A) (m:Nat):Nat:=match a with
 | .t n=>mAdd n m
 | .c _=>m
def mAs:List A→Nat→Nat
 | [],m=>m
 | a::r,m=>mA a (mAs r m)
def mI (o:Ins) (m:Nat):Nat:=
 let m1:=mAs o.i.opr (match o.d with
  | some d=>mDel d m
  | none=>m)
 match o.g with
 | some (t,_)=>mAdd t m1
 | none=>m1
def mIs:List Ins→Nat→Nat
 | [],m=>m
 | o::r,m=>mI o (mIs r m)
def mOf:List (Nat×Nat)→Nat→Nat
 | [],_=>0
 | (k,m)::E,i=>match Nat.beq k i with
   | true=>m
   | false=>mOf E i
def mC (rl:Nat):List (Nat×Nat)→C→Nat→Nat
 | _, .skip,m=>m
 | _, .reg ins,m=>mIs ins m
 | _, .drw ins _,m=>mIs ins m
 | E, .seq a b,m=>mC rl E a (mC rl E b m)
 | E, .cond c x y,m=>mA c (Nat.lor (mC rl E x m) (mC rl E y m))
 | E, .block id b,m=>mC rl ((id,m)::E) b m
 | E, .loop b,_=>mC rl E b 0
 | E, .exit id,_=>mOf E id
 | E, .scope b,m=>mC rl E b m
 | _, .ret,_=>rl
 | E, .cut b,m=>mC rl E b m
 | _,_,m=>m
def gcF (fr:Nat→Option PV) (m:Nat):Nat→List (Nat×PV)
 | 0=> []
 | t+1=>match mHas t m with
   | true=>match fr t with
     | some p=>(t,p)::gcF fr m t
     | none=>gcF fr m t
   | false=>gcF fr m t
def idsFL:List (Nat×PV)→List Nat
 | []=> []
 | (_,p)::l=>p.ids++idsFL l
def gcS (st:Nat→Option SE):Nat→List Nat→List (Nat×SE)→Option (List (Nat×SE))
 | _, [],acc=>some acc
 | 0,_::_,_=>none
 | k+1,r::rs,acc=>match keysB acc r with
   | true=>gcS st k rs acc
   | false=>match st r with
     | some e=>gcS st k (e.ids++rs) ((r,e)::acc)
     | none=>none
def upTo:Nat→List Nat
 | 0=> []
 | n+1=>n::upTo n
def gcP (np m:Nat) (s:PS):Option PS:=match s with
 | ⟨n,fr,st,_,_⟩=>match gcF fr m n with
   | fl=>match gcS st 100000 (upTo np++idsFL fl) [] with
     | some sl=>match idsF sl fl&&idsS sl sl&&parB sl np with
       | true=>some (St n fl sl)
       | false=>none
     | none=>none
mutual
theorem PLe_refl {st:Nat→Option SE} {kp:Nat→Bool}:∀(p:PV),(∀r∈p.ids,kp r=true)→PLe st kp p p
 | .os r,h=>by simp only [PLe];exact ⟨trivial,h r (by simp [PV.ids])⟩
 | .vw _ r _ _,h=>by simp only [PLe];exact ⟨trivial,trivial,trivial,trivial,h r (by simp [PV.ids])⟩
 | .rf _ r,h=>by simp only [PLe];exact ⟨trivial,trivial,h r (by simp [PV.ids])⟩
 | .pt r _ _,h=>by simp only [PLe];exact ⟨trivial,trivial,trivial,h r (by simp [PV.ids])⟩
 | .agg cs,h=>by simp only [PLe];exact PLe_reflL cs h
 | .tup cs,h=>by simp only [PLe];exact PLe_reflL cs h
 | .fn f a b,h=>by simp only [PLe];exact ⟨trivial,PLe_reflL a (fun r hr=>h r (by simp [PV.ids,hr])),PLe_reflL b (fun r hr=>h r (by simp [PV.ids,hr]))⟩
 | .cnd g p,h=>by simp only [PLe];exact ⟨trivial,PLe_refl p h⟩
 | .mpv ..,_=>by simp only [PLe];exact ⟨trivial,trivial,trivial,trivial,fun _ _=>⟨rfl,rfl⟩⟩
 | .int ..,_=>by simp only [PLe];exact ⟨trivial,trivial⟩
 | .bool _,_=>by simp only [PLe]
 | .str _,_=>by simp only [PLe]
 | .sl ..,_=>by simp only [PLe];exact ⟨Nat.le_refl _,trivial,trivial,fun _ _=>rfl⟩
 | .nil _,_=>by simp only [PLe]
 | .rp ..,_=>by simp only [PLe];exact ⟨Nat.le_refl _,trivial⟩
 | .raw _,_=>by simp only [PLe]
 | .junk,_=>by simp only [PLe]
theorem PLe_reflL {st:Nat→Option SE} {kp:Nat→Bool}:∀(l:List PV),(∀r∈PV.idsL l,kp r=true)→PLeL st kp l l
 | [],_=>by simp only [PLeL]
 | p::ps,h=>by simp only [PLeL];exact ⟨PLe_refl p (fun r hr=>h r (by simp [PV.idsL,hr])),PLe_reflL ps (fun r hr=>h r (by simp [PV.idsL,hr]))⟩
end
theorem SLe_refl {st:Nat→Option SE} {kp:Nat→Bool} (e:SE) (h:∀r∈e.ids,kp r=true):SLe st kp e e:=by
 cases e with
 | box l=>exact PLe_reflL l h
 | row τ e z n f=>exact ⟨Nat.le_refl _,rfl,rfl,rfl,fun _ _=>rfl,rfl⟩
 | bld T e s=>exact ⟨rfl,rfl,rfl⟩
theorem gcF_mem {fr:Nat→Option PV} {m:Nat}:∀{n:Nat} {x:Nat×PV},x∈gcF fr m n→fr x.1=some x.2
 | 0,x,h=>by simp [gcF] at h
 | n+1,x,h=>by
   simp only [gcF] at h
   split at h
   ·split at h
    ·rename_i p hp
     rcases List.mem_cons.1 h with rfl | h
     ·exact hp
     ·exact gcF_mem h
    ·exact gcF_mem h
   ·exact gcF_mem h
theorem gcS_mem {st:Nat→Option SE}:∀{k:Nat} {todo:List Nat} {acc sl:List (Nat×SE)},gcS st k todo acc=some sl→(∀x∈acc,st x.1=some x.2)→∀x∈sl,st x.1=some x.2
 | k, [],acc,sl,h,ha=>by
   have:acc=sl:=by cases k<;>simpa [gcS] using h
   subst this;exact ha
 | 0,_::_,acc,sl,h,ha=>by simp [gcS] at h
 | k+1,r::rs,acc,sl,h,ha=>by
   simp only [gcS] at h
   split at h
   ·exact gcS_mem h ha
   ·split at h
    ·rename_i e he
     refine gcS_mem h fun x hx=> ?_
     rcases List.mem_cons.1 hx with rfl | hx
     ·exact he
     ·exact ha x hx
    ·cases h
theorem keys_kp {sl:List (Nat×SE)} {r:Nat} (h:∃e,stL sl r=some e):keysB sl r=true:=keysB_some.2 h
theorem leF_of {fr:Nat→Option PV} {st:Nat→Option SE} {kp:Nat→Bool}:∀{l:List (Nat×PV)},(∀x∈l,fr x.1=some x.2∧∀r∈x.2.ids,kp r=true)→leF fr st kp l
 | [],_=>trivial
 | (t,p)::l,h=>by
   have h1:=h (t,p) (by simp)
   refine ⟨?_,leF_of fun x hx=>h x (by simp [hx])⟩
   rw [h1.1];exact PLe_refl p h1.2
theorem leS_of {st:Nat→Option SE} {kp:Nat→Bool}:∀{l:List (Nat×SE)},(∀x∈l,st x.1=some x.2∧∀r∈x.2.ids,kp r=true)→leS st kp l
 | [],_=>trivial
 | (t,p)::l,h=>by
   have h1:=h (t,p) (by simp)
   refine ⟨?_,leS_of fun x hx=>h x (by simp [hx])⟩
   rw [h1.1];exact SLe_refl p h1.2
theorem gcP_ok {np m:Nat} {s s':PS} (h:gcP np m s=some s'):s'=St s'.n (gcF s.fr m s.n) (match gcS s.st 100000 (upTo np++idsFL (gcF s.fr m s.n)) [] with | some sl=>sl | none=> [])∧
  Ent np s s'.n (gcF s.fr m s.n) (match gcS s.st 100000 (upTo np++idsFL (gcF s.fr m s.n)) [] with | some sl=>sl | none=> []):=by
 obtain ⟨n,fr,st,ok,log⟩:=s
 simp only [gcP] at h
 split at h
 ·rename_i sl hsl
  split at h
  ·rename_i hb
   injection h with h;subst h
   simp only [hsl]
   have hb':=hb
   simp only [Bool.and_eq_true] at hb'
   refine ⟨rfl,rfl,hb,leF_of fun x hx=>⟨gcF_mem hx,fun r hr=>keys_kp (idsF_mem hb'.1.1 x hx r hr)⟩,leS_of fun x hx=>⟨gcS_mem hsl (fun _ h=>by simp at h) x hx,fun r hr=>keys_kp (idsS_mem hb'.1.2 x hx r hr)⟩⟩
  ·cases h
 ·cases h
def runC (R:FuncId→List PV→List SE→Option CallRes) (H:Code→PS→Option PS) (np rl:Nat):Nat→List (Nat×Nat)→Nat→C→PS→Option (Lv×PS)
 | 0,_,_,_,_=>none
 | k+1,E,m,c,s=>match c with
   | .skip=>some (.nrm,s)
   | .reg ins=>match runI R false 0 ins s with
     | some s'=>some (.nrm,s')
     | none=>none
   | .drw ins ps=>match s with
     | ⟨n,fr,st,ok,_⟩=>match runI R true 0 ins ⟨n,fr,st,ok,fun _=>none⟩ with
       | some ⟨n',fr',st',ok',log'⟩=>match apartOk log' ps with
         | true=>some (.nrm,⟨n',fr',st',ok',fun _=>none⟩)
         | false=>none
       | none=>none
   | .seq a b=>match runC R H np rl k E (mC rl E b m) a s.tr with
     | some (.nrm,s1)=>runC R H np rl k E m b s1.tr
     | some (.ex i,s1)=>some (.ex i,s1)
     | some (.ret,s1)=>some (.ret,s1)
     | none=>none
   | .cond c x y=>match s with
     | ⟨n,fr,st,_,log⟩=>match A.val fr c with
       | some (.bool true)=>runC R H np rl k E m x ⟨n,fr,st,True,log⟩
       | some (.bool false)=>runC R H np rl k E m y ⟨n,fr,st,True,log⟩
       | _=>none
   | .block id b=>match runC R H np rl k ((id,m)::E) m b s.tr with
     | some (.nrm,s1)=>some (.nrm,s1)
     | some (.ex i,s1)=>match Nat.beq i id with
       | true=>some (.nrm,s1)
       | false=>some (.ex i,s1)
     | some (.ret,s1)=>some (.ret,s1)
     | none=>none
   | .loop b=>match gcP np (mC rl E b 0) s with
     | some s0=>match runC R H np rl k E (mC rl E b 0) b s0.tr with
       | some (.nrm,s1)=>runC R H np rl k E m (.loop b) s1.tr
       | some (.ex i,s1)=>some (.ex i,s1)
       | some (.ret,s1)=>some (.ret,s1)
       | none=>none
     | none=>none
   | .exit id=>some (.ex id,s)
   | .ret=>some (.ret,s)
   | .raw c=>match H c s.tr with
     | some s'=>some (.nrm,s')
     | none=>none
   | .scope b=>match b.labOf with
     | none=>match runC R H np rl k E m b s.tr with
       | some (.nrm,s1)=>some (.nrm,s1)
       | some (.ex i,s1)=>match Nat.ble 1000000 i with
         | true=>none
         | false=>some (.ex i,s1)
       | some (.ret,s1)=>some (.ret,s1)
       | none=>none
     | some _=>none
   | _=>none
section
variable {P:Program} {wr:Bool} {np:Nat}
theorem LSem.mono {c:C} {Q Q':Lv→PS→Prop} {s:PS} (h:LSem P wr np c Q s) (hm:∀l t,Q l t→Q' l t):LSem P wr np c Q' s:=by
 intro hQ code hc X w0 may a w γ hX hR
 refine wp_mono (h (fun l t hq=>hQ l t (hm l t hq)) code hc X w0 may a w γ hX hR) ?_
 rintro e a' w' ⟨lv,s',γ',he,hq,hR'⟩
 exact ⟨lv,s',γ',he,hm _ _ hq,hR'⟩
theorem LSem.loopRun {b:C} {Q:Lv→PS→Prop} {s:PS} (I:Nat→PS→Prop) (k0:Nat) (h0:I k0 s) (hr:∀k t,I k t→LSem P wr np b (fun lv s'=>match lv with
  | .nrm=>s'.ok∧∃k',I k' s'∧k'<k
  | .ex i=>Q (.ex i) s'
  | .ret=>Q .ret s') t):LSem P wr np (.loop b) Q s:=by
 intro hQ code hc X w0 may a w γ hX hR
 have:∃p,code= .loop p∧comp P wr p=some b.er:=by
  cases code with
  | loop p=>
    simp only [comp,C.er,Option.map_eq_some_iff,C.loop.injEq] at hc
    obtain ⟨b',hb,rfl⟩:=hc
    exact ⟨p,rfl,hb⟩
  | region id ops dr=>cases dr<;>simp only [comp,C.er] at hc<;>(repeat' (split at hc))<;>simp_all
  | _=>simp only [comp,C.er] at hc<;>(repeat' (split at hc))<;>simp_all
 obtain ⟨p,rfl,hp⟩:=this
 refine wp_loop_by (fun k a w=>∃t,I k t∧∃γ,Rel X w0 may a w t γ) id k0 ⟨s,h0,γ,hR⟩ ?_
 rintro k a w ⟨t,hI,γ,hR⟩
 have h1:=hr k t hI (fun lv s' hs=>by
  cases lv with
  | nrm=>exact hs.1
  | ex i=>exact hQ _ _ hs
  | ret=>exact hQ _ _ hs) p hp X w0 may a w γ hX hR
 refine wp_mono h1 ?_
 rintro e a' w' ⟨lv,s',γ',he,hq',hR'⟩
 cases e
 ·cases he
  obtain ⟨_,k',hk',hlt⟩:=hq'
  exact ⟨k',⟨s',hk',γ',hR'⟩,hlt⟩
 ·obtain ⟨hb,rfl⟩:=lvOf_exit he;exact ⟨_,_,_,he,hq',hR'⟩
 ·cases he;exact ⟨_,_,_,rfl,hq',hR'⟩
 ·cases he;exact ⟨_,_,_,rfl,hq',hR'⟩
 ·cases he
 ·cases he
def Runs (P:Program) (wr:Bool) (np:Nat) (c:C) (s:PS) (lv:Lv) (s':PS):Prop:=s'.ok∧LSem P wr np c (fun l t=>l=lv∧t=s') s
theorem Runs.to {c:C} {s s':PS} {lv:Lv} {Q:Lv→PS→Prop} (h:Runs P wr np c s lv s') (hq:Q lv s'):LSem P wr np c Q s:=
 h.2.mono fun l t ⟨h1,h2⟩=>by rw [h1,h2];exact hq
theorem runC_sound {rl:Nat} (hmix:P.follows .mixedOrders=true) {R:FuncId→List PV→List SE→Option CallRes} {H:Code→PS→Option PS} (hR:∀f args bs c,R f args bs=some c→PureCall P f args bs c)
  (hH:∀c s s',H c s=some s'→Runs P wr np (.raw c) s .nrm s'):∀(k:Nat) (E:List (Nat×Nat)) (m:Nat) (c:C) (s s':PS) (lv:Lv),runC R H np rl k E m c s=some (lv,s')→s.ok→Runs P wr np c s lv s':=by
 intro k
 induction k using Nat.strongRecOn with
 | ind k ihs=>
 cases k with
 | zero=>intro E m c s s' lv h;simp [runC] at h
 | succ k=>
   have ih:=ihs k (Nat.lt_succ_self k)
   intro E m c s s' lv h hok
   obtain ⟨n,fr,st,ok,log⟩:=s
   cases c with
   | skip=>
     simp only [runC,Option.some.injEq,Prod.mk.injEq] at h
     obtain ⟨rfl,rfl⟩:=h
     exact ⟨hok,LSem.of_vc hmix ⟨rfl,rfl⟩⟩
   | reg ins=>
     simp only [runC] at h
     split at h
     ·rename_i s1 h1
      simp only [Option.some.injEq,Prod.mk.injEq] at h
      obtain ⟨rfl,rfl⟩:=h
      obtain ⟨g1,g2⟩:=runI_sound hR h1 hok
      exact ⟨g1,LSem.of_vc hmix (g2 _ ⟨rfl,rfl⟩)⟩
     ·cases h
   | drw ins ps=>
     simp only [runC] at h
     split at h
     ·rename_i n' fr' st' ok' log' h1
      split at h
      ·rename_i ha
       simp only [Option.some.injEq,Prod.mk.injEq] at h
       obtain ⟨rfl,rfl⟩:=h
       obtain ⟨g1,g2⟩:=runI_sound hR h1 hok
       exact ⟨g1,LSem.of_vc hmix (g2 _ ⟨ha,rfl,rfl⟩)⟩
      ·cases h
     ·cases h
   | seq a b=>
     simp only [runC,PS.tr] at h
     have key:∀(Q:Lv→PS→Prop),LSem P wr np a (fun e s'=>match e with
       | .nrm=>vc (PureCall P) (LSem P wr np) (.cut b) Q s'
       | .ex i=>Q (.ex i) s'
       | .ret=>Q .ret s') ⟨n,fr,st,True,log⟩→LSem P wr np (.seq a b) Q ⟨n,fr,st,ok,log⟩:=fun Q hq=>
      LSem.of_vc (c:= .seq (.cut a) (.cut b)) hmix ⟨hok,hq⟩
     split at h
     ·rename_i s1 h1
      have r1:=ih _ _ a _ _ _ h1 trivial
      obtain ⟨n1,fr1,st1,ok1,log1⟩:=s1
      have r2:=ih _ _ b _ _ _ h trivial
      exact ⟨r2.1,key _ (r1.to ⟨r1.1,r2.to ⟨rfl,rfl⟩⟩)⟩
     ·rename_i i s1 h1
      simp only [Option.some.injEq,Prod.mk.injEq] at h
      obtain ⟨rfl,rfl⟩:=h
      have r1:=ih _ _ a _ _ _ h1 trivial
      exact ⟨r1.1,key _ (r1.to ⟨rfl,rfl⟩)⟩
     ·rename_i s1 h1
      simp only [Option.some.injEq,Prod.mk.injEq] at h
      obtain ⟨rfl,rfl⟩:=h
      have r1:=ih _ _ a _ _ _ h1 trivial
      exact ⟨r1.1,key _ (r1.to ⟨rfl,rfl⟩)⟩
     ·cases h
   | cond c x y=>
     simp only [runC] at h
     split at h
     ·rename_i hv
      have r1:=ih _ _ x _ _ _ h trivial
      refine ⟨r1.1,LSem.of_vc (c:= .cond c (.cut x) (.cut y)) hmix ?_⟩
      simp only [vc,hv]
      exact ⟨hok,fun _=>⟨trivial,r1.to ⟨rfl,rfl⟩⟩,fun h=>(by cases h)⟩
     ·rename_i hv
      have r1:=ih _ _ y _ _ _ h trivial
      refine ⟨r1.1,LSem.of_vc (c:= .cond c (.cut x) (.cut y)) hmix ?_⟩
      simp only [vc,hv]
      exact ⟨hok,fun h=>(by cases h),fun _=>⟨trivial,r1.to ⟨rfl,rfl⟩⟩⟩
     ·cases h
   | block id b=>
     simp only [runC,PS.tr] at h
     have key:∀(Q:Lv→PS→Prop),LSem P wr np b (fun e s'=>match e with
       | .nrm=>Q .nrm s'
       | .ex i=>match Nat.beq i id with
         | true=>Q .nrm s'
         | false=>Q (.ex i) s'
       | .ret=>Q .ret s') ⟨n,fr,st,True,log⟩→LSem P wr np (.block id b) Q ⟨n,fr,st,ok,log⟩:=fun Q hq=>
      LSem.of_vc (c:= .block id (.cut b)) hmix ⟨hok,hq⟩
     split at h
     ·rename_i s1 h1
      simp only [Option.some.injEq,Prod.mk.injEq] at h
      obtain ⟨rfl,rfl⟩:=h
      have r1:=ih _ _ b _ _ _ h1 trivial
      exact ⟨r1.1,key _ (r1.to ⟨rfl,rfl⟩)⟩
     ·rename_i i s1 h1
      have r1:=ih _ _ b _ _ _ h1 trivial
      split at h
      ·rename_i hb
       simp only [Option.some.injEq,Prod.mk.injEq] at h
       obtain ⟨rfl,rfl⟩:=h
       exact ⟨r1.1,key _ (r1.to (by simp [hb]))⟩
      ·rename_i hb
       simp only [Option.some.injEq,Prod.mk.injEq] at h
       obtain ⟨rfl,rfl⟩:=h
       exact ⟨r1.1,key _ (r1.to (by simp [hb]))⟩
     ·rename_i s1 h1
      simp only [Option.some.injEq,Prod.mk.injEq] at h
      obtain ⟨rfl,rfl⟩:=h
      have r1:=ih _ _ b _ _ _ h1 trivial
      exact ⟨r1.1,key _ (r1.to ⟨rfl,rfl⟩)⟩
     ·cases h
   | loop b=>
     have htr:∀(j:Nat) (t:PS),runC R H np rl j E m (.loop b) t.tr=runC R H np rl j E m (.loop b) t:=fun j t=>by cases j<;>rfl
     have hgc:∀(mm:Nat) (t t0:PS),gcP np mm t=some t0→t0.tr=t0∧∀(c:C) (Q:Lv→PS→Prop),LSem P wr np c Q t0→LSem P wr np c Q t:=fun mm t t0 hg=>by
      obtain ⟨g1,g2⟩:=gcP_ok hg
      refine ⟨by rw [g1];rfl,fun c Q hq=>LSem.weak g2 ?_⟩
      rw [←g1];exact hq
     have hall:∀(j:Nat),j≤k+1→∀t,runC R H np rl j E m (.loop b) t=some (lv,s')→s'.ok:=by
      intro j
      induction j with
      | zero=>intro _ t ht;simp [runC] at ht
      | succ j ihj=>
        intro hj t ht
        simp only [runC] at ht
        split at ht
        ·rename_i t0 hg
         split at ht
         ·rename_i s1 h1
          exact ihj (by omega) _ ht
         ·rename_i i s1 h1
          simp only [Option.some.injEq,Prod.mk.injEq] at ht
          obtain ⟨rfl,rfl⟩:=ht
          exact (ihs j (by omega) _ _ b _ _ _ h1 trivial).1
         ·rename_i s1 h1
          simp only [Option.some.injEq,Prod.mk.injEq] at ht
          obtain ⟨rfl,rfl⟩:=ht
          exact (ihs j (by omega) _ _ b _ _ _ h1 trivial).1
         ·cases ht
        ·cases ht
     refine ⟨hall _ (Nat.le_refl _) _ h,LSem.loopRun (fun j t=>j≤k+1∧runC R H np rl j E m (.loop b) t=some (lv,s')) (k+1) ⟨Nat.le_refl _,h⟩ ?_⟩
     rintro j t ⟨hj,ht⟩
     cases j with
     | zero=>simp [runC] at ht
     | succ j=>
       simp only [runC] at ht
       split at ht
       ·rename_i t0 hg
        obtain ⟨g1,g2⟩:=hgc _ _ _ hg
        refine g2 _ _ ?_
        rw [g1] at ht
        split at ht
        ·rename_i s1 h1
         have r1:=ihs j (by omega) _ _ b _ _ _ h1 (by rw [←g1];trivial)
         exact (r1.to ⟨r1.1,j,⟨by omega,by rw [←htr];exact ht⟩,by omega⟩)
        ·rename_i i s1 h1
         simp only [Option.some.injEq,Prod.mk.injEq] at ht
         obtain ⟨rfl,rfl⟩:=ht
         have r1:=ihs j (by omega) _ _ b _ _ _ h1 (by rw [←g1];trivial)
         exact (r1.to ⟨rfl,rfl⟩)
        ·rename_i s1 h1
         simp only [Option.some.injEq,Prod.mk.injEq] at ht
         obtain ⟨rfl,rfl⟩:=ht
         have r1:=ihs j (by omega) _ _ b _ _ _ h1 (by rw [←g1];trivial)
         exact (r1.to ⟨rfl,rfl⟩)
        ·cases ht
       ·cases ht
   | exit id=>
     simp only [runC,Option.some.injEq,Prod.mk.injEq] at h
     obtain ⟨rfl,rfl⟩:=h
     exact ⟨hok,LSem.of_vc hmix ⟨rfl,rfl⟩⟩
   | ret=>
     simp only [runC,Option.some.injEq,Prod.mk.injEq] at h
     obtain ⟨rfl,rfl⟩:=h
     exact ⟨hok,LSem.of_vc hmix ⟨rfl,rfl⟩⟩
   | raw c=>
     simp only [runC,PS.tr] at h
     split at h
     ·rename_i s1 h1
      simp only [Option.some.injEq,Prod.mk.injEq] at h
      obtain ⟨rfl,rfl⟩:=h
      have r1:=hH _ _ _ h1
      exact ⟨r1.1,LSem.of_vc (c:= .raw c) hmix ⟨hok,r1.2⟩⟩
     ·cases h
   | scope b=>
     simp only [runC,PS.tr] at h
     split at h
     ·rename_i hl
      have key:∀(Q:Lv→PS→Prop),LSem P wr np b (outs Q) ⟨n,fr,st,True,log⟩→LSem P wr np (.scope b) Q ⟨n,fr,st,ok,log⟩:=fun Q hq=>by
       refine LSem.of_vc (c:= .scope (.cut b)) hmix ?_
       simp only [vc,C.labOf,hl]
       exact ⟨hok,hq⟩
      split at h
      ·rename_i s1 h1
       simp only [Option.some.injEq,Prod.mk.injEq] at h
       obtain ⟨rfl,rfl⟩:=h
       have r1:=ih _ _ b _ _ _ h1 trivial
       exact ⟨r1.1,key _ (r1.to ⟨rfl,rfl⟩)⟩
      ·rename_i i s1 h1
       split at h
       ·cases h
       ·rename_i hb
        simp only [Option.some.injEq,Prod.mk.injEq] at h
        obtain ⟨rfl,rfl⟩:=h
        have r1:=ih _ _ b _ _ _ h1 trivial
        exact ⟨r1.1,key _ (r1.to (by simp [outs,hb]))⟩
      ·rename_i s1 h1
       simp only [Option.some.injEq,Prod.mk.injEq] at h
       obtain ⟨rfl,rfl⟩:=h
       have r1:=ih _ _ b _ _ _ h1 trivial
       exact ⟨r1.1,key _ (r1.to ⟨rfl,rfl⟩)⟩
      ·cases h
     ·cases h
   | cut b=>simp [runC] at h
   | bad=>simp [runC] at h
   | lab l=>simp [runC] at h
   | gto l=>simp [runC] at h
end
open Go.RowKit
mutual
theorem ren_of {ρ:Nat→Nat}:∀(p:PV),(∀r∈p.ids,ρ r=r)→p.ren ρ=p
 | .os r,h=>by rw [PV.ren,h r (by simp [PV.ids])]
 | .vw _ r _ _,h=>by rw [PV.ren,h r (by simp [PV.ids])]
 | .rf _ r,h=>by rw [PV.ren,h r (by simp [PV.ids])]
 | .pt r _ _,h=>by rw [PV.ren,h r (by simp [PV.ids])]
 | .agg cs,h=>by rw [PV.ren,ren_ofL cs h]
 | .tup cs,h=>by rw [PV.ren,ren_ofL cs h]
 | .fn f a b,h=>by rw [PV.ren,ren_ofL a (fun r hr=>h r (by simp [PV.ids,hr])),ren_ofL b (fun r hr=>h r (by simp [PV.ids,hr]))]
 | .cnd g p,h=>by rw [PV.ren,ren_of p h]
 | .mpv ..,_=>rfl
 | .int ..,_=>rfl
 | .bool _,_=>rfl
 | .str _,_=>rfl
 | .sl ..,_=>rfl
 | .nil _,_=>rfl
 | .rp ..,_=>rfl
 | .raw _,_=>rfl
 | .junk,_=>rfl
theorem ren_ofL {ρ:Nat→Nat}:∀(l:List PV),(∀r∈PV.idsL l,ρ r=r)→PV.renL ρ l=l
 | [],_=>rfl
 | p::ps,h=>by rw [PV.renL,ren_of p (fun r hr=>h r (by simp [PV.idsL,hr])),ren_ofL ps (fun r hr=>h r (by simp [PV.idsL,hr]))]
end
mutual
def convV (st:Nat→Option SE) (np:Nat):PV→Option PV
 | .os r=>match Nat.blt r np with
   | true=>none
   | false=>match st r with
     | some (.row τ _ z n f)=>some (.sl τ z n f)
     | _=>none
 | .agg cs=>match convL st np cs with
   | some cs'=>some (.agg cs')
   | none=>none
 | .tup cs=>match convL st np cs with
   | some cs'=>some (.tup cs')
   | none=>none
 | .fn f a b=>match convL st np a,convL st np b with
   | some a',some b'=>some (.fn f a' b')
   | _,_=>none
 | .pt r i j=>match Nat.blt r np with
   | true=>some (.pt r i j)
   | false=>none
 | .rf m r=>match Nat.blt r np with
   | true=>some (.rf m r)
   | false=>none
 | .vw .. =>none
 | .cnd _ _=>none
 | .mpv ks vks ka va h f=>some (.mpv ks vks ka va h f)
 | .int k n=>some (.int k n)
 | .bool b=>some (.bool b)
 | .str s=>some (.str s)
 | .sl τ z n f=>some (.sl τ z n f)
 | .nil z=>some (.nil z)
 | .rp τ cs=>some (.rp τ cs)
 | .raw v=>some (.raw v)
 | .junk=>some .junk
def convL (st:Nat→Option SE) (np:Nat):List PV→Option (List PV)
 | []=>some []
 | p::ps=>match convV st np p,convL st np ps with
   | some q,some qs=>some (q::qs)
   | _,_=>none
end
theorem kp_lo {np r:Nat} (h:Nat.blt r np=true):kpR np [] r=true:=by unfold kpR;rw [h]
theorem kp_hi {np r:Nat} (h:Nat.blt r np=false):kpR np [] r=false:=by unfold kpR;rw [h];rfl
theorem blt_lo {np r:Nat} (h:Nat.blt r np=true):r<np:=by rwa [Nat.blt_eq] at h
mutual
theorem convV_ok {st:Nat→Option SE} {np:Nat}:∀(p q:PV),convV st np p=some q→PLe st (kpR np []) p q∧∀r∈q.ids,r<np
 | .os r,q,h=>by
   simp only [convV] at h
   split at h
   ·cases h
   ·rename_i hb
    split at h
    ·rename_i τ e z n f hs
     injection h with h;subst h
     refine ⟨?_,fun r hr=>by simp [PV.ids] at hr⟩
     simp only [PLe]
     refine ⟨kp_hi hb, ?_⟩
     rw [hs]
     exact ⟨Nat.le_refl _,rfl,rfl,fun _ _=>rfl⟩
    ·cases h
 | .agg cs,q,h=>by
   simp only [convV] at h
   split at h
   ·rename_i cs' hc
    injection h with h;subst h
    have:=convL_ok cs cs' hc
    exact ⟨by simp only [PLe];exact this.1,this.2⟩
   ·cases h
 | .tup cs,q,h=>by
   simp only [convV] at h
   split at h
   ·rename_i cs' hc
    injection h with h;subst h
    have:=convL_ok cs cs' hc
    exact ⟨by simp only [PLe];exact this.1,this.2⟩
   ·cases h
 | .fn f a b,q,h=>by
   simp only [convV] at h
   split at h
   ·rename_i a' b' ha hb
    injection h with h;subst h
    have h1:=convL_ok a a' ha
    have h2:=convL_ok b b' hb
    refine ⟨by simp only [PLe];exact ⟨trivial,h1.1,h2.1⟩,fun r hr=> ?_⟩
    simp only [PV.ids,List.mem_append] at hr
    exact hr.elim (h1.2 r) (h2.2 r)
   ·cases h
 | .pt r i j,q,h=>by
   simp only [convV] at h
   split at h
   ·rename_i hb
    injection h with h;subst h
    exact ⟨by simp only [PLe];exact ⟨trivial,trivial,trivial,kp_lo hb⟩,fun r hr=>by simp only [PV.ids,List.mem_singleton] at hr;subst hr;exact blt_lo hb⟩
   ·cases h
 | .rf m r,q,h=>by
   simp only [convV] at h
   split at h
   ·rename_i hb
    injection h with h;subst h
    exact ⟨by simp only [PLe];exact ⟨trivial,trivial,kp_lo hb⟩,fun r hr=>by simp only [PV.ids,List.mem_singleton] at hr;subst hr;exact blt_lo hb⟩
   ·cases h
 | .vw ..,q,h=>by simp [convV] at h
 | .cnd _ _,q,h=>by simp [convV] at h
 | .mpv ..,q,h=>by
   simp only [convV,Option.some.injEq] at h;subst h
   exact ⟨by simp only [PLe];exact ⟨trivial,trivial,trivial,trivial,fun _ _=>⟨rfl,rfl⟩⟩,fun r hr=>by simp [PV.ids] at hr⟩
 | .int ..,q,h=>by
   simp only [convV,Option.some.injEq] at h;subst h
   exact ⟨by simp only [PLe];exact ⟨trivial,trivial⟩,fun r hr=>by simp [PV.ids] at hr⟩
 | .bool _,q,h=>by
   simp only [convV,Option.some.injEq] at h;subst h
   exact ⟨by simp only [PLe],fun r hr=>by simp [PV.ids] at hr⟩
 | .str _,q,h=>by
   simp only [convV,Option.some.injEq] at h;subst h
   exact ⟨by simp only [PLe],fun r hr=>by simp [PV.ids] at hr⟩
 | .sl ..,q,h=>by
   simp only [convV,Option.some.injEq] at h;subst h
   exact ⟨by simp only [PLe];exact ⟨Nat.le_refl _,trivial,trivial,fun _ _=>rfl⟩,fun r hr=>by simp [PV.ids] at hr⟩
 | .nil _,q,h=>by
   simp only [convV,Option.some.injEq] at h;subst h
   exact ⟨by simp only [PLe],fun r hr=>by simp [PV.ids] at hr⟩
 | .rp ..,q,h=>by
   simp only [convV,Option.some.injEq] at h;subst h
   exact ⟨by simp only [PLe];exact ⟨Nat.le_refl _,trivial⟩,fun r hr=>by simp [PV.ids] at hr⟩
 | .raw _,q,h=>by
   simp only [convV,Option.some.injEq] at h;subst h
   exact ⟨by simp only [PLe],fun r hr=>by simp [PV.ids] at hr⟩
 | .junk,q,h=>by
   simp only [convV,Option.some.injEq] at h;subst h
   exact ⟨by simp only [PLe],fun r hr=>by simp [PV.ids] at hr⟩
theorem convL_ok {st:Nat→Option SE} {np:Nat}:∀(l m:List PV),convL st np l=some m→PLeL st (kpR np []) l m∧∀r∈PV.idsL m,r<np
 | [],m,h=>by
   simp only [convL,Option.some.injEq] at h;subst h
   exact ⟨by simp only [PLeL],fun r hr=>by simp [PV.idsL] at hr⟩
 | p::ps,m,h=>by
   simp only [convL] at h
   split at h
   ·rename_i q qs hq hqs
    injection h with h;subst h
    have h1:=convV_ok p q hq
    have h2:=convL_ok ps qs hqs
    refine ⟨by simp only [PLeL];exact ⟨h1.1,h2.1⟩,fun r hr=> ?_⟩
    simp only [PV.idsL,List.mem_append] at hr
    exact hr.elim (h1.2 r) (h2.2 r)
   ·cases h
end
def convS (st:Nat→Option SE) (np:Nat):SE→Option SE
 | .box l=>match convL st np l with
   | some l'=>some (.box l')
   | none=>none
 | .row .. =>none
 | .bld T e s=>some (.bld T e s)
theorem convS_ok {st:Nat→Option SE} {np:Nat} {e e':SE} (h:convS st np e=some e'):SLe st (kpR np []) e e'∧∀r∈e'.ids,r<np:=by
 cases e with
 | box l=>
   simp only [convS] at h
   split at h
   ·rename_i l' hl
    injection h with h;subst h
    exact convL_ok l l' hl
   ·cases h
 | row _ _ _ _ _=>simp [convS] at h
 | bld T e s=>
   simp only [convS,Option.some.injEq] at h;subst h
   exact ⟨⟨rfl,rfl,rfl⟩,fun r hr=>by simp [SE.ids] at hr⟩
def convB (st:Nat→Option SE) (np:Nat):Nat→Nat→Option (List SE)
 | 0,_=>some []
 | j+1,k=>match st k with
   | some e=>match convS st np e,convB st np j (k+1) with
     | some e',some l=>some (e'::l)
     | _,_=>none
   | none=>none
theorem reN_lo {np r:Nat} (hn:np≤newBase) (h:r<np):reN [] r=r:=by
 unfold reN
 have:Nat.ble newBase r=false:=by rw [Bool.eq_false_iff];intro hh;have:=Nat.le_of_ble_eq_true hh;omega
 rw [this]
theorem sren_of {ρ:Nat→Nat} {e:SE} (h:∀r∈e.ids,ρ r=r):e.ren ρ=e:=by
 cases e with
 | box l=>rw [SE.ren,ren_ofL l h]
 | row _ _ _ _ _=>rfl
 | bld _ _ _=>rfl
theorem convB_ok {st:Nat→Option SE} {np:Nat} (hn:np≤newBase):∀(j k:Nat) (l:List SE),convB st np j k=some l→leBox st (kpR np []) [] k l∧l.length=j∧∀e∈l,∀r∈e.ids,r<np
 | 0,k,l,h=>by
   simp only [convB,Option.some.injEq] at h;subst h
   exact ⟨trivial,rfl,fun e he=>by simp at he⟩
 | j+1,k,l,h=>by
   simp only [convB] at h
   split at h
   ·rename_i e he
    split at h
    ·rename_i e' l' h1 h2
     injection h with h;subst h
     have g1:=convS_ok h1
     have g2:=convB_ok hn j (k+1) l' h2
     refine ⟨⟨?_,g2.1⟩,by simp [g2.2.1],fun x hx=> ?_⟩
     ·rw [he,sren_of (fun r hr=>reN_lo hn (g1.2 r hr))];exact g1.1
     ·rcases List.mem_cons.1 hx with rfl | hx
      ·exact g1.2
      ·exact g2.2.2 x hx
    ·cases h
   ·cases h
theorem inRes_lo {np:Nat}:∀{l:List Nat},(∀r∈l,r<np)→inRes np 0 l=true
 | [],_=>rfl
 | r::l,h=>by
   have h1:Nat.blt r np=true:=by rw [Nat.blt_eq];exact h r (by simp)
   simp only [inRes,h1,Bool.true_or]
   exact inRes_lo fun x hx=>h x (by simp [hx])
theorem inResS_lo {np:Nat}:∀{l:List SE},(∀e∈l,∀r∈e.ids,r<np)→inResS np 0 l=true
 | [],_=>rfl
 | e::l,h=>by
   simp only [inResS,inRes_lo (h e (by simp))]
   exact inResS_lo fun x hx=>h x (by simp [hx])
def C.uncut:C→Bool
 | .seq a b=>a.uncut&&b.uncut
 | .cond _ x y=>x.uncut&&y.uncut
 | .block _ b=>b.uncut
 | .loop b=>b.uncut
 | .scope b=>b.uncut
 | .cut _=>false
 | _=>true
theorem C.uncut_er:∀(c:C),c.uncut=true→c.er=c
 | .seq a b,h=>by
   simp only [C.uncut,Bool.and_eq_true] at h
   rw [C.er,C.uncut_er a h.1,C.uncut_er b h.2]
 | .cond _ x y,h=>by
   simp only [C.uncut,Bool.and_eq_true] at h
   rw [C.er,C.uncut_er x h.1,C.uncut_er y h.2]
 | .block _ b,h=>by rw [C.er,C.uncut_er b h]
 | .loop b,h=>by rw [C.er,C.uncut_er b h]
 | .scope b,h=>by rw [C.er,C.uncut_er b h]
 | .skip,_=>rfl
 | .reg _,_=>rfl
 | .drw _ _,_=>rfl
 | .exit _,_=>rfl
 | .ret,_=>rfl
 | .raw _,_=>rfl
 | .bad,_=>rfl
 | .lab _,_=>rfl
 | .gto _,_=>rfl
 | .cut _,h=>by simp [C.uncut] at h
abbrev Orc:=FuncId→List PV→List SE→Option CallRes
def OrcOK (P:Program) (R:Orc):Prop:=∀f args bs c,R f args bs=some c→PureCall P f args bs c
def runEnd (rs:List RV) (np:Nat) (s:PS):Option CallRes:=match s with
 | ⟨_,fr,st,_,_⟩=>match rvL fr st rs with
   | some ps=>match convV st np (tupOf ps),convB st np np 0 with
     | some v,some l=>some ⟨v,l, []⟩
     | _,_=>none
   | none=>none
def runBody (P:Program) (R:Orc) (H:Code→PS→Option PS) (k:Nat) (fn:Func) (args:List PV) (bs:List SE):Option CallRes:=
 match fn.body,mapO (compR P) fn.results.toList with
 | some code,some rs=>match comp P false code with
   | some cc=>match cc.uncut&& !(bs.any SE.isRow)&& !(fn.name== "runtime.NumGoroutine")&&Nat.ble (nbx bs) newBase with
     | true=>match runC R H (nbx bs) (mAs (rs.map fun r=>A.t r.1) 0) k [] (mAs (rs.map fun r=>A.t r.1) 0) cc (St (args.length+(fn.ntmps - args.length)) (argF 0 args) (boxF 0 bs)) with
       | some (.nrm,s)=>runEnd rs (nbx bs) s
       | some (.ret,s)=>runEnd rs (nbx bs) s
       | _=>none
     | false=>none
   | none=>none
 | _,_=>none
theorem runEnd_ok {rs:List RV} {np:Nat} {s:PS} {c:CallRes} (hn:np≤newBase) (h:runEnd rs np s=some c):∃ids,ResOK rs np c ids s:=by
 obtain ⟨n,fr,st,ok,log⟩:=s
 simp only [runEnd] at h
 split at h
 ·rename_i ps hps
  split at h
  ·rename_i v l hv hl
   injection h with h;subst h
   refine ⟨[], ?_⟩
   simp only [ResOK,hps]
   have g1:=convV_ok _ _ hv
   have g2:=convB_ok hn _ _ _ hl
   refine ⟨?_, ?_,g2.1,trivial⟩
   ·simp only [Bool.and_eq_true]
    refine ⟨⟨⟨⟨⟨⟨rfl,rfl⟩, ?_⟩,Nat.ble_eq_true_of_le hn⟩,inRes_lo g1.2⟩,inResS_lo g2.2.2⟩,rfl⟩
    rw [g2.2.1];exact Nat.beq_refl _
   ·rw [ren_of _ (fun r hr=>reN_lo hn (g1.2 r hr))];exact g1.1
  ·cases h
 ·cases h
theorem runBody_ok {P:Program} (hmix:P.follows .mixedOrders=true) {R:Orc} {H:Code→PS→Option PS} {k:Nat} {f:FuncId} {fn:Func} {args:List PV} {bs:List SE} {c:CallRes} (hf:P.funcs[f]? =some fn)
  (hR:OrcOK P R) (hH:∀np c s s',H c s=some s'→Runs P false np (.raw c) s .nrm s') (h:runBody P R H k fn args bs=some c):PureBody P f args bs c:=by
 unfold runBody at h
 split at h
 ·rename_i code rs hb hrs
  split at h
  ·rename_i cc hcc
   split at h
   ·rename_i hg
    simp only [Bool.and_eq_true,Bool.not_eq_true'] at hg
    obtain ⟨⟨⟨h1,h2⟩,h3⟩,h4⟩:=hg
    have hn:=Nat.le_of_ble_eq_true h4
    refine pure_body (wr:=false) (cc:= .cut cc) (rs:=rs) (n:=args.length+(fn.ntmps - args.length)) hmix hf ?_ (by unfold okBs;rw [h2];rfl) ?_
    ·unfold fits
     rw [hb,hrs]
     simp only [C.er,C.uncut_er cc h1]
     rw [if_pos ⟨trivial,trivial,h3⟩,hcc]
    ·refine ⟨trivial, ?_⟩
     split at h
     ·rename_i s hs
      exact (runC_sound hmix hR (hH _) k _ _ cc _ _ _ hs trivial).to ⟨(runC_sound hmix hR (hH (nbx bs)) k _ _ cc _ _ _ hs trivial).1,runEnd_ok hn h⟩
     ·rename_i s hs
      exact (runC_sound hmix hR (hH _) k _ _ cc _ _ _ hs trivial).to ⟨(runC_sound hmix hR (hH (nbx bs)) k _ _ cc _ _ _ hs trivial).1,runEnd_ok hn h⟩
     ·cases h
   ·cases h
  ·cases h
 ·cases h
open Go.RowKit
section
variable {P:Program}
def CallsN (P:Program) (f:FuncId) (args:Array Value) (w:World) (R:Ending→World→Prop):Prop:=CallsD P f args .returning w fun e u' w'=>u'= .returning∧R e w'
theorem callsN_mono (P:Program):MonoC (CallsN P):=fun _ _ _ _ _ h hr=>CallsD.mono h fun e u' w' ⟨h1,h2⟩=>⟨h1,hr e w' h2⟩
theorem PureBody.callN {f:FuncId} {args:List PV} {bs:List SE} {c:CallRes} (h:PureBody P f args bs c):PureCallC (CallsN P) P f args bs c:=
 ⟨h.1,fun w γ aas ls vals h1 h2 h3=>by
  obtain ⟨fn,cc,hf,hb,hw⟩:=h.2 w γ aas ls vals h1 h2 h3
  exact callsD_of_wp hf hb hw⟩
theorem Rep.df {lo np:Nat} {aas0 ls:Nat→Prop} {g0:Nat→Option GE} {d d':List Deferred} {γ:Gh} {w:World} {p:PV} {v:Value} (h:Rep ⟨lo,aas0,ls,np,g0,d⟩ γ w p v):Rep ⟨lo,aas0,ls,np,g0,d'⟩ γ w p v:=by
 induction h with
 | int k n=>exact .int k n
 | bool b=>exact .bool b
 | str s=>exact .str s
 | agg cs vs hl hc h ih=>exact .agg cs vs hl hc ih
 | tup cs vs hl h ih=>exact .tup cs vs hl ih
 | sl τ z n f ad cap vs hcap hz hf hb h ih=>exact .sl τ z n f ad cap vs hcap hz hf hb ih
 | nil z=>exact .nil z
 | os r ge hg h1 h2=>exact .os r ge hg h1 h2
 | vw h r lo n ge ad m cap hg hh hle h0 h2=>exact .vw h r lo n ge ad m cap hg hh hle h0 h2
 | pt r i j ge b hg hb=>exact .pt r i j ge b hg hb
 | rf r ge b hg hb=>exact .rf r ge b hg hb
 | rfs z n r ge b hg hb=>exact .rfs z n r ge b hg hb
 | rp τ cs a vs hf hb hc h ih=>exact .rp τ cs a vs hf hb hc ih
 | fn f first caps vs us hl hl' h h' ih ih'=>exact .fn f first caps vs us hl hl' ih ih'
 | raw v h1=>exact .raw v h1
 | cnd g p v h hu ih=>exact .cnd g p v ih hu
 | junk v=>exact .junk v
theorem RepL.df {lo np:Nat} {aas0 ls:Nat→Prop} {g0:Nat→Option GE} {d d':List Deferred} {γ:Gh} {w:World} {ps:List PV} {vs:List Value} (h:RepL ⟨lo,aas0,ls,np,g0,d⟩ γ w ps vs):RepL ⟨lo,aas0,ls,np,g0,d'⟩ γ w ps vs:=
 ⟨h.1,fun k c u h1 h2=>(h.2 k c u h1 h2).df⟩
theorem RepSt.df {lo np:Nat} {aas0 ls:Nat→Prop} {g0:Nat→Option GE} {d d':List Deferred} {γ:Gh} {w:World} {st:Nat→Option SE} (h:RepSt ⟨lo,aas0,ls,np,g0,d⟩ γ w st):RepSt ⟨lo,aas0,ls,np,g0,d'⟩ γ w st:=by
 refine ⟨h.dom,fun r ge e h1 h2=> ?_,h.inj,h.asOff,h.lt,h.glob⟩
 have h3:=h.at_ r ge e h1 h2
 cases e with
 | box l=>
   obtain ⟨b,k1,k2⟩:=h3
   refine ⟨b,k1,k2.imp ?_ id⟩
   rintro ⟨T,vs,q1,q2,q3⟩
   exact ⟨T,vs,q1,q2,q3.df⟩
 | row τ e z n f=>
   obtain ⟨vs,k1,k2,k3,k4,k5,k6,k7,k8⟩:=h3
   exact ⟨vs,k1,k2,k3,k4,k5,k6,k7,fun i j c u a1 a2 a3=>(k8 i j c u a1 a2 a3).df⟩
 | bld T e s=>exact h3
def defSt (RB:Orc) (F:FuncId) (st:Nat→Option SE):Option (Nat→Option SE):=match st 0 with
 | some (.box l)=>match lendCells l with
   | some l0=>match RB F [.pt 0 0 0] [.box l0] with
     | some ⟨_, [.box l1], []⟩=>match PV.idsL l1,natIn F givers,natIn F readers with
       | [],false,false=>some (upd st 0 (.box l1))
       | _,_,_=>none
     | _=>none
   | none=>none
 | _=>none
def defSts (RB:Orc):List FuncId→(Nat→Option SE)→Option (Nat→Option SE)
 | [],st=>some st
 | F::Fs,st=>match defSt RB F st with
   | some st'=>defSts RB Fs st'
   | none=>none
variable {X:Cx} {w0:World} {may:Nat→Prop}
theorem voidF_nil' {p:PV}:p.void []=p:=by
 have:=voidF_nil (fr:=fun _=>some p)
 have h2:=congrFun this 0
 simpa [voidF] using h2
theorem leaves_run {fn:Func} {tmps:Array Value} {v:Value} {R:Ending→World→Prop} {RB:Orc} (hRB:∀f args bs c,RB f args bs=some c→PureBody P f args bs c):
  ∀(Fs:List FuncId) (a:Act) (w:World) (s:PS) (γ:Gh) (st':Nat→Option SE),Rel X w0 may a w s γ→Rep X γ w (.pt 0 0 0) v→defSts RB Fs s.st=some st'→
  (∀w' γ',Rel X w0 may a w' ⟨s.n,s.fr,st',True,fun _=>none⟩ γ'→∃u,(results fn tmps).run P w'= .ok u w'∧R (.returned u) w')→
  Leaves P fn tmps R (Fs.map fun F=>⟨.fn (.func F) #[], #[v]⟩) .returning w
 | [],a,w,s,γ,st',hR,hv,h,hK=>by
   simp only [defSts,Option.some.injEq] at h;subst h
   exact hK w γ ⟨hR.1,hR.2,hR.3,hR.4,hR.5,hR.6,hR.7,hR.8,hR.9,hR.10,hR.11⟩
 | F::Fs,a,w,s,γ,st',hR,hv,h,hK=>by
   simp only [defSts] at h
   split at h
   ·rename_i st1 h1
    unfold defSt at h1
    split at h1
    ·rename_i l hl
     split at h1
     ·rename_i l0 hl0
      split at h1
      ·rename_i cv l1 hc
       split at h1
       ·rename_i hi hg hrd
        injection h1 with h1;subst h1
        have hpb:=(hRB _ _ _ _ hc).callN
        have hE:callV (PureCallC (CallsN P) P) 16 ⟨cv, [.box l1], []⟩ (.fn (.func F) [] []) [.pt 0 0 0] [0] [.box l]=some ⟨PV.ren (backName [(0, .box l0)] 16) cv, [PureCallC (CallsN P) P F [.pt 0 0 0] [.box l0] ⟨cv, [.box l1], []⟩], [(0, .box l1)], [], [], []⟩:=by
         have e1:PV.renL (backName [(0, .box l0)] 16) l1=l1:=ren_ofL _ (fun r hr=>by rw [hi] at hr;simp at hr)
         unfold callV callA
         simp [hg,hrd,lendL,lend,boxNo,boxesOf,hl0,sameKinds,SE.kind,SE.isRow,SE.ren,e1,newBase,fixAny]
        have hnew:newSt 16 [] [] [(0, .box l1)] [] s.st=some (upd s.st 0 (.box l1)):=by
         rw [newSt_eq];simp [voidS_nil,rmS_nil,wrS,nwS]
        obtain ⟨id,first,caps,hfe,_,hC⟩:=call_soundC (C:=CallsN P) (callsN_mono P) (fv:= .func (.func F) #[] #[]) (avs:= [v]) (st':=upd s.st 0 (.box l1)) hR.st hR.hX hR.heapLe hR.rowLo (.fn _ [] [] [] [] rfl rfl (fun _ _ _ h=>by simp at h) (fun _ _ _ h=>by simp at h)) (RepL.cons_ hv RepL.nil_) (by simp) (by simp [getL,hl]) hE ⟨hpb,trivial⟩ hnew
        simp only [Value.func.injEq,Fn.func.injEq] at hfe
        obtain ⟨rfl,rfl,rfl⟩:=hfe
        obtain ⟨⟨fn',hfn',hbody,hname⟩,_⟩:=hpb
        have hb:fn'.body≠none:=by intro h;rw [h] at hbody;cases hbody
        have hnm:fn'.name≠ "runtime.NumGoroutine":=by simpa using hname
        rw [List.map_cons]
        refine leaves_cons (f:=F) (args:= #[v]) (by simp) (by simp [invoke,callFunc,hfn',hb,hnm]) ?_
        have hargs:((#[]++ [v].toArray)++ #[]:Array Value)= #[v]:=by simp
        rw [hargs] at hC
        refine CallsD.mono hC ?_
        rintro e u' w' ⟨rfl,v1,γ',rfl,hE'⟩
        have hR':Rel X w0 may a w' ⟨s.n,s.fr,upd s.st 0 (.box l1),True,fun _=>none⟩ γ':=
         hR.after (s':=⟨s.n,s.fr,upd s.st 0 (.box l1),True,fun _=>none⟩) (dst:=none) hE' rfl fun t p hp=> .inr ⟨by simp,p,hp,voidF_nil'.symm⟩
        have hv':Rep X γ' w' (.pt 0 0 0) v:=by
         have:=hE'.old _ _ hv
         rwa [voidF_nil'] at this
        exact leaves_run hRB Fs a w' ⟨s.n,s.fr,upd s.st 0 (.box l1),True,fun _=>none⟩ γ' st' hR' hv' h fun w2 γ2 h2=>hK w2 γ2 h2
       ·cases h1
      ·cases h1
     ·cases h1
    ·cases h1
   ·cases h
def dfOf:Code→Option (Nat×FuncId)
 | .region _ ops false=>match ops.toList with
   | [o1,o2]=>match o1.dst,o1.op,o1.guard,o2.dst,o2.op,o2.guard with
     | some t, .move (.tmp 0),none,none, .defer cl,none=>match cl.callee,cl.args.toList with
       | .value (.func F), [.tmp t']=>if t'=t∧t≠0 then some (t,F) else none
       | _,_=>none
     | _,_,_,_,_,_=>none
   | _=>none
 | _=>none
def dfs:Code→List (Nat×FuncId)×Code
 | .seq a b=>match dfOf a with
   | some x=>match dfs b with
     | (l,r)=>(x::l,r)
   | none=>([], .seq a b)
 | c=>([],c)
theorem df_wp {c:Code} {t:Nat} {F:FuncId} (h:dfOf c=some (t,F)) {Q:Exit→Act→World→Prop} {a:Act} {w:World} {v:Value} (h0:a.tmps.getD 0 undef=v) (ht:t<a.tmps.size)
  (hQ:Q .normal { tmps:=a.tmps.setIfInBounds t v,defers:=⟨.fn (.func F) #[], #[v]⟩::a.defers } w):c.wp P Q a w:=by
 unfold dfOf at h
 split at h
 ·rename_i id ops
  split at h
  ·rename_i o1 o2 ho
   split at h
   ·rename_i t1 cl d1 p1 g1 d2 p2 g2
    split at h
    ·rename_i F1 t2 hcl hargs
     split at h
     ·rename_i hc
      simp only [Option.some.injEq,Prod.mk.injEq] at h
      obtain ⟨rfl,rfl⟩:=h
      obtain ⟨rfl,hne⟩:=hc
      have hops:ops= #[o1,o2]:=by apply Array.ext';simpa using ho
      subst hops
      have hargs':cl.args= #[.tmp t2]:=by apply Array.ext';simpa using hargs
      apply wp_region
      have h0':a.eval (.tmp 0)=v:=h0
      have e2:(a.tmps.setIfInBounds t2 v).getD t2 undef=v:=by simp [Array.getD_eq_getD_getElem?,ht]
      simp only [List.size_toArray,List.length_cons,List.length_nil,List.range_succ,List.range_zero,List.nil_append,List.cons_append,wpOps,List.getElem?_toArray,List.getElem?_cons_zero,List.getElem?_cons_succ,Region.wanted,g1,g2,if_true]
      left
      unfold Oper.wp
      have hr1:(execOp a.eval o1).run P w= .ok (.value v) w:=by
       unfold execOp;rw [p1];simp [h0']
      rw [hr1,Oper.upon_value,d1]
      left
      have hr2:(execOp (a.put (some t2) v).eval o2).run P w= .ok (.defer ⟨.fn (.func F1) #[], #[v]⟩) w:=by
       unfold execOp;rw [p2]
       have e3:(a.put (some t2) v).eval (.tmp t2)=v:=e2
       have e4:(a.put (some t2) v).eval (.func F1)= .func (.func F1) #[] #[]:=rfl
       simp [resolve,hcl,hargs',Deferred.ofValue,e3,e4]
      rw [hr2,Oper.upon_defer,d2]
      exact hQ
     ·cases h
    ·cases h
   ·cases h
  ·cases h
 ·cases h
theorem dfs_wp {v:Value}:∀(c:Code) (l:List (Nat×FuncId)) (r:Code) {Q:Exit→Act→World→Prop} (a:Act) (w:World),dfs c=(l,r)→a.tmps.getD 0 undef=v→(∀x∈l,x.1<a.tmps.size∧x.1≠0)→
  (∀a':Act,a'.tmps.size=a.tmps.size→a'.tmps.getD 0 undef=v→a'.defers=(l.reverse.map fun x=>⟨.fn (.func x.2) #[], #[v]⟩)++a.defers→r.wp P Q a' w)→c.wp P Q a w:=by
 intro c
 induction c with
 | seq x y ihx ihy=>
   intro l r Q a w h h0 hl hQ
   simp only [dfs] at h
   split at h
   ·rename_i p hp
    cases hy:dfs y with
    | mk l2 r2=>
      rw [hy] at h
      simp only [Prod.mk.injEq] at h
      obtain ⟨rfl,rfl⟩:=h
      obtain ⟨t,F⟩:=p
      have ht:=hl (t,F) (by simp)
      refine wp_seq ?_
      refine df_wp hp h0 ht.1 ?_
      refine ihy l2 r2 _ w hy ?_ (fun x hx=> ?_) fun a' g1 g2 g3=>hQ a' ?_ g2 ?_
      ·have hne:t≠0:=ht.2
       simp [Array.getD_eq_getD_getElem?,Array.getElem?_setIfInBounds_ne hne] at h0⊢
       exact h0
      ·have:=hl x (by simp [hx]);simpa using this
      ·simpa using g1
      ·rw [g3];simp
   ·simp only [Prod.mk.injEq] at h
    obtain ⟨rfl,rfl⟩:=h
    exact hQ a rfl h0 (by simp)
 | _=>
   intro l r Q a w h h0 hl hQ
   simp only [dfs,Prod.mk.injEq] at h
   obtain ⟨rfl,rfl⟩:=h
   exact hQ a rfl h0 (by simp)
def okDf (n:Nat):List (Nat×FuncId)→Bool
 | []=>true
 | x::l=>match Nat.blt x.1 n,Nat.beq x.1 0 with
   | true,false=>okDf n l
   | _,_=>false
theorem okDf_ok {n:Nat}:∀{l:List (Nat×FuncId)},okDf n l=true→∀x∈l,x.1<n∧x.1≠0
 | [],_,x,hx=>by simp at hx
 | y::l,h,x,hx=>by
   simp only [okDf] at h
   split at h
   ·rename_i h1 h2
    rcases List.mem_cons.1 hx with rfl | hx
    ·refine ⟨by rwa [Nat.blt_eq] at h1,fun h0=> ?_⟩
     rw [h0] at h2;cases h2
    ·exact okDf_ok h x hx
   ·cases h
def runDef (P:Program) (R RB:Orc) (H:Code→PS→Option PS) (k:Nat) (fn:Func) (args:List PV) (bs:List SE):Option CallRes:=
 match fn.body,fn.results.toList,args,bs with
 | some code, [], [.pt 0 0 0], [.box l]=>match dfs code with
   | (ds,rest)=>match comp P false rest with
     | some cc=>match cc.uncut&& !(fn.name== "runtime.NumGoroutine")&&okDf (1+(fn.ntmps - 1)) ds with
       | true=>match runC R H 1 0 k [] 0 cc (St (1+(fn.ntmps - 1)) (argF 0 [.pt 0 0 0]) (boxF 0 [.box l])) with
         | some (.nrm,s)=>match s.st 0,defSts RB (ds.reverse.map (·.2)) s.st with
           | some (.box _),some st'=>runEnd [] 1 ⟨s.n,s.fr,st',True,fun _=>none⟩
           | _,_=>none
         | _=>none
       | false=>none
     | none=>none
 | _,_,_,_=>none
theorem runDef_ok (hmix:P.follows .mixedOrders=true) {R RB:Orc} {H:Code→PS→Option PS} {k:Nat} {f:FuncId} {fn:Func} {args:List PV} {bs:List SE} {c:CallRes} (hf:P.funcs[f]? =some fn)
  (hR:OrcOK P R) (hRB:∀f args bs c,RB f args bs=some c→PureBody P f args bs c) (hH:∀np c s s',H c s=some s'→Runs P false np (.raw c) s .nrm s') (h:runDef P R RB H k fn args bs=some c):PureCall P f args bs c:=by
 unfold runDef at h
 split at h
 ·rename_i code l hb hres
  cases hds:dfs code with
  | mk ds rest=>
    rw [hds] at h
    simp only at h
    split at h
    ·rename_i cc hcc
     split at h
     ·rename_i hg
      simp only [Bool.and_eq_true,Bool.not_eq_true'] at hg
      obtain ⟨⟨h1,h3⟩,h4⟩:=hg
      split at h
      ·rename_i s hs
       split at h
       ·rename_i lb st' hs0 hst'
        have hrun:=runC_sound (np:=1) hmix hR (hH 1) k _ _ cc _ _ _ hs trivial
        have hres':mapO (compR P) fn.results.toList=some []:=by rw [hres];rfl
        refine ⟨⟨fn,hf,by rw [hb];rfl,h3⟩,fun w γ aas ls vals hst hX hargs=> ?_⟩
        obtain ⟨v,vs,rfl,hv,hvs⟩:=hargs.cons_inv
        cases hvs.nil_inv
        refine calls_of_wp_defers hf hb ?_
        have hR0:=rel_start (n:=1+(fn.ntmps - 1)) (bs:= [.box l]) (nt:=fn.ntmps) hst hX hargs rfl rfl
        have hv0:(([v].toArray++Array.replicate (fn.ntmps - [v].toArray.size) undef):Array Value).getD 0 undef=v:=by simp [Array.getD_eq_getD_getElem?,Array.getElem?_append]
        have hsz:(([v].toArray++Array.replicate (fn.ntmps - [v].toArray.size) undef):Array Value).size=1+(fn.ntmps - 1):=by simp
        refine dfs_wp code ds rest _ w hds hv0 (fun x hx=>by rw [hsz];exact okDf_ok h4 x hx) fun a' g1 g2 g3=> ?_
        simp only [List.append_nil] at g3
        have hRa:Rel ⟨w.heap.size,aas,ls,1,γ,a'.defers⟩ w γ.own a' w (St (1+(fn.ntmps - 1)) (argF 0 [.pt 0 0 0]) (boxF 0 [.box l])) γ:=by
         refine ⟨by rw [g1,hsz];rfl,rfl,fun t p hp=> ?_,RepSt.df hR0.st,hR0.keeps,hR0.lo,hR0.own,hR0.asLt,hR0.par,hR0.mayP,hR0.fx⟩
         obtain ⟨q1,q2⟩:=hR0.fr t p hp
         refine ⟨q1, ?_⟩
         obtain ⟨_,hh⟩:=argF_get _ _ _ _ hp
         have ht:t=0:=by
          rcases Nat.eq_zero_or_pos t with h | h
          ·exact h
          ·rw [List.getElem?_eq_none (by simp;omega)] at hh;cases hh
         subst ht
         simp only [hv0] at q2
         rw [g2];exact q2.df
        have hQ:∀lv t,(lv=Lv.nrm∧t=s)→t.ok:=fun lv t ⟨_,e⟩=>by rw [e];exact hrun.1
        refine wp_mono (hrun.2 hQ rest (by rw [C.uncut_er cc h1];exact hcc) _ w γ.own a' w γ rfl hRa) ?_
        rintro e a2 w2 ⟨lv,s2,γ2,he,⟨rfl,rfl⟩,hR2⟩
        cases e with
        | normal=>
          show Leaves P fn a2.tmps _ a2.defers .returning w2
          rw [hR2.defers,g3]
          have hv2:Rep ⟨w.heap.size,aas,ls,1,γ,a'.defers⟩ γ2 w2 (.pt 0 0 0) v:=by
           obtain ⟨ge,b,hge,hgb,hve⟩:=pt_inv hv
           rw [hve]
           have hp:=hR2.par 0 (show 0<1 by omega)
           rw [hs0] at hp
           have this:γ2 0=γ 0:=hp
           exact .pt 0 0 0 ge b (by rw [this];exact hge) hgb
          have hl:=leaves_run (fn:=fn) (tmps:=a2.tmps) (R:=fun e w'=>∃v γ',e= .returned v∧Rep ⟨w.heap.size,aas,ls,nbx [SE.box l],γ, []⟩ γ' w' c.val v∧RepSt ⟨w.heap.size,aas,ls,nbx [SE.box l],γ, []⟩ γ' w' (resSt c)∧
           Keeps γ.own w w'∧(∀r,r<parN [SE.box l] c→ParR (γ' r) (γ r) (resSt c r))∧(∀r ge b,γ' r=some ge→ge.has b→w.heap.size≤b∨(nbx [SE.box l]=0∧γ.own b)∨∃ge0,γ r=some ge0∧ge0.has b)) hRB (ds.reverse.map (·.2)) a2 w2 s2 γ2 st' hR2 hv2 hst' (fun w3 γ3 hR3=>by
            obtain ⟨u,k1,v',γ',k2,k3,k4,k5⟩:=res_key (bs:= [SE.box l]) hres' hR3 (runEnd_ok (show 1≤newBase by unfold newBase;omega) h)
            exact ⟨u,k1,v',γ',k2,k3.df,RepSt.df k4,k5⟩)
          have hm:(ds.reverse.map fun x=>(⟨.fn (.func x.2) #[], #[v]⟩:Deferred))=(ds.reverse.map (·.2)).map fun F=>⟨.fn (.func F) #[], #[v]⟩:=by rw [List.map_map];rfl
          rw [hm]
          exact hl
        | exit id=>obtain ⟨hb,hh⟩:=lvOf_exit he;cases hh
        | goto l=>cases he
        | ret=>cases he
        | panic ch=>cases he
        | outgrown=>cases he
       ·cases h
      ·cases h
     ·cases h
    ·cases h
 ·cases h
def runB (P:Program) (R:Orc) (H:Code→PS→Option PS) (k:Nat):Orc:=fun f args bs=>match P.funcs[f]? with
 | some fn=>runBody P R H k fn args bs
 | none=>none
def hasDf (fn:Func):Bool:=match fn.body with
 | some c=>match (dfs c).1 with
   | []=>false
   | _=>true
 | none=>false
def runF (P:Program) (O:Orc→Orc) (H:Code→PS→Option PS) (k:Nat):Nat→Orc
 | 0,_,_,_=>none
 | d+1,f,args,bs=>match O (runF P O H k d) f args bs with
   | some c=>some c
   | none=>match P.funcs[f]? with
     | some fn=>match hasDf fn with
       | true=>runDef P (runF P O H k d) (runB P (runF P O H k d) H k) H k fn args bs
       | false=>runBody P (runF P O H k d) H k fn args bs
     | none=>none
theorem runB_ok (hmix:P.follows .mixedOrders=true) {R:Orc} {H:Code→PS→Option PS} {k:Nat} (hR:OrcOK P R) (hH:∀np c s s',H c s=some s'→Runs P false np (.raw c) s .nrm s'):
  ∀f args bs c,runB P R H k f args bs=some c→PureBody P f args bs c:=fun f args bs c h=>by
 unfold runB at h
 split at h
 ·rename_i fn hfn
  exact runBody_ok hmix hfn hR hH h
 ·cases h
theorem runF_ok (hmix:P.follows .mixedOrders=true) {O:Orc→Orc} {H:Code→PS→Option PS} {k:Nat} (hO:∀R,OrcOK P R→OrcOK P (O R))
  (hH:∀np c s s',H c s=some s'→Runs P false np (.raw c) s .nrm s'):∀d,OrcOK P (runF P O H k d)
 | 0=>fun f args bs c h=>by simp [runF] at h
 | d+1=>fun f args bs c h=>by
   have ih:=runF_ok (k:=k) hmix hO hH d
   simp only [runF] at h
   split at h
   ·rename_i c' hc
    injection h with h;subst h
    exact hO _ ih _ _ _ _ hc
   ·split at h
    ·rename_i fn hfn
     split at h
     ·exact runDef_ok hmix hfn ih (runB_ok hmix ih hH) hH h
     ·exact (runBody_ok hmix hfn ih hH h).call
    ·cases h
end
def awT:List UInt8:= [114,97,110,107,32,49,32,109,111,115,116,32,51,48,10,114,97,110,107,32,50,32,108,101,97,115,116,32,53,48,10]
def awL:List Cd:= [⟨1,2,30,0,364,0,16777216⟩,⟨2,1,50,0,364,0,16777216⟩]
theorem awake_text:parseG awT=(awL,0,0):=by decide +kernel
theorem aw_choose:relF (choL awL 0 150 0 0 1073741824) 90=30∧(choL awL 0 150 0 0 1073741824).lo=0∧(choL awL 0 150 0 0 1073741824).hi=30∧(choL awL 0 150 0 0 1073741824).ys= [(1,0)]:=by decide +kernel
def numsI:List PV→Option (List Int)
 | []=>some []
 | .int .i64 n::l=>match numsI l with
   | some r=>some (n::r)
   | none=>none
 | _=>none
theorem numsI_ok:∀{l:List PV} {r:List Int},numsI l=some r→l=r.map fun n=> .int .i64 n
 | [],r,h=>by simp [numsI] at h;subst h;rfl
 | p::l,r,h=>by
   unfold numsI at h
   split at h
   ·rename_i e;cases e
   ·rename_i n l' e
    injection e with e1 e2
    subst e1;subst e2
    split at h
    ·rename_i r' hr
     injection h with h;subst h
     rw [numsI_ok hr];rfl
    ·cases h
   ·cases h
def awO:Orc→Orc:=fun _ f args bs=>match f,args,bs with
 | 19, [.str s], []=>if s=awT then some ⟨.tup [.sl 0 7 2 (fl eCd awL), .int .i64 0, .int .i64 0], [], []⟩ else none
 | 22, [.sl 1 7 2 g, .int .i64 d, .int .i64 v, .int .i64 b, .agg [.int .i64 lo, .int .i64 hi], .int .i64 w], []=>
   if (numsI (g 0)=some [1,2,30,0,364,0,16777216]∧numsI (g 1)=some [2,1,50,0,364,0,16777216])∧(d=0∧v=150∧b=0∧lo=0∧hi=1073741824∧w=90) then
    some ⟨.tup [.agg [.int .i64 30, .int .i64 0, .int .i64 30, .sl 0 2 1 (fl eYd [(1,0)])], .int .i64 0], [], []⟩ else none
 | _,_,_=>none
theorem awO_ok (R:Orc):OrcOK Tryz.prog (awO R):=fun f args bs c h=>by
 unfold awO at h
 split at h
 ·split at h
  ·rename_i hs
   injection h with h;subst h;subst hs
   have:=call19 awT (by decide)
   rw [awake_text] at this
   exact this
  ·cases h
 ·split at h
  ·rename_i g d v b lo hi w hs
   injection h with h;subst h
   obtain ⟨⟨h0,h1⟩,rfl,rfl,rfl,rfl,rfl,rfl⟩:=hs
   obtain ⟨c1,c2,c3,c4⟩:=aw_choose
   have:=call22 awL 0 150 0 0 1073741824 90 (by decide) (by decide +kernel) (by decide) (by decide) (by decide) (by decide) (by decide) (by decide) (by decide)
   rw [c1,c2,c3,c4] at this
   refine PureCall.arg_le this rfl ?_
   have hr:RowEq 2 g (fl eCd awL):=fun i hi=>by
    match i,hi with
    | 0,_=>rw [numsI_ok h0];rfl
    | 1,_=>rw [numsI_ok h1];rfl
   exact ent
  ·cases h
 ·cases h
def awH:Code→PS→Option PS:=fun _ _=>none
theorem call16:PureCall Tryz.prog 16 [] [] ⟨.bool true, [], []⟩:=by
 have h:runF Tryz.prog awO awH 1000 20 16 [] []=some ⟨.bool true, [], []⟩:=by kernel_rfl
 exact runF_ok mix (fun R _=>awO_ok R) (fun _ _ _ _ h=>by cases h) 20 16 [] [] _ h
theorem call5 (l:List Int):PureCall Tryz.prog 5 [.sl 1 1 l.length (fl eInt l)] [] ⟨.bool true, [], []⟩:=call5_of (fun τ l w h1 h2 h3=>call42 τ l w h1 h2 h3) call16 l
open Go.RowKit Go.ChangeShapes
open Go.RowKit Go.ChangeShapes
end Pv
end Go.Proofs.YtdcgnfkkklbckaaGreatDoor
