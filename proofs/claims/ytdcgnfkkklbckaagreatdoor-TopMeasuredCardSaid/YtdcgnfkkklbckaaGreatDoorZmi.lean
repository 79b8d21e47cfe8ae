/- THE WALKS: made conditions. -/
import Derived.Test.YtdcgnfkkklbckaaGreatDoorZmg
import Derived.Test.YtdcgnfkkklbckaaGreatDoorZmh
import Derived.Lib.ItoaLen
import Derived.RangeFuncNested
import Derived.RangeFuncBound
import Derived.RangeFuncCalls
import Derived.RangeFuncLeaves
import Derived.RangeFuncBox
import Derived.Test.YtdcgnfkkklbckaaGreatDoorZma
import Derived.Shelf.Abstract
import Derived.Shelf.RegionOpen
import Derived.WalkKit
import Derived.OwnWalkIn
import Derived.TacticsInMore
import Derived.LoopNIn
import Derived.LoopIn
import Derived.Maps.AppendAt
import Derived.Test.YtdcgnfkkklbckaaGreatDoorProg
import Derived.Test.YtdcgnfkkklbckaaGreatDoorZmf
import Derived.ProofKit
import Derived.ChangeOld
import Derived.DataElems
import Derived.Below
import Derived.Lib.Join
import Derived.Lib.SlTrimSet
import Derived.Lib.Atoi
set_option linter.unusedSimpArgs false
set_option linter.unusedVariables false
set_option maxRecDepth 100000
set_option maxHeartbeats 8000000
namespace Go.Proofs.YtdcgnfkkklbckaaGreatDoor
namespace Pv
namespace G06
def c29L2:C:=(sr [kk 29 (.bi false .lss 28 (cn 3))] (.seq (.cond 29 .skip (.exit 2)) (.seq (.block 3 (sr [kk 30 (.ixa 3 1 false 27 28),km 9 30] (.reg [km 31 9,kk 32 (cl 65 [31]),kk 33 (.bi false .add 32 (.c (.str [32]))),kk 34 (cl 64 [5,33])]))) (.reg [kk 35 (.bi false .add 28 (cn 1)),km 28 35]))))
def c29L1:C:=(sr [kk 18 (.bi false .lss 17 16)] (.seq (.cond 18 .skip (.exit 0)) (.seq (.block 1 (sr [kk 19 (.ia 4 15 17),kk 20 (.ld 4 true 19),kk 7 (.al [(.int .i64 0),(.int .i64 0),(.int .i64 0),(.int .i64 0)]),kz (.st 4 7 20)] (.seq (sr [kk 21 (.fa 0 7),kk 22 (.ld 1 false 21),kk 23 (.fa 1 7),kk 24 (.ld 1 false 23),kk 25 (.fa 2 7),kk 26 (.ld 1 false 25),kk 27 (.bd [(.int .i64 0),(.int .i64 0),(.int .i64 0)] [(0,1,22),(1,1,24),(2,1,26)]),kk 28 (.mv (cn 0))] (.block 2 (.loop c29L2))) (.reg [kk 36 (.fa 3 7),kk 37 (.ld 1 false 36),kk 38 (.iaa 3 1 (.c (.rp 1 [(.str [111,107]),(.str [105,99,101]),(.str [102,97,117,108,116])])) 37),kk 39 (.ld 1 false 38),kk 40 (.bi false .add 39 (.c (.str [10]))),kk 41 (cl 64 [5,40])])))) (.reg [kk 42 (.bi false .add 17 (cn 1)),km 17 42]))))
def c29:C:=(sr [kk 2 (.mv (.c (.str []))),kk 3 (.mv (cn 0))] (.seq (sr [km 10 0,kk 11 (cl 82 [10]),km 4 11] (sr [km 12 4,kk 13 (.bi false .neq 12 (cn 0))] (.cond 13 (sr [km 14 4,kk 2 (.mv (.c (.str []))),km 3 14] .ret) .skip))) (sr [kk 5 (.alb 169 5)] (.seq (sr [km 15 0,kk 16 (.len 15),kk 17 (.mv (cn 0))] (.block 0 (.loop c29L1))) (sr [kk 43 (cl 67 [5]),km 2 43,kk 3 (.mv (cn 0))] .ret)))))
theorem fits29:fits Tryz.prog false Tryz.f29 1 44 [(2,none),(3,none)]=some c29.er:=by kernel_rfl
def wordT (f:Int):List UInt8:=flagWords.getD f.toNat default
def tJ (r:Rd):Nat→List UInt8
 | 0=> []
 | 1=>Lib.itoa r.g++ [32]
 | 2=>(Lib.itoa r.g++ [32])++(Lib.itoa r.t++ [32])
 | _=>((Lib.itoa r.g++ [32])++(Lib.itoa r.t++ [32]))++(Lib.itoa r.v++ [32])
def lineT (r:Rd):List UInt8:=tJ r 3++(wordT r.f++ [10])
def printL (l:List Rd):List UInt8:=l.flatMap lineT
theorem wordT_len {f:Int}:(wordT f).length≤5:=by
 unfold wordT flagWords
 match f.toNat with
 | 0=>decide
 | 1=>decide
 | 2=>decide
 | n+3=>simp only [List.getD,List.length_cons,List.length_nil];exact Nat.zero_le _
theorem lineT_len {r:Rd} (h:RdV r):(lineT r).length≤100∧∀j,(tJ r j).length≤80:=by
 obtain ⟨h1,h2,h3,h4⟩:=h
 have a1:=Lib.itoa_length_le r.g (by omega) (by omega)
 have a2:=Lib.itoa_length_le r.t (by omega) (by omega)
 have a3:=Lib.itoa_length_le r.v (by omega) (by omega)
 have a4:=wordT_len (f:=r.f)
 have hj:∀j,(tJ r j).length≤80:=fun j=>by
  match j with
  | 0=>simp [tJ]
  | 1=>simp only [tJ,List.length_append,List.length_cons,List.length_nil];omega
  | 2=>simp only [tJ,List.length_append,List.length_cons,List.length_nil];omega
  | n+3=>simp only [tJ,List.length_append,List.length_cons,List.length_nil];omega
 refine ⟨?_,hj⟩
 have:=hj 3
 simp only [lineT,List.length_append,List.length_cons,List.length_nil]
 omega
theorem printL_take {l:List Rd} {i:Nat} (h:i<l.length):printL (l.take (i+1))=printL (l.take i)++lineT (l.getD i default):=by
 rw [take_push h];simp [printL]
theorem printL_len {l:List Rd} (hV:∀i,i<l.length→RdV (l.getD i default)):∀i,i≤l.length→(printL (l.take i)).length≤100*i
 | 0,_=>by simp [printL]
 | i+1,hi=>by
   have ih:=printL_len hV i (by omega)
   have h1:=(lineT_len (hV i hi)).1
   rw [printL_take hi,List.length_append]
   omega
theorem call29 (τ:Nat) (l:List Rd) (hl:l.length≤4611686018427387904) (hb:limR l=0):PureCall Tryz.prog 29 [.sl τ 4 l.length (fl eRd l)] [] ⟨.tup [.str (printL l), .int .i64 0], [], []⟩:=by
 obtain ⟨hl2,hV⟩:=lim_ok hb
 refine pure_call mix Tryz.func29 fits29 rfl ?_
 conv=>whnf
 refine ⟨_,fun _=>call82 _ l hl, ?_⟩
 conv=>whnf
 refine ⟨?_,fun hc=> ?_,fun hc=> ?_⟩
 ·exact g0
 ·rw [hb] at hc;cases hc
 conv=>whnf
 refine ⟨trivial, ?_⟩
 refine LSem.loop (n:=44) mix (α:=Nat) (fun i=>i≤l.length)
  (fun i=> [(5, .pt 80 0 0),(15, .sl τ 4 l.length (fl eRd l)),(16, .int .i64 l.length),(17, .int .i64 i)])
  (fun i=> [(80, .bld 169 5 (printL (l.take i)))]) (fun i=>l.length - i) 0 ?_ ?_ ?_
 ·exact Nat.zero_le _
 ·refine ⟨rfl,rfl, ?_, ?_⟩
  all_goals exact ent
 ·intro i hi
  have hj:((i:Int)).toNat=i:=by omega
  conv=>whnf
  refine ⟨trivial,fun hc=> ?_,fun hc=> ?_⟩
  ·replace hc:=of_decide_eq_true hc
   have hlt:i<l.length:=by
    have h:(i:Int)<l.length:=hc
    omega
   have hpl:=printL_len hV i hi
   have hpt:=printL_take hlt
   have hr:=hV i hlt
   have hll:=lineT_len hr
   conv=>whnf
   rw [hj]
   generalize l.getD i default=r at hpt hr hll⊢
   refine ⟨?_, ?_⟩
   ·exact g0
   refine LSem.loop (n:=44) mix (α:=Nat) (fun j=>j≤3)
    (fun j=> [(5, .pt 80 0 0),(15, .sl τ 4 l.length (fl eRd l)),(16, .int .i64 l.length),(17, .int .i64 i),(7, .pt 112 0 0),(27, .agg [.int .i64 r.g, .int .i64 r.t, .int .i64 r.v]),(28, .int .i64 j)])
    (fun j=> [(80, .bld 169 5 (printL (l.take i)++tJ r j)),(112, .box (eRd r))]) (fun j=>3 - j) 0 ?_ ?_ ?_
   ·exact Nat.zero_le _
   ·refine ⟨rfl,rfl, ?_, ?_⟩
    all_goals repeat' (first | exact True.intro | refine leF_cons rfl ?_ ?_ | refine leS_cons rfl ?_ ?_ | (show PLe _ _ _ _;conv=>whnf) | (show SLe _ _ _ _;conv=>whnf) | (show PLeL _ _ _ _;conv=>whnf) | apply And.intro | rfl | exact Nat.le_refl _ | exact fun _ _=>rfl | exact rowEq0 _ _)
    all_goals first | (show _=_++ [];rw [List.append_nil];done) | skip
   ·intro j hj3
    obtain ⟨h1,h2,h3,h4⟩:=hr
    have hlj:=hll.2 j
    have h0123:j=0∨j=1∨j=2∨j=3:=by omega
    rcases h0123 with rfl | rfl | rfl | rfl
    ·conv=>whnf
     refine ⟨trivial,fun hc=> ?_,fun hc=>(by cases hc)⟩
     have hx:=Lib.itoa_length_le r.g (by omega) (by omega)
     conv=>whnf
     refine ⟨_,fun _=>call65 r.g (by omega) (by omega), ?_⟩
     conv=>whnf
     refine ⟨_,fun _=>call64 (printL (l.take i)++tJ r 0) (Lib.itoa r.g++ [32]) (by simp only [List.length_append,List.length_cons,List.length_nil] at hlj⊢;omega), ?_⟩
     conv=>whnf
     refine ⟨?_,1, ?_, ?_,rfl,rfl, ?_, ?_⟩
     ·exact g0
     ·omega
     ·omega
     all_goals repeat' (first | exact True.intro | refine leF_cons rfl ?_ ?_ | refine leS_cons rfl ?_ ?_ | (show PLe _ _ _ _;conv=>whnf) | (show SLe _ _ _ _;conv=>whnf) | (show PLeL _ _ _ _;conv=>whnf) | apply And.intro | rfl | exact Nat.le_refl _ | exact fun _ _=>rfl | exact rowEq0 _ _)
     all_goals first | (rw [List.append_assoc];rfl) | skip
    ·conv=>whnf
     refine ⟨trivial,fun hc=> ?_,fun hc=>(by cases hc)⟩
     have hx:=Lib.itoa_length_le r.t (by omega) (by omega)
     conv=>whnf
     refine ⟨_,fun _=>call65 r.t (by omega) (by omega), ?_⟩
     conv=>whnf
     refine ⟨_,fun _=>call64 (printL (l.take i)++tJ r 1) (Lib.itoa r.t++ [32]) (by simp only [List.length_append,List.length_cons,List.length_nil] at hlj⊢;omega), ?_⟩
     conv=>whnf
     refine ⟨?_,2, ?_, ?_,rfl,rfl, ?_, ?_⟩
     ·exact g0
     ·omega
     ·omega
     all_goals repeat' (first | exact True.intro | refine leF_cons rfl ?_ ?_ | refine leS_cons rfl ?_ ?_ | (show PLe _ _ _ _;conv=>whnf) | (show SLe _ _ _ _;conv=>whnf) | (show PLeL _ _ _ _;conv=>whnf) | apply And.intro | rfl | exact Nat.le_refl _ | exact fun _ _=>rfl | exact rowEq0 _ _)
     all_goals first | (rw [List.append_assoc];rfl) | skip
    ·conv=>whnf
     refine ⟨trivial,fun hc=> ?_,fun hc=>(by cases hc)⟩
     have hx:=Lib.itoa_length_le r.v (by omega) (by omega)
     conv=>whnf
     refine ⟨_,fun _=>call65 r.v (by omega) (by omega), ?_⟩
     conv=>whnf
     refine ⟨_,fun _=>call64 (printL (l.take i)++tJ r 2) (Lib.itoa r.v++ [32]) (by simp only [List.length_append,List.length_cons,List.length_nil] at hlj⊢;omega), ?_⟩
     conv=>whnf
     refine ⟨?_,3, ?_, ?_,rfl,rfl, ?_, ?_⟩
     ·exact g0
     ·omega
     ·omega
     all_goals repeat' (first | exact True.intro | refine leF_cons rfl ?_ ?_ | refine leS_cons rfl ?_ ?_ | (show PLe _ _ _ _;conv=>whnf) | (show SLe _ _ _ _;conv=>whnf) | (show PLeL _ _ _ _;conv=>whnf) | apply And.intro | rfl | exact Nat.le_refl _ | exact fun _ _=>rfl | exact rowEq0 _ _)
     all_goals first | (rw [List.append_assoc];rfl) | skip
    ·conv=>whnf
     refine ⟨trivial,fun hc=>(by cases hc),fun hc=> ?_⟩
     obtain ⟨g,t,v,f⟩:=r
     have hf:f=0∨f=1∨f=2:=by dsimp only at h4;omega
     rcases hf with rfl | rfl | rfl
     ·conv=>whnf
      refine ⟨_,fun _=>call64 (printL (l.take i)++tJ ⟨g,t,v,0⟩ 3) ([111,107]++ [10]) (by simp only [List.length_append,List.length_cons,List.length_nil] at hlj⊢;omega), ?_⟩
      conv=>whnf
      refine ⟨?_,i+1,hlt, ?_,rfl,rfl, ?_, ?_⟩
      ·exact g0
      ·omega
      all_goals repeat' (first | exact True.intro | refine leF_cons rfl ?_ ?_ | refine leS_cons rfl ?_ ?_ | (show PLe _ _ _ _;conv=>whnf) | (show SLe _ _ _ _;conv=>whnf) | (show PLeL _ _ _ _;conv=>whnf) | apply And.intro | rfl | exact Nat.le_refl _ | exact fun _ _=>rfl | exact rowEq0 _ _)
      all_goals first | (rw [hpt,List.append_assoc];rfl) | skip
     ·conv=>whnf
      refine ⟨_,fun _=>call64 (printL (l.take i)++tJ ⟨g,t,v,1⟩ 3) ([105,99,101]++ [10]) (by simp only [List.length_append,List.length_cons,List.length_nil] at hlj⊢;omega), ?_⟩
      conv=>whnf
      refine ⟨?_,i+1,hlt, ?_,rfl,rfl, ?_, ?_⟩
      ·exact g0
      ·omega
      all_goals repeat' (first | exact True.intro | refine leF_cons rfl ?_ ?_ | refine leS_cons rfl ?_ ?_ | (show PLe _ _ _ _;conv=>whnf) | (show SLe _ _ _ _;conv=>whnf) | (show PLeL _ _ _ _;conv=>whnf) | apply And.intro | rfl | exact Nat.le_refl _ | exact fun _ _=>rfl | exact rowEq0 _ _)
      all_goals first | (rw [hpt,List.append_assoc];rfl) | skip
     ·conv=>whnf
      refine ⟨_,fun _=>call64 (printL (l.take i)++tJ ⟨g,t,v,2⟩ 3) ([102,97,117,108,116]++ [10]) (by simp only [List.length_append,List.length_cons,List.length_nil] at hlj⊢;omega), ?_⟩
      conv=>whnf
      refine ⟨?_,i+1,hlt, ?_,rfl,rfl, ?_, ?_⟩
      ·exact g0
      ·omega
      all_goals repeat' (first | exact True.intro | refine leF_cons rfl ?_ ?_ | refine leS_cons rfl ?_ ?_ | (show PLe _ _ _ _;conv=>whnf) | (show SLe _ _ _ _;conv=>whnf) | (show PLeL _ _ _ _;conv=>whnf) | apply And.intro | rfl | exact Nat.le_refl _ | exact fun _ _=>rfl | exact rowEq0 _ _)
      all_goals first | (rw [hpt,List.append_assoc];rfl) | skip
  ·replace hc:=of_decide_eq_false hc
   have hk:i=l.length:=by
    have h:¬(i:Int)<l.length:=hc
    omega
   subst hk
   rw [List.take_length]
   conv=>whnf
   refine ⟨_,fun _=>call67z (printL l), ?_⟩
   conv=>whnf
   refine ⟨?_, [], ?_⟩
   ·exact g0
   conv=>whnf
   refine ⟨rfl, ?_,trivial,trivial⟩
   all_goals exact ent
theorem splitC_cut {c:UInt8} {r:List UInt8}:∀{a:List UInt8},(∀x∈a,x≠c)→splitC c (a++c::r)=a::splitC c r
 | [],_=>by simp [splitC]
 | x::xs,h=>by
   have ih:=splitC_cut (c:=c) (r:=r) (a:=xs) (fun y hy=>h y (by simp [hy]))
   simp only [List.cons_append,splitC,if_neg (h x (by simp)),ih]
theorem dig_nat {d:Nat} (h:d<10):(UInt8.ofNat (48+d)).toNat=48+d:=by
 rw [UInt8.toNat_ofNat'];omega
theorem decDigits_small {u:Nat} (h:u<10):Lib.decDigits u= [UInt8.ofNat (48+u)]:=by rw [Lib.decDigits,dif_pos h]
theorem decDigits_big {u:Nat} (h:¬u<10):Lib.decDigits u=Lib.decDigits (u / 10)++ [UInt8.ofNat (48+u % 10)]:=by rw [Lib.decDigits,dif_neg h]
theorem decDigits_dig (u:Nat):∀x∈Lib.decDigits u,48≤x.toNat∧x.toNat≤57:=by
 induction u using Nat.strongRecOn with
 | ind u ih=>
   intro x hx
   by_cases h:u<10
   ·rw [decDigits_small h,List.mem_singleton] at hx
    rw [hx,dig_nat h];omega
   ·rw [decDigits_big h,List.mem_append,List.mem_singleton] at hx
    rcases hx with hx | hx
    ·exact ih (u / 10) (by omega) x hx
    ·rw [hx,dig_nat (by omega)];omega
theorem digs_snoc:∀{s:List UInt8} {a:Int} {d:Nat},d<10→digs a (s++ [UInt8.ofNat (48+d)])=(digs a s).map fun b=>10*b+(d:Int)
 | [],a,d,h=>by
   simp only [List.nil_append,digs,dig_nat h,Option.map_some]
   rw [if_neg (by omega)]
   congr 1
   omega
 | c::cs,a,d,h=>by
   simp only [List.cons_append,digs]
   split
   ·rfl
   ·exact digs_snoc h
theorem digs_dec (u:Nat):digs 0 (Lib.decDigits u)=some (u:Int):=by
 induction u using Nat.strongRecOn with
 | ind u ih=>
   by_cases h:u<10
   ·rw [decDigits_small h]
    have:=digs_snoc (s:= []) (a:=0) h
    rw [List.nil_append] at this
    rw [this]
    simp [digs]
   ·rw [decDigits_big h,digs_snoc (by omega),ih (u / 10) (by omega)]
    simp only [Option.map_some]
    congr 1
    omega
theorem decDigits_len {k:Nat}:∀{u:Nat},1≤k→u<10 ^ k→(Lib.decDigits u).length≤k:=by
 induction k with
 | zero=>intro u h;omega
 | succ k ih=>
   intro u _ hu
   by_cases h:u<10
   ·rw [decDigits_small h];simp
   ·rw [decDigits_big h,List.length_append]
    have hk:1≤k:=by
     rcases k with _ | k
     ·simp at hu;omega
     ·omega
    have h2:u / 10<10 ^ k:=by
     rw [Nat.div_lt_iff_lt_mul (by decide),←Nat.pow_succ];exact hu
    have:=ih hk h2
    simp only [List.length_cons,List.length_nil];omega
theorem decDigits_ne (u:Nat):1≤(Lib.decDigits u).length:=by
 by_cases h:u<10
 ·rw [decDigits_small h];simp
 ·rw [decDigits_big h];simp
theorem num_itoa {n:Int} (h0:0≤n) (h1:n≤1073741824):numF (Lib.itoa n)=some n:=by
 have he:Lib.itoa n=Lib.decDigits n.toNat:=by unfold Lib.itoa;rw [if_neg (by omega)]
 have hl:=decDigits_len (k:=10) (u:=n.toNat) (by decide) (by
  have:n.toNat≤1073741824:=by omega
  exact Nat.lt_of_le_of_lt this (by decide))
 have hn:=decDigits_ne n.toNat
 rw [he]
 unfold numF
 rw [if_neg (by omega),digs_dec]
 congr 1;omega
theorem itoa_ne {n:Int} (h0:0≤n):Lib.itoa n≠ []:=by
 have he:Lib.itoa n=Lib.decDigits n.toNat:=by unfold Lib.itoa;rw [if_neg (by omega)]
 rw [he]
 intro h
 have:=decDigits_ne n.toNat
 rw [h] at this;simp at this
theorem itoa_clean {n:Int} (h0:0≤n):∀x∈Lib.itoa n,x≠32∧x≠10:=fun x hx=>by
 have he:Lib.itoa n=Lib.decDigits n.toNat:=by unfold Lib.itoa;rw [if_neg (by omega)]
 rw [he] at hx
 have:=decDigits_dig _ x hx
 refine ⟨fun e=> ?_,fun e=> ?_⟩<;>(subst e;revert this;decide)
theorem wordT_cases {f:Int} (h:0≤f∧f≤2):(f=0∧wordT f=fl0)∨(f=1∧wordT f=fl1)∨(f=2∧wordT f=fl2):=by
 have:f=0∨f=1∨f=2:=by omega
 rcases this with rfl | rfl | rfl
 ·exact .inl ⟨rfl,rfl⟩
 ·exact .inr (.inl ⟨rfl,rfl⟩)
 ·exact .inr (.inr ⟨rfl,rfl⟩)
theorem wordT_clean {f:Int} (h:0≤f∧f≤2):wordT f≠ []∧∀x∈wordT f,x≠32∧x≠10:=by
 rcases wordT_cases h with ⟨_,e⟩ | ⟨_,e⟩ | ⟨_,e⟩<;>(rw [e];decide)
def lineB (r:Rd):List UInt8:=Lib.itoa r.g++32::(Lib.itoa r.t++32::(Lib.itoa r.v++32::wordT r.f))
theorem lineT_B (r:Rd):lineT r=lineB r++ [10]:=by simp [lineT,lineB,tJ]
def wdsR (r:Rd):List (List UInt8):= [Lib.itoa r.g,Lib.itoa r.t,Lib.itoa r.v,wordT r.f]
theorem bl_no {u:List UInt8} (h:∀x∈u,x≠32∧x≠10):∀x∈u,isBl x=false:=fun x hx=>by
 have:=(h x hx).1
 simp [isBl,this]
theorem words_B {r:Rd} (h:RdV r):wordsB isBl (lineB r)=wdsR r:=by
 obtain ⟨h1,h2,h3,h4⟩:=h
 have hw:=wordT_clean h4
 unfold lineB
 rw [words_sep (bl_no (itoa_clean h1.1)) (itoa_ne h1.1) rfl,words_sep (bl_no (itoa_clean h2.1)) (itoa_ne h2.1) rfl,words_sep (bl_no (itoa_clean h3.1)) (itoa_ne h3.1) rfl,words_none (bl_no hw.2) hw.1]
 rfl
theorem lineB_clean {r:Rd} (h:RdV r):∀x∈lineB r,x≠10:=by
 obtain ⟨h1,h2,h3,h4⟩:=h
 intro x hx
 unfold lineB at hx
 simp only [List.mem_append,List.mem_cons] at hx
 rcases hx with hx | rfl | hx | rfl | hx | rfl | hx
 ·exact (itoa_clean h1.1 x hx).2
 ·decide
 ·exact (itoa_clean h2.1 x hx).2
 ·decide
 ·exact (itoa_clean h3.1 x hx).2
 ·decide
 ·exact ((wordT_clean h4).2 x hx).2
theorem line_back {r:Rd} (h:RdV r):lineG (wdsR r)=(r,true):=by
 obtain ⟨g,t,v,f⟩:=r
 obtain ⟨h1,h2,h3,h4⟩:=h
 dsimp only at h1 h2 h3 h4
 have n0:numF ((wdsR ⟨g,t,v,f⟩).getD 0 default)=some g:=num_itoa (n:=g) h1.1 (by omega)
 have n1:numF ((wdsR ⟨g,t,v,f⟩).getD 1 default)=some t:=num_itoa (n:=t) h2.1 (by omega)
 have n2:numF ((wdsR ⟨g,t,v,f⟩).getD 2 default)=some v:=num_itoa h3.1 h3.2
 have n3:(wdsR ⟨g,t,v,f⟩).getD 3 default=wordT f:=rfl
 have hl:(wdsR ⟨g,t,v,f⟩).length=4:=rfl
 unfold lineG isG nG
 rw [n0,n1,n2,n3,hl]
 rcases wordT_cases h4 with ⟨rfl,e⟩ | ⟨rfl,e⟩ | ⟨rfl,e⟩<;>(rw [e];rfl)
theorem printL_cons (r:Rd) (l:List Rd):printL (r::l)=lineB r++10::printL l:=by
 simp [printL,lineT_B]
theorem split_print:∀{l:List Rd},(∀r∈l,RdV r)→splitC 10 (printL l)=l.map lineB++ [[]]
 | [],_=>rfl
 | r::l,h=>by
   rw [printL_cons,splitC_cut (lineB_clean (h r (List.mem_cons_self ..))),split_print (fun x hx=>h x (List.mem_cons_of_mem _ hx))]
   rfl
theorem linesW_print {l:List Rd} (h:∀r∈l,RdV r):linesW (printL l)=l.map wdsR++ [[]]:=by
 unfold linesW
 rw [split_print h,List.map_append,List.map_map]
 congr 1
 exact List.map_congr_left fun r hr=>words_B (h r hr)
theorem parL_back:∀(l:List Rd) (i:Int) (out:List Rd),(∀r∈l,RdV r)→parL i out (l.map wdsR++ [[]])=(out++l,0,0)
 | [],i,out,_=>by simp [parL]
 | r::l,i,out,h=>by
   have hr:=h r (List.mem_cons_self ..)
   show parL i out (wdsR r::(l.map wdsR++ [[]]))=_
   simp only [parL]
   rw [line_back hr,if_neg (show¬(wdsR r).length=0 from fun hh=>by cases hh),if_neg (fun hh=>by cases hh),if_neg (fun hh=>hh (V_checkR hr)),parL_back l _ _ (fun x hx=>h x (List.mem_cons_of_mem _ hx))]
   simp
theorem parse_print {l:List Rd} (hl:l.length≤600) (h:∀r∈l,RdV r):parseF (printL l)=(l,0,0):=by
 have hlen:=printL_len (valid_getD h) l.length (Nat.le_refl _)
 rw [List.take_length] at hlen
 have hc:=cntW_le (linesW (printL l))
 have hw:=linesW_print h
 have hwl:(linesW (printL l)).length=l.length+1:=by rw [hw];simp
 unfold parseF
 rw [if_neg (by omega),if_neg (by omega),hw,parL_back l 0 [] h]
 simp
end G06
open TX
def c5L1:C:=(sr [kk 124 (.bi false .lss 123 122)] (.seq (.cond 124 .skip (.exit 0)) (.seq (.block 1 (sr [km 125 123,km 23 125] (.reg [km 126 22,km 127 23,kk 128 (.ia 4 126 127),kk 129 (.fa 3 128),kz (.st 1 129 (cn 0))]))) (.reg [kk 130 (.bi false .add 123 (cn 1)),km 123 130]))))
def c5L2:C:=(sr [kk 177 (.bi false .lss 176 175)] (.seq (.cond 177 .skip (.exit 2)) (.seq (.block 3 (sr [km 178 176,km 31 178] (.seq (.drw [km 179 28,km 180 31,kk 181 (.ia 1 179 180),kk 182 (.ld 1 false 181),kk 183 (.un false .not 182),km 184 183,kg 185 184 false (.mv 27),kg 186 184 false (.mv 31),kg 187 184 false (.ia 1 185 186),kg 188 184 false (.ld 1 false 187),kg 189 184 false (.mv 22),kg 190 184 false (.mv 31),kg 191 184 false (.ia 4 189 190),kg 192 184 false (.fa 2 191),kg 193 184 false (.ld 1 false 192),kg 194 184 false (.bi false .neq 188 193),kk 195 (.pick 184 (.c (.bool true)) 194)] (pl [(0,[1],179),(6,[7,10,11,12,13,14],185),(7,[10,11,12,13,14],186),(8,[10,11,12,13,14],187),(9,[10,11,12,13,14],188),(10,[11],189)])) (.cond 195 (sr [kk 2 (.mv (.c (.bool false)))] .ret) .skip)))) (.reg [kk 196 (.bi false .add 176 (cn 1)),km 176 196]))))
def c5L3:C:=(sr [kk 202 (.bi false .lss 201 200)] (.seq (.cond 202 .skip (.exit 4)) (.seq (.block 5 (sr [kk 203 (.ia 4 199 201),kk 204 (.ld 4 true 203),kk 35 (.al [(.int .i64 0),(.int .i64 0),(.int .i64 0),(.int .i64 0)]),kz (.st 4 35 204)] (sr [kk 206 (.ld 6 true 32),kk 207 (.fa 2 35),kk 208 (.ld 1 false 207),kk 209 (.bi false .add (cn 90) 208),kk 210 (cl 39 [206,209]),km 205 210,kk 211 (.ex 205 0),kk 212 (.ex 205 1),km 36 211,km 37 212] (.seq (sr [km 213 37,kk 214 (.bi false .neq 213 (cn 0))] (.cond 214 (sr [kk 2 (.mv (.c (.bool false)))] .ret) .skip)) (.reg [km 215 33,km 216 36,kk 217 (.bs 3 1 [216]),kk 218 (.app 3 1 8 215 217),km 33 218]))))) (.reg [kk 219 (.bi false .add 201 (cn 1)),km 201 219]))))
def c5L4:C:=(sr [kk 270 (.bi false .lss 269 268)] (.seq (.cond 270 .skip (.exit 6)) (.seq (.block 7 (sr [km 271 269,km 46 271] (.drw [km 272 43,km 273 39,km 274 46,kk 275 (.ia 1 273 274),kk 276 (.ld 1 false 275),kk 277 (.bi false .add 272 276),km 278 44,km 279 41,km 280 46,kk 281 (.ia 1 279 280),kk 282 (.ld 1 false 281),kk 283 (.bi false .add 278 282),km 284 45,km 285 38,km 286 46,kk 287 (.ia 1 285 286),kk 288 (.ld 1 false 287),kk 289 (.bi false .add 284 288),km 43 277,km 44 283,km 45 289] (pl [(0,[1,2,3,4,6,7,8,9,10,11,12,13,14,15,16,17],272),(1,[2,6,7,8,9,10,11,12,13,14,15,16,17],273),(2,[6,7,8,9,10,11,12,13,14,15,16,17],274),(3,[6,7,8,9,10,11,12,13,14,15,16,17],275),(4,[6,7,8,9,10,11,12,13,14,15,16,17],276),(5,[6,7,8,9,10,11,12,13,14,15,16,17],277),(6,[7,8,9,10,12,13,14,15,16,17,18],278),(7,[8,12,13,14,15,16,17,18],279),(8,[12,13,14,15,16,17,18],280),(9,[12,13,14,15,16,17,18],281),(10,[12,13,14,15,16,17,18],282),(11,[12,13,14,15,16,17,18],283),(12,[13,14,15,16,18,19],284),(13,[14,18,19],285),(14,[18,19],286),(15,[18,19],287),(16,[18,19],288),(17,[18,19],289)])))) (.reg [kk 290 (.bi false .add 269 (cn 1)),km 269 290]))))
def c5:C:=(sr [kk 2 (.mv (.c (.bool false)))] (sr [km 47 0,kk 48 (cl 7 [47]),km 3 48] (sr [km 49 3,kk 50 (cl 26 [49,(cn 10)]),km 4 50] (sr [km 52 4,kk 53 (cl 27 [52]),km 51 53,kk 54 (.ex 51 0),kk 55 (.ex 51 1),km 5 54,km 6 55] (sr [km 57 5,kk 58 (cl 28 [57]),km 56 58,kk 59 (.ex 56 0),kk 60 (.ex 56 1),kk 61 (.ex 56 2),km 7 59,km 8 60,km 9 61] (sr [km 63 4,kk 64 (cl 29 [63]),km 62 64,kk 65 (.ex 62 0),kk 66 (.ex 62 1),km 10 65,km 11 66] (sr [km 68 10,kk 69 (cl 30 [68]),km 67 69,kk 70 (.ex 67 0),kk 71 (.ex 67 1),kk 72 (.ex 67 2),km 12 70,km 13 71,km 14 72] (sr [km 73 3,kk 74 (cl 31 [73]),kk 15 (.al [(.nil 2),(.int .i64 0)]),kz (.st 2 15 74)] (sr [kk 76 (.ld 2 true 15),km 77 7,kk 78 (cl 32 [76,77]),km 75 78,kk 79 (.ex 75 0),kk 80 (.ex 75 1),kk 81 (.ex 75 2),km 16 79,km 17 80,km 18 81] (sr [kk 83 (.ld 2 true 15),km 84 12,kk 85 (cl 32 [83,84]),km 82 85,kk 86 (.ex 82 0),kk 87 (.ex 82 1),kk 88 (.ex 82 2),km 19 86,km 20 87,km 21 88] (.seq (sr [km 89 6,km 90 9,kk 91 (.bi false .add 89 90),km 92 11,kk 93 (.bi false .add 91 92),km 94 14,kk 95 (.bi false .add 93 94),km 96 18,kk 97 (.bi false .add 95 96),km 98 21,kk 99 (.bi false .add 97 98),kk 100 (.bi false .neq 99 (cn 0)),km 101 100,kg 102 101 false (.mv 7),kg 103 101 false (.mv 4),kg 104 101 false (cl 33 [102,103]),kg 105 101 false (.un false .not 104),kk 106 (.pick 101 (.c (.bool true)) 105),km 107 106,kg 108 107 false (.mv 16),kg 109 107 false (.mv 19),kg 110 107 false (cl 34 [108,109]),kg 111 107 false (.un false .not 110),kk 112 (.pick 107 (.c (.bool true)) 111),km 113 112,kg 114 113 false (.mv 17),kg 115 113 false (.mv 20),kg 116 113 false (cl 35 [114,115]),kg 117 113 false (.un false .not 116),kk 118 (.pick 113 (.c (.bool true)) 117)] (.cond 118 (sr [kk 2 (.mv (.c (.bool false)))] .ret) .skip)) (sr [km 119 3,kk 120 (cl 36 [119,(cn 8)]),km 22 120] (.seq (sr [km 121 22,kk 122 (.len 121),kk 123 (.mv (cn 0))] (.block 0 (.loop c5L1))) (sr [km 131 22,kk 132 (.app 109 4 32 (.c (.nil 4)) 131),km 24 132] (sr [km 133 3,km 134 24,kk 135 (.len 134),kk 136 (cl 12 [133,135]),km 25 136] (sr [km 137 24,km 138 25,km 139 3,kk 140 (cl 12 [139,(cn 100000)]),kk 141 (.ia 4 137 138),kk 142 (.fa 2 141),kz (.st 1 142 140)] (.cut (sr [kk 143 (.bd [(.int .i64 0),(.int .i64 0),(.int .i64 0),(.int .i64 0)] [(1,1,(cn 1073741824)),(2,1,(cn 1073741824))]),kk 26 (.al [(.int .i64 0),(.int .i64 0),(.int .i64 0),(.int .i64 0)]),kz (.st 4 26 143)] (sr [kk 145 (.ld 4 true 26),kk 146 (.ld 4 true 26),kk 147 (.ld 4 true 26),kk 148 (.bs 111 4 [145,146,147]),km 149 22,km 150 24,km 151 22,kk 152 (.bs 90 1 [149,150,151]),kk 153 (cl 37 [148,152,(cn 0)]),km 144 153,kk 154 (.ex 144 0),kk 155 (.ex 144 1),kk 156 (.ex 144 2),kk 157 (.ex 144 3),km 27 154,km 28 155,km 29 156,km 30 157] (.seq (sr [km 158 30,kk 159 (.bi false .neq 158 (cn 0)),km 160 159,kg 161 160 false (.mv 27),kg 162 160 false (.len 161),kg 163 160 false (.mv 22),kg 164 160 false (.len 163),kg 165 160 false (.bi false .neq 162 164),kk 166 (.pick 160 (.c (.bool true)) 165),km 167 166,kg 168 167 false (.mv 28),kg 169 167 false (.len 168),kg 170 167 false (.mv 22),kg 171 167 false (.len 170),kg 172 167 false (.bi false .neq 169 171),kk 173 (.pick 167 (.c (.bool true)) 172)] (.cond 173 (sr [kk 2 (.mv (.c (.bool false)))] .ret) .skip)) (.seq (sr [km 174 22,kk 175 (.len 174),kk 176 (.mv (cn 0))] (.block 2 (.loop c5L2))) (sr [km 197 3,kk 198 (cl 38 [197]),kk 32 (.al [(.nil 2),(.int .i64 0),(.int .i64 0),(.int .i64 0),(.int .i64 0),(.int .i64 0)]),kz (.st 6 32 198)] (sr [kk 33 (.mv (.c (.nil 1)))] (.seq (sr [km 199 22,kk 200 (.len 199),kk 201 (.mv (cn 0))] (.block 4 (.loop c5L3))) (sr [km 220 3,km 221 33,kk 222 (.len 221),kk 223 (.bi false .sub 222 (cn 1)),kk 224 (cl 40 [220,223,(cn 40)]),km 38 224] (sr [km 226 33,km 227 38,kk 228 (cl 41 [226,227]),km 225 228,kk 229 (.ex 225 0),kk 230 (.ex 225 1),km 39 229,km 40 230] (sr [km 232 39,km 233 3,kk 234 (cl 12 [233,(cn 4)]),kk 235 (.bi false .add (cn 1) 234),kk 236 (cl 42 [232,235]),km 231 236,kk 237 (.ex 231 0),kk 238 (.ex 231 1),km 41 237,km 42 238] (.seq (sr [km 239 40,km 240 42,kk 241 (.bi false .add 239 240),kk 242 (.bi false .neq 241 (cn 0)),km 243 242,kg 244 243 false (.mv 39),kg 245 243 false (.len 244),kg 246 243 false (.mv 38),kg 247 243 false (.len 246),kg 248 243 false (.bi false .neq 245 247),kk 249 (.pick 243 (.c (.bool true)) 248),km 250 249,kg 251 250 false (.mv 41),kg 252 250 false (.len 251),kg 253 250 false (.mv 39),kg 254 250 false (.len 253),kg 255 250 false (.bi false .neq 252 254),kk 256 (.pick 250 (.c (.bool true)) 255)] (.cond 256 (sr [kk 2 (.mv (.c (.bool false)))] .ret) .skip)) (.seq (.drw [km 257 33,km 258 33,kk 259 (.len 258),kk 260 (.bi false .sub 259 (cn 1)),kk 261 (.ia 1 257 260),kk 262 (.ld 1 false 261),km 263 33,kk 264 (.ia 1 263 (cn 0)),kk 265 (.ld 1 false 264),kk 266 (.bi false .sub 262 265),kk 43 (.mv (cn 0)),kk 44 (.mv (cn 0)),km 45 266] (pl [(0,[1,2,3,6,7,8,10,11],257),(1,[6,7,8,10,11],258),(2,[6,7,8,10,11],259),(3,[6,7,8,10,11],260),(4,[6,7,8,10,11],261),(5,[6,7,8,10,11],262),(6,[10,11],263),(7,[10,11],264),(8,[10,11],265),(9,[10,11],266)])) (.seq (sr [km 267 39,kk 268 (.len 267),kk 269 (.mv (cn 0))] (.block 6 (.loop c5L4))) (sr [km 291 43,km 292 45,kk 293 (.bi false .eql 291 292),km 294 293,kg 295 294 true (.mv 44),kg 296 294 true (.mv 45),kg 297 294 true (.bi false .eql 295 296),kk 298 (.pick 294 297 (.c (.bool false))),km 299 298,kg 300 299 true (cl 16 []),kk 301 (.pick 299 300 (.c (.bool false))),km 2 301] .ret)))))))))))))))))))))))))))))))
theorem fits5:fits Tryz.prog false Tryz.f5 1 302 [(2,none)]=some c5.er:=by kernel_rfl
def S42:Prop:=∀(τ:Nat) (l:List Int) (w:Nat),(1≤w∧w≤4)→l.length≤4096→(∀i,i<l.length→ -274877906944≤l.getD i default∧l.getD i default≤274877906944)→
 PureCall Tryz.prog 42 [.sl τ 1 l.length (fl eInt l), .int .i64 w] [] ⟨.tup [.sl 0 1 (smL w l.length l).length (fl eInt (smL w l.length l)), .int .i64 0], [], []⟩
theorem ser_v (d:Dk):∀n,n≤100→∀i,i<n→((G08.serS d n).l.getD i default).v≤1000
 | 0,_,i,hi=>by omega
 | n+1,hn,i,hi=>by
   have hp:=G08.serS_props d n
   have rv:=G08.serN_rng (s:=G08.serS d n) (by rw [hp.1];exact hp.2.1)
   rw [hp.1] at rv
   have ih:=ser_v d n (by omega)
   show (((G08.serS d n).l++ [_]).getD i default).v≤1000
   rw [getD_push,hp.1]
   split
   ·exact ih i (by assumption)
   ·rw [if_pos (by omega)]
    dsimp only
    omega
theorem call5_of (h42:S42) (h16:PureCall Tryz.prog 16 [] [] ⟨.bool true, [], []⟩) (l:List Int):PureCall Tryz.prog 5 [.sl 1 1 l.length (fl eInt l)] [] ⟨.bool true, [], []⟩:=by
 refine pure_call mix Tryz.func5 fits5 rfl ?_
 conv=>whnf
 refine ⟨_,fun _=>call_new _ l, ?_⟩
 conv=>whnf
 refine ⟨_,fun _=>G06.call26 ⟨l,0⟩ 10 (by dsimp only;omega) (by omega), ?_⟩
 obtain ⟨_,ra,_,_,rl,rok⟩:=G06.readS_ok ⟨l,0⟩ 10 (by omega)
 generalize G06.readS ⟨l,0⟩ 10=R at ra rl rok⊢
 obtain ⟨L,_,d1⟩:=R
 dsimp only at ra rl rok⊢
 have hV:=G06.ok_valid rok
 have hlim:=G06.lim_valid (l:=L) (by omega) hV
 have hLv:=G06.valid_getD hV
 have hpl:=G06.printL_len hLv L.length (Nat.le_refl _)
 rw [List.take_length] at hpl
 conv=>whnf
 refine ⟨_,fun _=>G06.call27 _ L (by omega) hlim, ?_⟩
 conv=>whnf
 refine ⟨_,fun _=>G06.call28 _ (by decide) (G06.encL L) (by rw [G06.encL_len];omega), ?_⟩
 rw [G06.decF_enc (by omega) hV]
 dsimp only
 conv=>whnf
 refine ⟨_,fun _=>G06.call29 _ L (by omega) hlim, ?_⟩
 conv=>whnf
 refine ⟨_,fun _=>G06.call30 (G06.printL L) (by omega), ?_⟩
 rw [G06.parse_print (by omega) hV]
 dsimp only
 conv=>whnf
 refine ⟨_,fun _=>call31 d1 (by omega), ?_⟩
 have hC:=ratC_ok d1
 have hI:=nxt_lt (ratC d1).d (n:=40) (by omega)
 have hA:=nxtD_at (ratC d1).d 40
 have hrat:RatOK (ratF d1).1:=⟨hC.1.good,hI.1,by show nxt (ratC d1).d 40≤_;omega⟩
 have hat:(ratF d1).2.at_≤d1.at_+12:=by show (nxtD (ratC d1).d 40).at_≤_;omega
 generalize ratF d1=W at hrat hat⊢
 obtain ⟨rt,d2⟩:=W
 dsimp only at hrat hat⊢
 have hF:=flowsR_len rt L
 conv=>whnf
 refine ⟨_,fun _=>call32 _ _ rt L hrat (by omega) hLv, ?_⟩
 conv=>whnf
 refine ⟨_,fun _=>call32 _ _ rt L hrat (by omega) hLv, ?_⟩
 generalize flowsR rt L=FB at hF⊢
 obtain ⟨F,B⟩:=FB
 dsimp only at hF⊢
 conv=>whnf
 refine ⟨_,fun _=>G06.call33 _ _ L L (by omega), ?_⟩
 rw [decide_eq_true (rfl:L=L)]
 conv=>whnf
 refine ⟨_,fun _=>G08.call34 _ _ F F (by omega), ?_⟩
 rw [decide_eq_true (rfl:F=F)]
 conv=>whnf
 refine ⟨_,fun _=>G08.call35 _ _ B B (by omega), ?_⟩
 rw [decide_eq_true (rfl:B=B)]
 conv=>whnf
 refine ⟨by exact g0,fun h=>absurd h (by decide),fun _=> ?_⟩
 conv=>whnf
 refine ⟨_,fun _=>G08.call36o d2 8 (by omega) (by omega), ?_⟩
 have hs1:=(G08.serS_props d2 8).1
 have hs2:=(G08.serS_props d2 8).2.2
 have hs3:=ser_v d2 8 (by omega)
 have hs4:=G08.ser_ok d2 8 (by omega)
 rw [show (8:Int).toNat=8 from rfl]
 generalize G08.serS d2 8=S at hs1 hs2 hs3 hs4⊢
 obtain ⟨X0,_,d3⟩:=S
 dsimp only at hs1 hs2 hs3 hs4⊢
 conv=>whnf
 refine ⟨by exact g0, ?_⟩
 refine LSem.loop (n:=302) mix (α:=Nat×List G08.Rd) (fun s=>s.1≤8∧s.2.length=8∧(∀j,j<s.1→(s.2.getD j default).f=0)∧∀j,j<8→G08.rdErr (s.2.getD j default)=0∧(s.2.getD j default).v≤1000)
  (fun s=> [(3, .pt 768 0 0),(22, .os 1920),(122, .int .i64 8),(123, .int .i64 s.1)])
  (fun s=> [(768, .box (eDk 1 d3)),(1920, .row 0 109 4 8 (fl G08.eRd s.2))]) (fun s=>8 - s.1) (0,X0) ⟨Nat.zero_le _,hs1,fun j hj=>absurd hj (Nat.not_lt_zero _),fun j hj=>⟨hs4 j hj,hs3 j hj⟩⟩ ?_ ?_
 ·refine ⟨rfl,rfl, ?_, ?_⟩<;>exact ent
 rintro ⟨i,X⟩ ⟨hi,hX,hf,hr⟩
 dsimp only at hi hX hf hr⊢
 conv=>whnf
 refine ⟨trivial,fun hc=> ?_,fun hc=> ?_⟩
 ·replace hc:=of_decide_eq_true hc
  have hlt:i<8:=by
   have h:(i:Int)<8:=hc
   omega
  have hj:((i:Int)).toNat=i:=by omega
  have hq:RowEq 8 (fun k=>if k=i then setAt (fl G08.eRd X i) 3 [.int .i64 0] else fl G08.eRd X k) (fl G08.eRd (X.set i { X.getD i default with f:=0 })):=fun k hk=>by
   by_cases e:k=i
   ·subst e
    simp only [if_pos rfl,fl]
    rw [show (X.set k { X.getD k default with f:=0 }).getD k default={ X.getD k default with f:=0 } by simp [List.getD,List.getElem?_set,show k<X.length by omega]]
    rfl
   ·simp only [if_neg e,fl]
    rw [show (X.set i { X.getD i default with f:=0 }).getD k default=X.getD k default by simp [List.getD,List.getElem?_set,Ne.symm e]]
  have hXs:(X.set i { X.getD i default with f:=0 }).length=8:=by simpa using hX
  have hget:∀k,k<8→(X.set i { X.getD i default with f:=0 }).getD k default=if k=i then { X.getD i default with f:=0 } else X.getD k default:=fun k hk=>by
   by_cases e:k=i
   ·subst e;rw [if_pos rfl];simp [List.getD,List.getElem?_set,show k<X.length by omega]
   ·rw [if_neg e];simp [List.getD,List.getElem?_set,Ne.symm e]
  conv=>whnf
  rw [hj]
  refine ⟨by exact g0,(i+1,X.set i { X.getD i default with f:=0 }),⟨hlt,hXs, ?_, ?_⟩,by dsimp only;omega,rfl,rfl, ?_, ?_⟩
  ·intro j hj
   dsimp only at hj⊢
   rw [hget j (by omega)]
   split
   ·rfl
   ·exact hf j (by omega)
  ·intro j hj
   dsimp only at hj⊢
   rw [hget j hj]
   split
   ·have h:=hr i hlt
    refine ⟨?_,h.2⟩
    have h2:=G08.rd_v h.1
    unfold G08.rdErr
    dsimp only
    rw [if_neg (by omega),if_neg (by omega),if_neg (by omega),if_neg (by omega)]
   ·exact hr j hj
  all_goals exact ent
 have hk:i=8:=by
  have h:¬(i:Int)<8:=of_decide_eq_false hc
  omega
 subst hk
 have hm:8≤maxLen:=maxLen_ge (by omega)
 conv=>whnf
 refine ⟨_,fun _=>call_next 1 d3 8 (by omega) (by omega), ?_⟩
 have r4:=nxt_lt d3 (n:=8) (by omega)
 have a4:=nxtD_at d3 8
 generalize nxt d3 8=n at r4⊢
 generalize nxtD d3 8=d4 at a4⊢
 obtain ⟨n,rfl⟩:∃k:Nat,n=k:=⟨n.toNat,by omega⟩
 have hn:((n:Int)).toNat=n:=by omega
 conv=>whnf
 refine ⟨_,fun _=>call_next 1 d4 100000 (by omega) (by omega), ?_⟩
 have r5:=nxt_lt d4 (n:=100000) (by omega)
 have a5:=nxtD_at d4 100000
 generalize nxt d4 100000=w at r5⊢
 generalize nxtD d4 100000=d5 at a5⊢
 have hqY:RowEq 8 (fun k=>if k=n then setAt (fl G08.eRd X n) 2 [.int .i64 w] else fl G08.eRd X k) (fl G08.eRd (X.set n { X.getD n default with v:=w })):=fun k hk=>by
  by_cases e:k=n
  ·subst e
   simp only [if_pos rfl,fl]
   rw [show (X.set k { X.getD k default with v:=w }).getD k default={ X.getD k default with v:=w } by simp [List.getD,List.getElem?_set,show k<X.length by omega]]
   rfl
  ·simp only [if_neg e,fl]
   rw [show (X.set n { X.getD n default with v:=w }).getD k default=X.getD k default by simp [List.getD,List.getElem?_set,Ne.symm e]]
 have hYl:(X.set n { X.getD n default with v:=w }).length=8:=by simpa using hX
 have hYg:∀k,k<8→(X.set n { X.getD n default with v:=w }).getD k default=if k=n then { X.getD n default with v:=w } else X.getD k default:=fun k hk=>by
  by_cases e:k=n
  ·subst e;rw [if_pos rfl];simp [List.getD,List.getElem?_set,show k<X.length by omega]
  ·rw [if_neg e];simp [List.getD,List.getElem?_set,Ne.symm e]
 have hGX:G08.GdS X:=⟨by omega,fun i hi=>(hr i (by omega)).1,fun i hi=>hf i (by omega)⟩
 have hGY:G08.GdS (X.set n { X.getD n default with v:=w }):=by
  refine ⟨by omega,fun i hi=> ?_,fun i hi=> ?_⟩
  ·rw [hYg i (by omega)]
   split
   ·have h2:=G08.rd_v (hr n (by omega)).1
    unfold G08.rdErr
    dsimp only
    rw [if_neg (by omega),if_neg (by omega),if_neg (by omega),if_neg (by omega)]
   ·exact (hr i (by omega)).1
  ·rw [hYg i (by omega)]
   split
   ·exact hf n (by omega)
   ·exact hf i (by omega)
 have hcomb:=G08.comb3 hGX hGY (by omega)
 generalize X.set n { X.getD n default with v:=w }=Y at hqY hYl hGY hcomb
 conv=>whnf
 rw [hn]
 refine ⟨by exact g0, ?_⟩
 refine LSem.cut mix (n:=302) (fl:= [(3, .pt 768 0 0),(22, .sl 0 4 8 (fl G08.eRd X)),(24, .sl 0 4 8 (fl G08.eRd Y))]) (sl:= [(768, .box (eDk 1 d5))]) ?_ ?_
 ·refine ⟨rfl,rfl, ?_, ?_⟩<;>exact ent
 have rq1:RowEq 3 (fun i=> [[PV.int IntKind.i64 0,PV.int IntKind.i64 1073741824,PV.int IntKind.i64 1073741824,PV.int IntKind.i64 0], [PV.int IntKind.i64 0,PV.int IntKind.i64 1073741824,PV.int IntKind.i64 1073741824,PV.int IntKind.i64 0], [PV.int IntKind.i64 0,PV.int IntKind.i64 1073741824,PV.int IntKind.i64 1073741824,PV.int IntKind.i64 0]].getD i []) (fl G08.eCk [G08.cM,G08.cM,G08.cM]):=fun i hi=>by
  match i,hi with
  | 0,_=>rfl
  | 1,_=>rfl
  | 2,_=>rfl
 have rq2:RowEq 3 (fun i=> [[PV.sl 0 4 8 (fl G08.eRd X)], [PV.sl 0 4 8 (fl G08.eRd Y)], [PV.sl 0 4 8 (fl G08.eRd X)]].getD i []) (fl (G08.eLs 0) [X,Y,X]):=fun i hi=>by
  have e1:G08.eLs 0 X= [PV.sl 0 4 8 (fl G08.eRd X)]:=by unfold G08.eLs;rw [hX]
  have e2:G08.eLs 0 Y= [PV.sl 0 4 8 (fl G08.eRd Y)]:=by unfold G08.eLs;rw [hYl]
  match i,hi with
  | 0,_=>exact e1.symm
  | 1,_=>exact e2.symm
  | 2,_=>exact e1.symm
 conv=>whnf
 refine ⟨_,fun _=>PureCall.arg_le (G08.call37 0 [G08.cM,G08.cM,G08.cM] [X,Y,X] 0 (by decide) (by simp) (fun i hi=>by
  have hi3:i<3:=hi
  obtain rfl | rfl | rfl:i=0∨i=1∨i=2:=by omega
  ·show X.length≤_;omega
  ·show Y.length≤_;omega
  ·show X.length≤_;omega)) rfl ⟨⟨Nat.le_refl _,rfl,rfl,rq1⟩,⟨Nat.le_refl _,rfl,rfl,rq2⟩,⟨rfl,rfl⟩,trivial⟩, ?_⟩
 obtain ⟨c1,c2,c3,c4⟩:=hcomb
 generalize G08.combF [G08.cM,G08.cM,G08.cM] [X,Y,X] 0=K at c1 c2 c3 c4⊢
 obtain ⟨P,T,O,e⟩:=K
 dsimp only at c1 c2 c3 c4⊢
 subst c1
 conv=>whnf
 refine ⟨by exact g0,fun h=> ?_,fun _=> ?_⟩
 ·simp only [bp] at h
  omega
 conv=>whnf
 refine ⟨by exact g0, ?_⟩
 refine LSem.loop (n:=302) mix (α:=Nat) (fun i=>i≤8)
  (fun i=> [(3, .pt 768 0 0),(22, .sl 0 4 8 (fl G08.eRd X)),(27, .sl 0 1 P.length (fl eInt P)),(28, .sl 0 1 T.length (fl G08.eBool T)),(175, .int .i64 8),(176, .int .i64 i)])
  (fun i=> [(768, .box (eDk 1 d5))]) (fun i=>8 - i) 0 (Nat.zero_le _) ?_ ?_
 ·refine ⟨rfl,rfl, ?_, ?_⟩<;>exact ent
 intro i hi
 conv=>whnf
 refine ⟨trivial,fun hc=> ?_,fun hc=> ?_⟩
 ·replace hc:=of_decide_eq_true hc
  have hlt:i<8:=by
   have h:(i:Int)<8:=hc
   omega
  have hj:((i:Int)).toNat=i:=by omega
  have ci:=c4 i (by omega)
  conv=>whnf
  rw [hj,ci.1,ci.2]
  refine ⟨rfl, ?_⟩
  conv=>whnf
  try rw [ci.1,ci.2]
  refine ⟨by exact g0,fun h=> ?_,fun _=> ?_⟩
  ·simp at h
  conv=>whnf
  refine ⟨by exact g0,i+1,by omega,by omega,rfl,rfl, ?_, ?_⟩<;>exact ent
 conv=>whnf
 refine ⟨_,fun _=>call38 d5 (by omega), ?_⟩
 have hres:=res_valid d5
 have hmade:MadeC (resF d5).1.st:=by
  rw [show (resF d5).1.st=(resC d5).L from by unfold resF;dsimp only]
  exact (resC_ok d5).1
 have hra:=resF_at d5
 generalize resF d5=W2 at hres hra hmade⊢
 obtain ⟨rs,d6⟩:=W2
 dsimp only at hres hra hmade⊢
 conv=>whnf
 refine ⟨by exact g0, ?_⟩
 refine LSem.adopt 33 1000000 3 1 1 rfl rfl ?_
 refine LSem.loop (n:=302) mix (α:=Nat×List Int) (fun s=>s.1≤8∧s.2.length=s.1∧∀j,j<s.1→0≤s.2.getD j default∧s.2.getD j default≤10000)
  (fun s=> [(3, .pt 768 0 0),(32, .pt 512 0 0),(33, .os 1000000),(199, .sl 0 4 8 (fl G08.eRd X)),(200, .int .i64 8),(201, .int .i64 s.1)])
  (fun s=> [(768, .box (eDk 1 d6)),(512, .box (eRv 0 rs)),(1000000, .row 0 3 1 s.2.length (fl eInt s.2))]) (fun s=>8 - s.1) (0, []) ⟨Nat.zero_le _,rfl,fun j hj=>absurd hj (Nat.not_lt_zero _)⟩ ?_ ?_
 ·refine ⟨rfl,rfl, ?_, ?_⟩<;>exact ent
 clear hc hi i
 rintro ⟨i,V⟩ ⟨hi,hV2,hVv⟩
 dsimp only at hi hV2 hVv⊢
 conv=>whnf
 refine ⟨trivial,fun hc=> ?_,fun hc=> ?_⟩
 ·replace hc:=of_decide_eq_true hc
  have hlt:i<8:=by
   have h:(i:Int)<8:=hc
   omega
  have hj:((i:Int)).toNat=i:=by omega
  have hx:=(hr i hlt).2
  have hx0:=(G08.rd_v (hr i hlt).1).2.2.1
  have hval:=val_small hmade (90+(X.getD i default).v)
  conv=>whnf
  rw [hj]
  refine ⟨_,fun _=>call39 _ rs (90+(X.getD i default).v) hres ⟨by omega,by omega⟩, ?_⟩
  generalize valC rs.st (90+(X.getD i default).v)=y at hval⊢
  have q:=fl_push eInt V y
  have hxl:(V++ [y]).length=V.length+1:=by simp
  conv=>whnf
  refine ⟨by exact g0,fun h=>absurd h (by decide),fun _=> ?_⟩
  conv=>whnf
  refine ⟨by exact g0,(i+1,V++ [y]),⟨hlt,by dsimp only;omega,fun j hj=> ?_⟩,by dsimp only;omega,rfl,rfl, ?_, ?_⟩
  ·dsimp only at hj⊢
   rw [getD_push]
   split
   ·exact hVv j (by omega)
   ·rw [if_pos (by omega)];exact hval
  all_goals exact ent
 have hk:i=8:=by
  have h:¬(i:Int)<8:=of_decide_eq_false hc
  omega
 subst hk
 conv=>whnf
 rw [show ((V.length:Int) - 1)=((7:Nat):Int) by omega]
 refine ⟨_,fun _=>call40 d6 7 40 (by omega) (by omega) (by omega), ?_⟩
 have hfl:=flsS_ok (n:=40) (by omega) 7 ([],d6) fun j hj=>absurd hj (Nat.not_lt_zero _)
 generalize flsS 40 7 ([],d6)=W3 at hfl⊢
 obtain ⟨Q,d7⟩:=W3
 dsimp only [List.length_nil] at hfl⊢
 obtain ⟨q1,q2,q3⟩:=hfl
 have hbal:BalOK V Q:=⟨by omega,by omega,fun j hj=>by have:=hVv j (by omega);omega,fun j hj=>by have:=q3 j hj;omega⟩
 conv=>whnf
 refine ⟨_,fun _=>call41 _ _ V Q hbal, ?_⟩
 have b1:=balL_len V Q Q.length
 have b2:=balL_sum V Q Q.length (Nat.le_refl _)
 have b3:∀j,j<(balL V Q Q.length).length→ -20000≤(balL V Q Q.length).getD j default∧(balL V Q Q.length).getD j default≤20000:=fun j hj=>by
  rw [b1] at hj
  rw [balL_get V Q Q.length j hj]
  have h1:=hVv j (by omega)
  have h2:=hVv (j+1) (by omega)
  have h3:=q3 j hj
  omega
 rw [List.take_length] at b2
 generalize balL V Q Q.length=N at b1 b2 b3⊢
 conv=>whnf
 refine ⟨_,fun _=>call_next 1 d7 4 (by omega) (by omega), ?_⟩
 have r6:=nxt_lt d7 (n:=4) (by omega)
 generalize nxt d7 4=g at r6⊢
 generalize nxtD d7 4=d8
 obtain ⟨g,rfl⟩:∃k:Nat,g=k:=⟨g.toNat,by omega⟩
 conv=>whnf
 rw [show ((1:Int)+(g:Int))=((g+1:Nat):Int) by omega]
 refine ⟨_,fun _=>h42 _ N (g+1) (by omega) (by omega) (fun j hj=>by have:=b3 j hj;omega), ?_⟩
 have s1:=smL_ok (w:=g+1) (by omega) N.length N (Nat.le_refl _)
 have s3:=smL_rng (M:=20000) (w:=g+1) (by omega) N.length N b3
 generalize smL (g+1) N.length N=Z at s1 s3⊢
 obtain ⟨s1,s2⟩:=s1
 conv=>whnf
 refine ⟨by exact g0,fun h=> ?_,fun _=> ?_⟩
 ·simp only [bp] at h
  omega
 conv=>whnf
 refine ⟨rfl, ?_⟩
 conv=>whnf
 have hv1:((V.length:Int) - 1).toNat=7:=by omega
 have v7:=hVv 7 (by omega)
 have v0:=hVv 0 (by omega)
 have hQ7:Q.length=7:=by omega
 rw [hQ7] at b2
 rw [hv1,Int.toNat_zero]
 generalize V.getD 7 default=y7 at v7 b2⊢
 generalize V.getD 0 default=y0 at v0 b2⊢
 refine ⟨by exact g0, ?_⟩
 refine LSem.loop (n:=302) mix (α:=Nat×Int×Int×Int) (fun s=>s.1≤7∧(s.2.1=(N.take s.1).sum∧s.2.2.1=(Z.take s.1).sum∧s.2.2.2=y7 - y0+(Q.take s.1).sum)∧(-(20000*(s.1:Int))≤s.2.1∧s.2.1≤20000*s.1)∧(-(20000*(s.1:Int))≤s.2.2.1∧s.2.2.1≤20000*s.1)∧(-(20000+20000*(s.1:Int))≤s.2.2.2∧s.2.2.2≤20000+20000*s.1))
  (fun s=> [(38, .sl 0 1 Q.length (fl eInt Q)),(39, .sl 0 1 N.length (fl eInt N)),(41, .sl 0 1 Z.length (fl eInt Z)),(43, .int .i64 s.2.1),(44, .int .i64 s.2.2.1),(45, .int .i64 s.2.2.2),(268, .int .i64 N.length),(269, .int .i64 s.1)])
  (fun s=> []) (fun s=>7 - s.1) (0,0,0,y7 - y0) ⟨Nat.zero_le _,⟨rfl,rfl,by simp⟩,⟨by dsimp only;omega,by dsimp only;omega⟩,⟨by dsimp only;omega,by dsimp only;omega⟩,by dsimp only;omega,by dsimp only;omega⟩ ?_ ?_
 ·refine ⟨rfl,rfl, ?_, ?_⟩<;>exact ent
 rintro ⟨i,A,B,C⟩ ⟨hi,⟨e1,e2,e3⟩,⟨a1,a2⟩,⟨c1,c2⟩,c3,c5⟩
 dsimp only at hi e1 e2 e3 a1 a2 c1 c2 c3 c5⊢
 conv=>whnf
 refine ⟨trivial,fun hc=> ?_,fun hc=> ?_⟩
 ·replace hc:=of_decide_eq_true hc
  have hlt:i<7:=by
   have h:(i:Int)<N.length:=hc
   omega
  have hj:((i:Int)).toNat=i:=by omega
  have n1:=b3 i (by omega)
  have n2:=s3 i (by omega)
  have n3:=q3 i (by omega)
  have t1:A+N.getD i default=(N.take (i+1)).sum:=by rw [List.take_add_one,getD_some (show i<N.length by omega),List.sum_append,e1];simp
  have t2:B+Z.getD i default=(Z.take (i+1)).sum:=by rw [List.take_add_one,getD_some (show i<Z.length by omega),List.sum_append,e2];simp
  have t3:C+Q.getD i default=y7 - y0+(Q.take (i+1)).sum:=by rw [List.take_add_one,getD_some (show i<Q.length by omega),List.sum_append,e3];simp [Int.add_assoc]
  conv=>whnf
  rw [hj]
  refine ⟨rfl, ?_⟩
  generalize N.getD i default=m1 at n1 t1⊢
  generalize Z.getD i default=m2 at n2 t2⊢
  generalize Q.getD i default=m3 at n3 t3⊢
  conv=>whnf
  refine ⟨by exact g0,(i+1,A+m1,B+m2,C+m3),⟨by dsimp only;omega,⟨t1,t2,t3⟩,⟨by dsimp only;omega,by dsimp only;omega⟩,⟨by dsimp only;omega,by dsimp only;omega⟩,by dsimp only;omega,by dsimp only;omega⟩,by dsimp only;omega,rfl,rfl, ?_, ?_⟩<;>exact ent
 have hk:i=7:=by
  have h:¬(i:Int)<N.length:=of_decide_eq_false hc
  omega
 subst hk
 rw [List.take_of_length_le (by omega)] at e1 e2 e3
 have hAC:A=C:=by omega
 have hBC:B=C:=by omega
 subst hAC
 subst hBC
 conv=>whnf
 refine ⟨_,fun _=>h16, ?_⟩
 conv=>whnf
 refine ⟨by exact g0, [], ?_⟩
 conv=>whnf
 refine ⟨rfl, ?_,trivial,trivial⟩
 rw [show (B==B)=true by simp]
 exact ent
open Go.RowKit
def AbB {β:Type} (Bl B:Nat) (I:β→World→Prop):Prop:=
 ∀s W W' row,I s W→W.grownBy W' row→(∀r,row=some r→r=Bl∨(B≤r∧∃o:Obj,W.heap[r]? =some o∧o.isCells=false))→I s W'
theorem AbB.putObj {β:Type} {Bl B:Nat} {I:β→World→Prop} (h:AbB Bl B I) {s:β} {W:World} {l:Nat} {o:Obj} (o':Obj) (hs:I s W) (hB:B≤l) (hl:W.heap[l]? =some o) (ho:o.isCells=false):I s (W.putObj l o'):=
 h s W _ (some l) hs (grownBy_putObj' W l o') fun r e=>by cases e;exact .inr ⟨hB,o,hl,ho⟩
theorem AbB.alloc {β:Type} {Bl B:Nat} {I:β→World→Prop} (h:AbB Bl B I) {s:β} {W:World} (o:Obj) (hs:I s W):I s (W.alloc o):=
 h s W _ none hs (World.grownBy_alloc W o none) fun r e=>by cases e
def endB {β:Type} (kp:Nat→Prop) (B:Nat) (I:β→World→Prop) (s:β) (W:World):Exit→Act→World→Prop
 | .normal,_,W'=>KeepsFrom B W W'∧(∀b,kp b→W'.heap[b]? =W.heap[b]?)∧I s W'
 | _,_,_=>False
def IterB {β:Type} (n:Nat) (P:Program) (gf:Nat) (lb:Array Value) (enc:β→Array Value) (Bl:Nat) (kp:Nat→Prop) (ob:Nat→Option Obj) (more:β→Prop) (nx:β→β) (s0 s1:β):Prop:=
 ∀(l:Nat) (J:β→World→Prop) (W:World),(∀s A B row,J s A→A.grownBy B row→(∀r,row=some r→r=Bl)→J s B)→(∀b,kp b→W.heap[b]? =ob b)→J s0 W→
  (∀s W1,J s W1→more s→YieldAt Fence.wide n P l (enc s) W1 fun e W'=>e= .returned (.bool true)∧J (nx s) W'∧∀b,kp b→W'.heap[b]? =W1.heap[b]?)→
  CallsIn Fence.wide (n+1) P gf (#[.func (.yield l) #[] #[]]++lb) W fun e W'=>(∃v,e= .returned v)∧J s1 W'
theorem range_box {β:Type} {n:Nat} {P:Program} {g:Operand} {ps:Array Tmp} {assign body:Code} {Q:Exit→Act→World→Prop} {a:Act} {w:World}
  {gf:Nat} {lb:Array Value} (hg:a.eval g= .func (.func gf) #[] lb) (eg:∀args w,(callFunc gf args).run P w= .ok (.enter gf args) w)
  {enc:β→Array Value} {Bl:Nat} {kp:Nat→Prop} {more:β→Prop} {nx:β→β} {s0 s1:β} (hBl:Bl<w.heap.size) (hkp:∀b,kp b→b<w.heap.size) (hit:IterB n P gf lb enc Bl kp (fun b=>w.heap[b]?) more nx s0 s1)
  (hps:∀x,(enc x).size=ps.size) (I:β→World→Prop) (hI:AbB Bl w.heap.size I) (h0:I s0 w) (a₁:β→Act)
  (hassign:∀(l:Nat) (x:β) (W:World) (K:Act→World→Prop),K (a₁ x) W→
   assign.wpIn (Fence.wide.inRound l) n P (Exit.then K (fun _ _ _=>False)) { tmps:=(ps.zip (enc x)).foldl (fun t (p,v)=>t.setIfInBounds p v) a.tmps,defers:= [] } W)
  (hbody:∀(l:Nat) (s:β) (W:World),w.heap.size≤W.heap.size→I s W→more s→body.wpIn (Fence.wide.inRound l) n P (endB kp w.heap.size I (nx s) W) (a₁ s) W)
  (hdone:∀(D:Nat) (W:World),w.heap.size≤D→I s1 W→W.heap[D]? =some (.deferred (some []))→Q .normal { a with defers:={ target:= .collected D,args:= #[] }::a.defers } W):
  (Code.rangeFunc g ps assign body).wpIn Fence.wide (n+2) P Q a w:=by
 refine wpIn_rangeFunc ?_
 intro fn _
 let rec_:LoopState→Option Code→Loop:=fun st pe=>{ state:=st,pending:=pe,fn:=fn,tmps:=a.tmps,params:=ps,assign:=assign,body:=body,defers:=w.heap.size }
 obtain ⟨rc,hrc⟩:∃rc,rc=rec_:=⟨_,rfl⟩
 obtain ⟨W1,hW1⟩:∃W1,(w.alloc (.deferred (some []))).alloc (.loop (rc .ready none))=W1:=⟨_,rfl⟩
 have hsz1:W1.heap.size=w.heap.size+2:=by rw [←hW1];simp
 have hL1:W1.heap[w.heap.size+1]? =some (.loop (rc .ready none)):=by
  rw [←hW1]
  have h:=World.alloc_heap_new (w.alloc (.deferred (some []))) (.loop (rc .ready none))
  rwa [World.size_alloc] at h
 have hK1:W1.heap[w.heap.size]? =some (.deferred (some [])):=by
  rw [←hW1];exact (Below.heap_alloc _ _ _ (by simp)).trans (World.alloc_heap_new w _)
 have hI1:I s0 W1:=by rw [←hW1];exact hI.alloc _ (hI.alloc _ h0)
 have hb1:∀b,kp b→W1.heap[b]? =w.heap[b]? :=fun b hb=>by
  have:=hkp b hb
  rw [←hW1,Below.heap_alloc _ _ _ (by simp;omega),Below.heap_alloc _ _ _ this]
 refine ⟨w.heap.size+1, [{ target:= .collected w.heap.size,args:= #[] }],W1,{ target:= .fn (.func gf) lb,args:= #[.func (.yield (w.heap.size+1)) #[] #[]] },W1,gf,
  #[.func (.yield (w.heap.size+1)) #[] #[]]++lb,W1, ?_, ?_, ?_, ?_,fun h=>absurd h (by decide), ?_⟩
 ·rw [←hW1,hrc];exact run_enterLoop_outer _ _ _ _ _
 ·simp only [resolve,hg]
  simp [go_sem]
 ·intro f' _;trivial
 ·simp [invoke,go_sem,eg]
 ·refine (hit (w.heap.size+1) (fun s W=>w.heap.size≤W.heap.size∧I s W∧W.heap[w.heap.size+1]? =some (.loop (rc .ready none))∧W.heap[w.heap.size]? =some (.deferred (some []))) W1
    ?_ hb1 ⟨by omega,hI1,hL1,hK1⟩ ?_).mono ?_
  ·rintro s A B row ⟨h1,h2,h3,h4⟩ hgr hrow
   have hlt:=(Array.getElem?_eq_some_iff.1 h3).1
   have keep:∀k,w.heap.size≤k→k<A.heap.size→B.heap[k]? =A.heap[k]? :=fun k hk hkl=>hgr.block k hkl fun e=>by
    have:=hrow k e.symm
    omega
   exact ⟨Nat.le_trans h1 hgr.size,hI s A B row h2 hgr fun r e=> .inl (hrow r e),(keep _ (by omega) hlt).trans h3,(keep _ (Nat.le_refl _) (by omega)).trans h4⟩
  ·rintro s W ⟨h1,hi,hl,hk⟩ hm
   have hlt:w.heap.size+1<W.heap.size:=(Array.getElem?_eq_some_iff.1 hl).1
   have hy:=run_yield (P:=P) (args:=enc s) hl (by rw [hrc];exact hps s)
   rw [hrc] at hy
   refine ⟨fn,_,assign,body,hy,roundIn_of_wpIn trivial (hassign _ s W _ ⟨_,run_beginRound hl (by rw [hrc]), ?_⟩)⟩
   have hl2:(W.putObj (w.heap.size+1) (.loop { rc .ready none with state:= .busy })).heap[w.heap.size+1]? =some (.loop { rc .ready none with state:= .busy }):=World.putObj_heap_same hlt
   have hk2:(W.putObj (w.heap.size+1) (.loop { rc .ready none with state:= .busy })).heap[w.heap.size]? =some (.deferred (some [])):=(World.putObj_heap_other (by omega)).trans hk
   refine wpIn_mono (hbody _ s _ (by rw [World.putObj_size];exact h1) (hI.putObj _ hi (by omega) hl rfl) hm) ?_
   rintro e a3 W3 hp
   cases e with
   | normal=>
     obtain ⟨hk3,hb3,hi3⟩:=hp
     have hl3:=hk3.same _ _ (by omega) hl2 rfl
     have hr:=run_endRound (P:=P) none hl3
     rw [hrc] at hr hl3
     refine ⟨_,_,hr,rfl,⟨?_,hI.putObj _ hi3 (by omega) hl3 rfl, ?_,(World.putObj_heap_other (by omega)).trans (hk3.same _ _ (Nat.le_refl _) hk2 rfl)⟩,fun b hb=> ?_⟩
     ·have:=hk3.size
      simp at this⊢
      omega
     ·rw [World.putObj_heap_same (Array.getElem?_eq_some_iff.1 hl3).1,hrc]
      rfl
     ·have:=hkp b hb
      rw [World.putObj_heap_other (by omega),hb3 b hb,World.putObj_heap_other (by omega)]
   | ret=>exact hp.elim
   | exit id=>exact hp.elim
   | goto t=>exact hp.elim
   | panic ch=>exact hp.elim
   | outgrown=>exact hp.elim
  ·rintro e W2 ⟨⟨v,rfl⟩,hs2,hi,hl,hk⟩
   have hr:=run_endLoop (P:=P) hl (by rw [hrc];simp [rec_])
   refine ⟨none,_,by rw [hr];rw [hrc],hdone _ _ (Nat.le_refl _) (hI.putObj _ hi (by omega) hl rfl) ((World.putObj_heap_other (by omega)).trans hk)⟩
open Go.RowKit Go.Shelf
attribute [local go_sem] Oper.semAt_some
def leftB (Bl:Nat) (w:World):Nat:=match w.cell? ⟨Bl,0,none⟩ with
 | some (.slice _ n _)=>n
 | _=>0
def boxP (b off len cap p:Nat) (v:Value):Prop:=(p=len∧∃a c,v= .slice a 0 c)∨(p<len∧v= .slice (some ⟨b,off+p,none⟩) (len - p) (cap - p))
theorem iter160 (n:Nat) (Bl Bw b off len cap k:Nat) (hne:Bl≠Bw) (hk:1≤k∧k≤4) (hlen:len≤4096) (hcap:len≤cap) (ob:Nat→Option Obj) (v0:Value)
  (hl:ob Bl=some (.cells #[v0] 22 (0,0))) (hv0:boxP b off len cap 0 v0) (hw:ob Bw=some (.cells #[.int .i64 k] 3 (0,0))):
  IterB n Tryz.prog 160 #[.pointer (some ⟨Bl,0,none⟩), .pointer (some ⟨Bw,0,none⟩)] (fun p=> #[.slice (some ⟨b,off+p,none⟩) (min k (len - p)) (cap - p)]) Bl (fun x=>x=Bl∨x=Bw) ob
   (fun p=>p<len) (fun p=>p+min k (len - p)) 0 len:=by
 intro l J W hJ hkp h0 hY
 refine callsIn_of_wp Tryz.func160 rfl trivial ?_ rfl
 simp only [Tryz.ntmps160,List.size_toArray,List.length_cons,List.length_nil,Nat.reduceAdd,Nat.reduceSub,Array.replicate_succ,Array.replicate_zero,List.push_toArray,List.append_toArray,List.nil_append,List.cons_append]
 gi_wp2
 gi_loopw [] (fun wr=>∃p v,p≤len∧J p wr∧Boxed wr Bl 22 v∧boxP b off len cap p v∧Boxed wr Bw 3 (.int .i64 k)) (fun wr=>leftB Bl wr)
 case atStart=>exact ⟨0,v0,Nat.zero_le _,h0,(hkp _ (.inl rfl)).trans hl,hv0,(hkp _ (.inr rfl)).trans hw⟩
 case round=>
  obtain ⟨p,v,hp,hJp,hB,hv,hW⟩:=hrel
  have hBc:=hB.cell
  have hWc:=hW.cell
  rcases hv with ⟨rfl,a,c,rfl⟩ | ⟨hlt,rfl⟩
  ·gi_wp2
   go_end0
   exact ⟨⟨_,rfl⟩,hJp⟩
  ·obtain ⟨fn,tmps,assign,body,hy,hR⟩:=hY p wr hJp hlt
   have step:∀(W3:World) (m:Nat),min k (len - p)=m→(∀b,b=Bl∨b=Bw→W3.heap[b]? =wr.heap[b]?)→Boxed W3 Bl 22 (.slice (some ⟨b,off+p,none⟩) (len - p) (cap - p))∧Boxed W3 Bw 3 (.int .i64 k):=fun W3 m hm hk3=>⟨(hk3 _ (.inl rfl)).trans hB,(hk3 _ (.inr rfl)).trans hW⟩
   have fin:∀(W3:World) (m:Nat),1≤m→m≤len - p→J (p+m) W3→Boxed W3 Bl 22 (.slice (some ⟨b,off+p,none⟩) (len - p) (cap - p))→Boxed W3 Bw 3 (.int .i64 k)→
     (∃p_1 v,p_1≤len∧J p_1 (W3.setCell ⟨Bl,0,none⟩ (.slice (if cap - p=m then some ⟨b,off+p,none⟩ else some ⟨b,off+p+m,none⟩) (len - p - m) (cap - p - m)))∧
      Boxed (W3.setCell ⟨Bl,0,none⟩ (.slice (if cap - p=m then some ⟨b,off+p,none⟩ else some ⟨b,off+p+m,none⟩) (len - p - m) (cap - p - m))) Bl 22 v∧boxP b off len cap p_1 v∧
      Boxed (W3.setCell ⟨Bl,0,none⟩ (.slice (if cap - p=m then some ⟨b,off+p,none⟩ else some ⟨b,off+p+m,none⟩) (len - p - m) (cap - p - m))) Bw 3 (.int .i64 k))∧
     leftB Bl (W3.setCell ⟨Bl,0,none⟩ (.slice (if cap - p=m then some ⟨b,off+p,none⟩ else some ⟨b,off+p+m,none⟩) (len - p - m) (cap - p - m)))<leftB Bl wr:=by
    intro W3 m h1 h2 hJ3 hB3 hW3
    refine ⟨⟨p+m,_,by omega,hJ _ _ _ _ hJ3 (grownBy_setCell' W3 Bl _) (fun r e=>by cases e;rfl),hB3.set _, ?_,hW3.kept (grownBy_setCell' W3 Bl _) (by simpa using hne.symm)⟩, ?_⟩
    ·by_cases he:p+m=len
     ·exact .inl ⟨he,_,_,by rw [show len - p - m=0 by omega]⟩
     ·refine .inr ⟨by omega, ?_⟩
      rw [if_neg (by omega),Nat.add_assoc,show len - p - m=len - (p+m) by omega,show cap - p - m=cap - (p+m) by omega]
    ·unfold leftB
     rw [(hB3.set _).cell,hBc]
     dsimp only
     omega
   by_cases hkl:k≤len - p
   ·have hm:min k (len - p)=k:=by omega
    rw [hm] at hy hR
    have hmi:min (k:Int) ((len - p:Nat):Int)=(k:Int):=by omega
    gi_wp2
    refine hR.mono ?_
    rintro e W3 ⟨rfl,hJ3,hk3⟩
    obtain ⟨hB3,hW3⟩:=step W3 _ hm hk3
    have hc3:=hB3.cell
    have hf3:=hB3.frozen
    gi_wp2
    exact fin W3 k (by omega) hkl hJ3 hB3 hW3
   ·have hm:min k (len - p)=len - p:=by omega
    rw [hm] at hy hR
    have hmi:min (k:Int) ((len - p:Nat):Int)=((len - p:Nat):Int):=by omega
    gi_wp2
    refine hR.mono ?_
    rintro e W3 ⟨rfl,hJ3,hk3⟩
    obtain ⟨hB3,hW3⟩:=step W3 _ hm hk3
    have hc3:=hB3.cell
    have hf3:=hB3.frozen
    gi_wp2
    have hh:=fin W3 (len - p) (by omega) (Nat.le_refl _) hJ3 hB3 hW3
    simp only [Nat.sub_self] at hh
    exact hh
open Go.RowKit Go.ChangeShapes
inductive Sh where
 | int (k:IntKind)
 | bool
 | str
 | sl (shs:List Sh)
 deriving Inhabited
inductive ShR:Sh→PV→Prop where
 | int (k:IntKind) (n:Int) (h:inR k n):ShR (.int k) (.int k n)
 | bool (b:Bool):ShR .bool (.bool b)
 | str (s:List UInt8) (h:s.length≤maxLen):ShR .str (.str s)
 | sl (shs:List Sh) (n:Nat) (f:Nat→List PV) (hn:n≤maxLen) (h1:∀i,i<n→(f i).length=shs.length)
  (h2:∀(i j:Nat) (s:Sh) (p:PV),i<n→shs[j]? =some s→(f i)[j]? =some p→ShR s p):ShR (.sl shs) (.sl 1 shs.length n f)
def ShL (shs:List Sh) (ps:List PV):Prop:=ps.length=shs.length∧∀(j:Nat) (s:Sh) (p:PV),shs[j]? =some s→ps[j]? =some p→ShR s p
def fieldSh (sh:TypeId→Option (List Sh)) (P:Program):Nat→List Field→Option (List Sh)
 | _, []=>some []
 | off,f::fs=>if f.offset=off then match sh f.type with
   | some s=>if s.length=P.cellsOf f.type then match fieldSh sh P (off+s.length) fs with
     | some r=>some (s++r)
     | none=>none
     else none
   | none=>none
   else none
def shp (P:Program):Nat→TypeId→Option (List Sh)
 | 0,_=>none
 | m+1,t=>match P.underlying t with
   | some .bool=>some [.bool]
   | some (.int k)=>some [.int k]
   | some .string=>some [.str]
   | some (.slice e)=>match shp P m e with
     | some s=>if s.length=P.cellsOf e∧0<s.length then some [.sl s] else none
     | none=>none
   | some (.struct fs)=>match fieldSh (shp P m) P 0 fs.toList with
     | some s=>if s.length=P.cellsOf t then some s else none
     | none=>none
   | _=>none
theorem ShR.flat {s:Sh} {p:PV} (h:ShR s p):p.flat=true:=by cases h<;>rfl
theorem ShR.mark1 {s:Sh} {p:PV} (h:ShR s p):p.mark 1=p:=by cases h<;>rfl
theorem ShL.append {a b:List Sh} {x y:List PV} (h:ShL a x) (h':ShL b y):ShL (a++b) (x++y):=by
 refine ⟨by simp [h.1,h'.1],fun j s p hs hp=> ?_⟩
 rw [List.getElem?_append] at hs hp
 rw [h.1] at hp
 split at hs
 ·rename_i hj;rw [if_pos hj] at hp;exact h.2 j s p hs hp
 ·rename_i hj;rw [if_neg hj] at hp;exact h'.2 _ s p hs hp
section
variable {H:Type} {enc:TypeId×Value→H} {P:Program} {w:World} {sp:Nat→Bool} {held:Bool} {X:Cx} {γ:Gh}
theorem trod_fields {m n:Nat} {cs:List Value} {xs:List (DataW H×List MemPlace)}
  (ih:∀(t:TypeId) (cs:List Value) (x:DataW H×List MemPlace) (shs:List Sh),shp P m t=some shs→DataW.trod enc P w 0 sp held n t cs=some x→∃ps,ShL shs ps∧RepL X γ w ps cs∧∀u∈cs,u.oneCell'=true):
  ∀(fs:List Field) (off k:Nat) (shs:List Sh),fieldSh (shp P m) P off fs=some shs→off+shs.length=cs.length→(∀i f,fs[i]? =some f→DataW.trod enc P w 0 sp held n f.type ((cs.drop f.offset).take (P.cellsOf f.type))=xs[k+i]?)→k+fs.length=xs.length→
   ∃ps,ShL shs ps∧RepL X γ w ps (cs.drop off)∧∀u∈cs.drop off,u.oneCell'=true
 | [],off,k,shs,h,hl,hx,hk=>by
   simp only [fieldSh,Option.some.injEq] at h;subst h
   have e:cs.drop off= []:=List.drop_eq_nil_of_le (by simpa using hl.symm▸Nat.le_refl _)
   rw [e]
   exact ⟨[],⟨rfl,fun j s p hs=>by simp at hs⟩,RepL.nil_,by simp⟩
 | f::fs,off,k,shs,h,hl,hx,hk=>by
   simp only [fieldSh] at h
   split at h
   ·rename_i hoff
    split at h
    ·rename_i s hs
     split at h
     ·rename_i hsl
      split at h
      ·rename_i r hr
       injection h with h;subst h
       simp only [List.length_append] at hl
       obtain ⟨ps',h1,h2,h3⟩:=trod_fields (cs:=cs) ih fs (off+s.length) (k+1) r hr (by omega) (fun i f' hf=>by
        have:=hx (i+1) f' (by simpa using hf)
        rw [show k+(i+1)=k+1+i from by omega] at this;exact this) (by simp only [List.length_cons] at hk;omega)
       have h0:=hx 0 f rfl
       have hk0:k+0<xs.length:=by simp only [List.length_cons] at hk;omega
       rw [List.getElem?_eq_getElem hk0] at h0
       obtain ⟨ps,g1,g2,g3⟩:=ih _ _ _ _ hs h0
       rw [hoff,←hsl] at g2 g3
       have e:cs.drop off=(cs.drop off).take s.length++cs.drop (off+s.length):=by
        rw [←List.drop_drop,List.take_append_drop]
       refine ⟨ps++ps',g1.append h1, ?_, ?_⟩
       ·rw [e];exact g2.append h2
       ·rw [e]
        intro u hu
        rcases List.mem_append.1 hu with hu | hu
        ·exact g3 u hu
        ·exact h3 u hu
      ·cases h
     ·cases h
    ·cases h
   ·cases h
theorem trod_rep (hX:∀b,b<w.heap.size→mayLie X γ 1 b):∀(m fuel:Nat) (t:TypeId) (cs:List Value) (x:DataW H×List MemPlace) (shs:List Sh),shp P m t=some shs→DataW.trod enc P w 0 sp held fuel t cs=some x→
  ∃ps,ShL shs ps∧RepL X γ w ps cs∧∀u∈cs,u.oneCell'=true:=by
 have one:∀(s:Sh) (p:PV) (v:Value),ShR s p→Rep X γ w p v→v.oneCell'=true→∃ps,ShL [s] ps∧RepL X γ w ps [v]∧∀u∈ [v],u.oneCell'=true:=fun s p v h1 h2 h3=>
  ⟨[p],⟨rfl,fun j s' p' hs hp=>by
   cases j with
   | zero=>simp only [List.getElem?_cons_zero,Option.some.injEq] at hs hp;subst hs;subst hp;exact h1
   | succ j=>simp at hs⟩,RepL.cons_ h2 RepL.nil_,by simpa using h3⟩
 intro m
 induction m with
 | zero=>intro fuel t cs x shs h;simp [shp] at h
 | succ m ih=>
   intro fuel t cs x shs h hd
   simp only [shp] at h
   split at h
   ·rename_i ht
    injection h with h;subst h
    obtain ⟨b,rfl,_⟩:=DataW.trod_bool ht hd
    exact one _ _ _ (.bool b) (.bool b) rfl
   ·rename_i k ht
    injection h with h;subst h
    obtain ⟨n,rfl,_,hw⟩:=DataW.trod_int ht hd
    simp only [Lit.wf,Bool.and_eq_true,decide_eq_true_eq] at hw
    exact one _ _ _ (.int k n hw) (.int k n) rfl
   ·rename_i ht
    injection h with h;subst h
    obtain ⟨s,rfl,_,hw⟩:=DataW.trod_string ht hd
    have e:s=⟨s.data.toList.toArray⟩:=by cases s;simp
    refine one _ (.str s.data.toList) _ (.str _ (by rw [Array.length_toList];exact hw)) ?_ rfl
    have:=Rep.str (X:=X) (γ:=γ) (w:=w) s.data.toList
    rwa [←e] at this
   ·rename_i e ht
    split at h
    ·rename_i s hs
     split at h
     ·rename_i hc
      obtain ⟨hsl,hpos⟩:=hc
      injection h with h;subst h
      rcases DataW.trod_slice ht hd with ⟨rfl,_⟩ | ⟨a,len,cap,elems,rest,n,hf,rfl,_,hb,hlc,hcm,hel,helem,_,_⟩
      ·refine one _ (.sl 1 s.length 0 (fun _=> [])) _ (.sl s 0 _ (Nat.zero_le _) (fun i hi=>by omega) (fun i j s p hi=>by omega)) ?_ rfl
       exact .sl 1 _ 0 _ none 0 (fun _=>undef) (Nat.le_refl _) (fun i hi=>by omega) (fun i hi=>by omega) (fun hi=>by omega) (fun i j c hi=>by omega)
      ·have hex:∀i,∃ps,i<len→ShL s ps∧∃cs',w.cells? 0 (a.add (i*P.cellsOf e)) (P.cellsOf e)=some cs'∧RepL X γ w ps cs':=fun i=>by
         by_cases hi:i<len
         ·have h1:=helem i hi
          rw [List.getElem?_eq_getElem (by omega)] at h1
          obtain ⟨cs',h2,h3⟩:=Option.bind_eq_some_iff.1 h1
          obtain ⟨ps,g1,g2,_⟩:=ih _ _ _ _ _ hs h3
          exact ⟨ps,fun _=>⟨g1,cs',h2,g2⟩⟩
         ·exact ⟨[],fun h=>absurd h hi⟩
       let f:Nat→List PV:=fun i=>Classical.choose (hex i)
       have hf':∀i,i<len→ShL s (f i)∧∃cs',w.cells? 0 (a.add (i*P.cellsOf e)) (P.cellsOf e)=some cs'∧RepL X γ w (f i) cs':=fun i=>Classical.choose_spec (hex i)
       have hcell:∀i j,i<len→j<s.length→∃u p,w.cell? (a.add (i*s.length+j))=some u∧(f i)[j]? =some p∧Rep X γ w p u:=fun i j hi hj=>by
        obtain ⟨g1,cs',g2,g3⟩:=hf' i hi
        obtain ⟨_,k2,k3⟩:=World.cells?_some g2
        have hj':j<cs'.length:=by rw [k2,←hsl];exact hj
        have hk:=k3 j (by rw [←hsl];exact hj)
        rw [List.getElem?_eq_getElem hj',add_add_,←hsl] at hk
        have hpj:j<(f i).length:=by rw [g1.1];exact hj
        exact ⟨_,_,hk,List.getElem?_eq_getElem hpj,g3.2 j _ _ (List.getElem?_eq_getElem hpj) (List.getElem?_eq_getElem hj')⟩
       refine one _ (.sl 1 s.length len f) _ (.sl s len f (Nat.le_trans hlc hcm) (fun i hi=>(hf' i hi).1.1) (fun i j s' p hi hs' hp=>(hf' i hi).1.2 j s' p hs' hp)) ?_ rfl
       have hsh:∀i,i<len→∀c∈f i,∃s',ShR s' c:=fun i hi c hc=>by
        obtain ⟨j,hj⟩:=List.getElem?_of_mem hc
        have hlt:=(List.getElem?_eq_some_iff.1 hj).1
        have hlt2:j<s.length:=by rw [←(hf' i hi).1.1];exact hlt
        exact ⟨_,(hf' i hi).1.2 j _ _ (List.getElem?_eq_getElem hlt2) hj⟩
       refine .sl 1 s.length len f (some a) cap (fun k=>(w.cell? (a.add k)).getD undef) hlc (fun i hi=>(hf' i hi).1.1) (fun i hi c hc=>by obtain ⟨s',h⟩:=hsh i hi c hc;exact h.flat) (fun hn=> ?_) (fun i j c hi hc=> ?_)
       ·obtain ⟨u,p,h1,_,_⟩:=hcell 0 0 hn hpos
        have hblk:a.block<w.heap.size:=by
         obtain ⟨_,cs',g2,_⟩:=hf' 0 hn
         have:=World.cells?_block g2 (by omega)
         have e:(a.add (0*P.cellsOf e)).block=a.block:=by unfold Addr.add;split<;>rfl
         rwa [e] at this
        refine ⟨a,rfl,hX _ hblk,hblk,fun k hk=> ?_⟩
        have hk1:k / s.length<len:=by rw [Nat.div_lt_iff_lt_mul hpos];exact hk
        obtain ⟨u,p,h1,_,_⟩:=hcell (k / s.length) (k % s.length) hk1 (Nat.mod_lt _ hpos)
        rw [Nat.mul_comm,Nat.div_add_mod] at h1
        exact cellT_pos (by decide) (by rw [h1];rfl)
       ·have hj:j<s.length:=by rw [←(hf' i hi).1.1];exact (List.getElem?_eq_some_iff.1 hc).1
        obtain ⟨u,p,h1,h2,h3⟩:=hcell i j hi hj
        rw [h2] at hc;injection hc with hc;subst hc
        obtain ⟨s',h⟩:=hsh i hi p (List.mem_of_getElem? h2)
        rw [h.mark1,h1];exact h3
     ·cases h
    ·cases h
   ·rename_i fs ht
    split at h
    ·rename_i s hs
     split at h
     ·rename_i hsl
      injection h with h;subst h
      obtain ⟨xs,n,rfl,_,hcl,hxl,hx⟩:=DataW.trod_struct ht hd
      obtain ⟨ps,h1,h2,h3⟩:=trod_fields (cs:=cs) (xs:=xs) (ih n) fs.toList 0 0 s hs (by omega) (fun i f hf=>by rw [Nat.zero_add];exact hx i f (by simpa using hf)) (by simpa using hxl.symm)
      exact ⟨ps,h1,by simpa using h2,by simpa using h3⟩
     ·cases h
    ·cases h
   ·cases h
end
open Go.RowKit Go.ChangeShapes
section
variable {H:Type} {enc:TypeId×Value→H} {P:Program} {w:World} {sp:Nat→Bool} {held:Bool}
def cx0 (w:World):Cx:=⟨w.heap.size,fun b=>b<w.heap.size,fun _=>False,0,fun _=>none, []⟩
def gh0:Gh:=fun _=>none
theorem gh0_own (b:Nat):¬gh0.own b:=by rintro ⟨r,ge,h,_⟩;cases h
theorem lie0 (b:Nat) (hb:b<w.heap.size):mayLie (cx0 w) gh0 1 b:=⟨gh0_own b, .inr (.inl ⟨Nat.le_refl _,hb⟩)⟩
def GlobOK (w:World):Prop:=∀b p,glob b=some p→∃o,w.heap[b]? =some o∧p o
theorem st0 (hgl:GlobOK w):RepSt (cx0 w) gh0 w (fun r=>([]:List SE)[r]?):=
 ⟨fun r=>by simp [gh0],fun r ge e h=>(by cases h),fun r r' ge ge' b h=>(by cases h),fun b hb=>absurd hb (gh0_own b),fun b hb=>absurd hb (gh0_own b),fun b p hb=>⟨hgl b p hb,gh0_own b,by
  obtain ⟨o,h1,_⟩:=hgl b p hb
  exact (Array.getElem?_eq_some_iff.1 h1).1⟩⟩
theorem law_calls (hgl:GlobOK w) {f:FuncId} {args:List PV} {vals:List Value} (h:PureCall P f args [] ⟨.bool true, [], []⟩) (hr:RepL (cx0 w) gh0 w args vals):
  Calls P f vals.toArray w fun e w'=>e= .returned (.bool true)∧Below w.heap.size w w':=by
 have hst:RepSt ⟨w.heap.size,(cx0 w).as,(cx0 w).ls,([]:List SE).length,gh0, []⟩ gh0 w (fun r=>([]:List SE)[r]?):=
  st0 (w:=w) hgl
 refine (h.2 w gh0 (cx0 w).as (cx0 w).ls vals hst (fun b hb=>hb.elim (fun h=>h) (fun h=>h.elim)) hr).mono ?_
 rintro e w' ⟨v,γ',rfl,hv,_,hk,_,_⟩
 cases hv.bool_inv
 exact ⟨rfl,hk.os,hk.tape,hk.output,hk.size,fun k hk'=>hk.block k hk' (gh0_own k)⟩
theorem arg_one {m:Nat} {t:TypeId} {s:Sh} {v:Value} {d:DataW H} {ps:List MemPlace} (hs:shp P m t=some [s]) (hv:v.oneCell'=true) (h:DataW.Trod enc P w 0 sp held t v d ps):∃p,ShR s p∧Rep (cx0 w) gh0 w p v:=by
 obtain ⟨fuel,hf⟩:=h
 rw [cells_one hv] at hf
 obtain ⟨ps,h1,h2,_⟩:=trod_rep (X:=cx0 w) (γ:=gh0) lie0 _ _ _ _ _ _ hs hf
 obtain ⟨h1,h1'⟩:=h1
 match ps,h1 with
 | [p],_=>
   obtain ⟨u,us,hu,hr,_⟩:=h2.cons_inv
   simp only [List.cons.injEq] at hu
   exact ⟨p,h1' 0 s p rfl rfl,by rw [hu.1];exact hr⟩
theorem Rep.le0 (hgl:GlobOK w) {p q:PV} {v:Value} (h:Rep (cx0 w) gh0 w p v) (hl:PLe (fun r=>([]:List SE)[r]?) (fun _=>true) p q):Rep (cx0 w) gh0 w q v:=
 h.le (γk:=gh0) (st0 hgl) (fun r ge b hr _ _=>(by cases hr)) (fun r ge hr _=>hr) (fun r ge hr=>⟨hr,rfl⟩) q hl
theorem sh_list (hgl:GlobOK w) {α:Type} [Inhabited α] (e:α→List PV) (Q:α→Prop) {shs:List Sh} (hdec:∀ps,ShL shs ps→∃x,ps=e x∧Q x) {p:PV} (h:ShR (.sl shs) p) {v:Value} (hr:Rep (cx0 w) gh0 w p v):
  ∃l:List α,Rep (cx0 w) gh0 w (.sl 1 shs.length l.length (fl e l)) v∧l.length≤maxLen∧∀x∈l,Q x:=by
 cases h with
 | sl _ n f hn h1 h2=>
   have hx:∀i,∃x,i<n→f i=e x∧Q x:=fun i=>by
    by_cases hi:i<n
    ·obtain ⟨x,hx⟩:=hdec (f i) ⟨h1 i hi,fun j s p hs hp=>h2 i j s p hi hs hp⟩
     exact ⟨x,fun _=>hx⟩
    ·exact ⟨default,fun h=>absurd h hi⟩
   let g:Nat→α:=fun i=>Classical.choose (hx i)
   have hg:∀i,i<n→f i=e (g i)∧Q (g i):=fun i=>Classical.choose_spec (hx i)
   refine ⟨(List.range n).map g,hr.le0 hgl ?_,by simpa using hn,fun x hm=> ?_⟩
   ·refine ⟨Nat.le_refl _,rfl,by simp,fun i hi=> ?_⟩
    rw [(hg i hi).1]
    simp [fl,List.getD_eq_getElem?_getD,hi]
   ·obtain ⟨i,hi,rfl⟩:=List.mem_map.1 hm
    exact (hg i (List.mem_range.1 hi)).2
theorem sh_int {k:IntKind} {p:PV} (h:ShR (.int k) p):∃n,p= .int k n∧inR k n:=by cases h with | int _ n h=>exact ⟨n,rfl,h⟩
theorem shl_cons {s:Sh} {ss:List Sh} {ps:List PV} (h:ShL (s::ss) ps):∃p qs,ps=p::qs∧ShR s p∧ShL ss qs:=by
 obtain ⟨h1,h2⟩:=h
 match ps,h1 with
 | p::qs,h1=>exact ⟨p,qs,rfl,h2 0 s p rfl rfl,by simpa using h1,fun j s' p' hs hp=>h2 (j+1) s' p' (by simpa using hs) (by simpa using hp)⟩
theorem shl_nil {ps:List PV} (h:ShL [] ps):ps= []:=List.eq_nil_of_length_eq_zero h.1
end
open Go.RowKit Go.Shelf
attribute [local go_sem] Oper.semAt_some
theorem wrap_i64 {n:Int} (h: -9223372036854775808≤n∧n≤9223372036854775807):wrap64 n=n:=by unfold wrap64;omega
theorem owns_weak {W:World} {a b:Nat} {e:TypeId} {size:Nat} {v:Value} {k:Nat} {xs:List Value} (h:W.ownsRow a e size v k xs) (hab:b≤a):W.ownsRow b e size v k xs:=
 ⟨h.1,h.2.imp id fun ⟨g,cap,cur,h1,h2,h3⟩=>⟨g,cap,cur,h1,Nat.le_trans hab h2,h3⟩⟩
theorem appended2 {W w1:World} {n₀ m₀ B:Nat} {t e:TypeId} {size:Nat} {v v':Value} {k m:Nat} {xs ys:List Value} {tmp:Obj}
  (hv:Boxed W B t v) (hte:t≠e) (hrow:W.ownsRow m₀ e size v k xs) (hn:n₀≤m₀) (hm:m₀≤W.heap.size) (hB:n₀≤B) (hown':w1.ownsRow m₀ e size v' m ys) (hgrow:(W.alloc tmp).grownBy w1 v.ownBlock):
  Boxed w1 B t v∧Boxed (w1.setCell ⟨B,0,none⟩ v') B t v'∧(w1.setCell ⟨B,0,none⟩ v').ownsRow m₀ e size v' m ys∧KeepsOthers W (w1.setCell ⟨B,0,none⟩ v')∧Below n₀ W (w1.setCell ⟨B,0,none⟩ v')∧
   ∀b,b<m₀→b≠B→(w1.setCell ⟨B,0,none⟩ v').heap[b]? =W.heap[b]? :=by
 obtain ⟨h1,h2,_,h4,h5⟩:=hv.appended hte (owns_weak hrow hn) (Nat.le_trans hn hm) hB (owns_weak hown' hn) hgrow
 refine ⟨h1,h2,hown'.kept (grownBy_setCell' w1 B v') (.inr (h1.not_row hte hown').symm),h4,h5,fun b hb hne=> ?_⟩
 rw [(grownBy_setCell' w1 B v').block b ?_ (by simpa using hne),hgrow.block b (by simp;omega) ?_,Below.heap_alloc _ _ _ (by omega)]
 ·rcases hrow.2 with ⟨rfl,_⟩ | ⟨g,cap,cur,rfl,hg,_,_⟩
  ·simp [Value.ownBlock]
  ·simp [Value.ownBlock];omega
 ·have:=hgrow.size
  simp at this
  omega
theorem sum_bd (M:Int) (hM:0≤M):∀L:List Int,(∀x∈L, -M≤x∧x≤M)→ -(L.length*M)≤L.sum∧L.sum≤L.length*M
 | [],_=>by simp
 | a::L,h=>by
   have h1:=h a (List.mem_cons_self ..)
   have h2:=sum_bd M hM L fun x hx=>h x (List.mem_cons_of_mem _ hx)
   rw [List.sum_cons,List.length_cons]
   have e:((L.length+1:Nat):Int)*M=L.length*M+M:=by rw [Int.natCast_add,Int.add_mul];omega
   omega
theorem info3:(Tryz.prog.info? 3).map (fun i=>(i.zero,i.size,i.bytes))=some (some (.int .i64 0),1,8):=by kernel_rfl
def smI (n0 B0:Nat) (w0:World) (k:Nat) (l:List Int) (p:Nat) (W:World):Prop:=
 (∃v d,Boxed W B0 22 v∧W.ownsRow (B0+3) 3 1 v d.length (d.map (Value.int .i64))∧d++smL k l.length (l.drop p)=smL k l.length l∧p≤l.length∧d.length=p)∧Below n0 w0 W
theorem smI_ab {n0 B0:Nat} {w0:World} {k:Nat} {l:List Int} (h0:n0≤w0.heap.size) (hB:n0≤B0):AbB (B0+1) (B0+3) (smI n0 B0 w0 k l):=by
 rintro p A B row ⟨⟨v,d,h1,h2,h3⟩,h4⟩ hg hr
 refine ⟨⟨v,d,h1.kept hg ?_,h2.kept hg ?_,h3⟩,h4.grown hg (Nat.le_trans h0 h4.size) fun b e=> ?_⟩
 ·intro e
  rcases hr B0 e.symm with h | ⟨h,_⟩<;>omega
 ·rcases h2.2 with ⟨rfl,_⟩ | ⟨g,cap,cur,rfl,hb,hgb,_⟩
  ·exact .inl rfl
  ·refine .inr fun e=> ?_
   rcases hr g (by simpa [Value.ownBlock] using e.symm) with h | ⟨_,o,ho,hc⟩
   ·omega
   ·rw [hgb] at ho;cases ho;cases hc
 ·rcases hr b e with h | ⟨h,_⟩<;>omega
theorem groups_in (w:World) (ad:Option Addr) (n cap k:Nat):CallsIn Fence.wide 5 Tryz.prog 100 #[.slice ad n cap, .int .i64 k] w fun e w'=>
  e= .returned (.func (.func 160) #[] #[.pointer (some ⟨w.heap.size,0,none⟩), .pointer (some ⟨w.heap.size+1,0,none⟩)])∧w'=(w.alloc (.cells #[.slice ad n cap] 22)).alloc (.cells #[.int .i64 k] 3):=by
 refine callsIn_of_wp Tryz.func100 rfl trivial ?_ rfl
 simp only [Tryz.ntmps100,List.size_toArray,List.length_cons,List.length_nil,Nat.reduceAdd,Nat.reduceSub,Array.replicate_succ,Array.replicate_zero,List.push_toArray,List.append_toArray,List.nil_append,List.cons_append]
 gi_wp2
 go_ret
 exact ⟨rfl,rfl⟩
theorem smooth_in (w:World) (hgl:GlobOK w) (l:List Int) (k:Nat) (hk:1≤k∧k≤4) (hlen:l.length≤4096) (hv:∀i,i<l.length→ -274877906944≤l.getD i default∧l.getD i default≤274877906944)
  (ad:Option Addr) (cap:Nat) (hcap:l.length≤cap)
  (hcells:0<l.length→∃b off,ad=some ⟨b,off,none⟩∧b<w.heap.size∧∀j,j<l.length→w.cell? ⟨b,off+j,none⟩=some (.int .i64 (l.getD j default)))
  (h54:Calls Tryz.prog 54 #[.slice ad l.length cap, .func (.func 99) #[] #[]] w fun e w'=>e= .returned (.bool false)∧Below w.heap.size w w')
  (h101:∀(W:World) (a b:Int),GlobOK W→(-4611686018427387904≤a∧a≤4611686018427387904)→(0<b∧b≤4611686018427387904)→Calls Tryz.prog 101 #[.int .i64 a, .int .i64 b] W fun e W'=>e= .returned (.int .i64 (a / b))∧Below W.heap.size W W'):
  CallsIn Fence.wide 6 Tryz.prog 42 #[.slice ad l.length cap, .int .i64 k] w fun e w'=>∃v,e= .returned (.tuple #[v, .int .i64 0])∧w'.ownsRow w.heap.size 3 1 v (smL k l.length l).length ((smL k l.length l).map (Value.int .i64))∧Below w.heap.size w w':=by
 obtain ⟨i0,hi,hz0,hz1,hz2⟩:=info_parts info3
 have hk0:¬((k:Int)<1):=by omega
 have hk1:¬((4096:Int)<k):=by omega
 have hl0:¬((4096:Int)<l.length):=by omega
 refine callsIn_of_wp_marks Tryz.func42 rfl trivial ?_ rfl
 simp only [Tryz.ntmps42,List.size_toArray,List.length_cons,List.length_nil,Nat.reduceAdd,Nat.reduceSub,Array.replicate_succ,Array.replicate_zero,List.push_toArray,List.append_toArray,List.nil_append,List.cons_append]
 gi_wp2_with first
  | (refine ⟨trivial, ?_⟩;gi_at_call 54;refine (callsIn_wide.2 h54).mono ?_;rintro e w1 ⟨rfl,hb1⟩;clear h54)
  | (refine ⟨trivial, ?_⟩;gi_at_call 100;refine (groups_in _ _ _ _ _).mono ?_;rintro e w2 ⟨rfl,rfl⟩)
 obtain ⟨b,off,hc⟩:∃b off,0<l.length→ad=some ⟨b,off,none⟩∧b<w.heap.size∧∀j,j<l.length→w.cell? ⟨b,off+j,none⟩=some (.int .i64 (l.getD j default)):=by
  by_cases h:0<l.length
  ·obtain ⟨b,off,h1⟩:=hcells h
   exact ⟨b,off,fun _=>h1⟩
  ·exact ⟨0,0,fun h'=>absurd h' h⟩
 have hsz1:=hb1.size
 have bO:=Boxed.new w1 22 (.slice none 0 0)
 have bL:=Boxed.new (w1.alloc (.cells #[.slice none 0 0] 22)) 22 (.slice ad l.length cap)
 have bW:=Boxed.new ((w1.alloc (.cells #[.slice none 0 0] 22)).alloc (.cells #[.slice ad l.length cap] 22)) 3 (.int .i64 k)
 rw [World.size_alloc] at bL
 rw [World.size_alloc,World.size_alloc] at bW
 have hB0:Below w.heap.size w (((w1.alloc (.cells #[.slice none 0 0] 22)).alloc (.cells #[.slice ad l.length cap] 22)).alloc (.cells #[.int .i64 k] 3)):=
  ((hb1.alloc hsz1 _).alloc (by simp;omega) _).alloc (by simp;omega) _
 obtain ⟨W2,hW2⟩:∃W2,(((w1.alloc (.cells #[.slice none 0 0] 22)).alloc (.cells #[.slice ad l.length cap] 22)).alloc (.cells #[.int .i64 k] 3))=W2:=⟨_,rfl⟩
 have hs2:W2.heap.size=w1.heap.size+3:=by rw [←hW2];simp
 have bO2:Boxed W2 w1.heap.size 22 (.slice none 0 0):=by rw [←hW2];exact (bO.alloc _).alloc _
 have bL2:Boxed W2 (w1.heap.size+1) 22 (.slice ad l.length cap):=by rw [←hW2];exact bL.alloc _
 have bW2:Boxed W2 (w1.heap.size+1+1) 3 (.int .i64 k):=by rw [←hW2];exact bW
 rw [hW2] at hB0⊢
 clear hW2 bO bL bW
 refine range_box (n:=4) (gf:=160) (lb:= #[.pointer (some ⟨w1.heap.size+1,0,none⟩), .pointer (some ⟨w1.heap.size+1+1,0,none⟩)]) rfl (enters_of Tryz.func160 (by kernel_rfl) rfl)
  (Bl:=w1.heap.size+1) (by omega) (fun x hx=>by omega)
  (iter160 4 (w1.heap.size+1) (w1.heap.size+1+1) b off l.length cap k (by omega) hk hlen hcap _ (.slice ad l.length cap) bL2 ?_ bW2) (fun _=>rfl)
  (smI w.heap.size w1.heap.size w k l) (by rw [hs2];exact smI_ab (Nat.le_refl _) hsz1) ⟨⟨_, [],bO2,World.ownsRow_nil _ _ _ _,by simp,Nat.zero_le _,rfl⟩,hB0⟩
  (fun p=>{ tmps:= #[(.slice ad l.length cap),(.int .i64 k),undef,undef,(.slice none 0 0),(.int .i64 0),(.pointer (some ⟨w1.heap.size,0,none⟩)),(.slice (some ⟨b,off+p,none⟩) (min k (l.length - p)) (cap - p)),undef,undef,undef,undef,undef,undef,undef,(.int .i64 k), .bool false, .bool false,(.int .i64 k), .bool false, .bool false, .bool false,(.slice ad l.length cap), .bool false, .bool false,(.slice ad l.length cap),(.int .i64 l.length),(.bool (decide ((4096:Int)<l.length))),(.slice ad l.length cap),(.int .i64 k),(.func (.func 160) #[] #[.pointer (some ⟨w1.heap.size+1,0,none⟩), .pointer (some ⟨w1.heap.size+1+1,0,none⟩)]),(.slice (some ⟨b,off+p,none⟩) (min k (l.length - p)) (cap - p)),undef,undef,undef,undef,undef,undef,undef,undef,undef,undef,undef,undef,undef,undef,undef,undef,undef,undef,undef,undef,undef,undef,undef,undef,undef,undef,undef,undef,undef,undef,undef,undef,undef,undef,undef,undef,undef],defers:= [] }) ?assign ?body ?done
 ·by_cases h:l.length=0
  ·exact .inl ⟨h.symm,_,_,by rw [h]⟩
  ·exact .inr ⟨by omega,by rw [(hc (by omega)).1];rfl⟩
 case assign=>
  intro lp p W K hK
  gi_wp2
  exact hK
 case body=>
  rintro lp p W hWs ⟨⟨v,d,hv2,hrow,hd,hp,hdl⟩,hB⟩ hlt
  obtain ⟨rfl,hbl,hcell0⟩:=hc (by omega)
  generalize hm:min k (l.length - p)=m
  have hm1:1≤m∧m≤4:=by omega
  have hml:p+m≤l.length:=by omega
  obtain ⟨G,hG⟩:∃G,(l.drop p).take k=G:=⟨_,rfl⟩
  have hGl:G.length=m:=by rw [←hG,List.length_take,List.length_drop];exact hm
  have hGg:∀j,j<m→G.getD j default=l.getD (p+j) default:=fun j hj=>by
   rw [←hG,List.getD_eq_getElem?_getD,List.getD_eq_getElem?_getD,List.getElem?_take,if_pos (by omega),List.getElem?_drop]
  have hcell:∀j,j<m→W.cell? ⟨b,off+p+j,none⟩=some (.int .i64 (G.getD j default)):=fun j hj=>by
   rw [hGg j hj,←hcell0 (p+j) (by omega),Nat.add_assoc]
   exact hB.cell (p:=⟨b,off+(p+j),none⟩) hbl
  have hGb:∀j,j<m→ -274877906944≤G.getD j default∧G.getD j default≤274877906944:=fun j hj=>by rw [hGg j hj];exact hv _ (by omega)
  have hsb:∀j,j≤m→ -1099511627776≤(G.take j).sum∧(G.take j).sum≤1099511627776:=fun j hj=>by
   have h1:=sum_bd 274877906944 (by omega) (G.take j) fun x hx=>by
    obtain ⟨i,hi2,rfl⟩:=List.getElem_of_mem (List.mem_of_mem_take hx)
    have:=hGb i (by omega)
    rwa [List.getD_eq_getElem?_getD,List.getElem?_eq_getElem hi2] at this
   rw [List.length_take] at h1
   omega
  have hgW:GlobOK W:=fun x q hx=>by
   obtain ⟨o,h1,h2⟩:=hgl x q hx
   exact ⟨o,(hB.block x (Array.getElem?_eq_some_iff.1 h1).1).trans h1,h2⟩
  gi_wp2
  gi_loop [8,34] (fun s i=>∃j:Nat,j≤m∧i= .int .i64 j∧s= .int .i64 (G.take j).sum) (fun _ i=>m - (intOf i).toNat)
  case atStart=>exact ⟨0,Nat.zero_le _,rfl,by simp⟩
  case round=>
   obtain ⟨j,hj,rfl,rfl⟩:=hrel
   by_cases hjm:j<m
   ·have hcj:=hcell j hjm
    gi_wp2
    have e1:(G.take j).sum+G[j]=(G.take (j+1)).sum:=by
     rw [←List.take_append_getElem (by omega:j<G.length),List.sum_append]
     simp
    have:=hsb (j+1) hjm
    refine ⟨⟨j+1,hjm,rfl,by rw [e1,wrap_i64 (by omega)]⟩, ?_⟩
    simp [intOf]
    omega
   ·have hjm':j=m:=by omega
    have eG:(G.take j).sum=G.sum:=by rw [List.take_of_length_le (by omega)]
    have hsG:=hsb j hj
    rw [eG] at hsG⊢
    rw [hjm']
    clear hjm hj eG
    gi_wp2_with (refine ⟨trivial, ?_⟩;gi_at_call 101;refine (CallsIn.inRound lp (callsIn_wide.2 (h101 W G.sum m hgW (by omega) (by omega)))).mono ?_;rintro e W3 ⟨rfl,hb3⟩)
    have hmm:=Int.mul_ediv_add_emod G.sum m
    have hm3:=Int.emod_nonneg G.sum (b:=(m:Int)) (by omega)
    have hm4:=Int.emod_lt_of_pos G.sum (b:=(m:Int)) (by omega)
    rw [Int.mul_comm] at hmm
    have hw1:wrap64 (G.sum / (m:Int)*m)=G.sum / (m:Int)*m:=wrap_i64 (by omega)
    have hw2:wrap64 (G.sum - G.sum / (m:Int)*m)=G.sum - G.sum / (m:Int)*m:=wrap_i64 (by omega)
    rw [hw1,hw2]
    have hqb: -1099511627777≤G.sum / (m:Int)∧G.sum / (m:Int)≤1099511627776:=by
     refine ⟨?_, ?_⟩
     ·exact (Int.le_ediv_iff_mul_le (by omega)).2 (by omega)
     ·exact Int.ediv_le_of_le_mul (by omega) (by omega)
    have eev:∀j,evenL G.sum m (j+1)=evenL G.sum m j++ [if (j:Int)<G.sum - G.sum / (m:Int)*m then G.sum / (m:Int)+1 else G.sum / (m:Int)]:=fun j=>rfl
    have hel:=evenL_len G.sum m
    have hst:=smL_step hk.1 l p hlt
    rw [hm,hG,evenG,hGl] at hst
    have he0:evenL G.sum m 0= []:=rfl
    generalize hev:evenL G.sum m=E at eev hel hst he0
    have hrr:0≤G.sum - G.sum / (m:Int)*m∧G.sum - G.sum / (m:Int)*m<m:=by omega
    generalize G.sum - G.sum / (m:Int)*m=r at eev hrr⊢
    generalize G.sum / (m:Int)=q at eev hqb⊢
    clear hw1 hw2 hmm
    gi_loopw [54] (fun i wr=>∃(j:Nat) (v':Value),j≤m∧i= .int .i64 j∧Boxed wr w1.heap.size 22 v'∧wr.ownsRow (w1.heap.size+3) 3 1 v' (p+j) ((d++E j).map (Value.int .i64))∧
     KeepsFrom W2.heap.size W wr∧(∀b,b=w1.heap.size+1∨b=w1.heap.size+1+1→wr.heap[b]? =W.heap[b]?)∧Below w.heap.size W wr) (fun i _=>m - (intOf i).toNat)
    case atStart=>
     refine ⟨0,v,Nat.zero_le _,rfl,(hb3.block _ hv2.lt).trans hv2, ?_, ?_,fun x hx=>hb3.block x (by omega),hb3.mono (by omega)⟩
     ·rw [he0,List.append_nil,Nat.add_zero]
      rw [hdl] at hrow
      refine hrow.kept (row:=none) ⟨hb3.os,hb3.tape,hb3.output,hb3.size,fun x hx _=>hb3.block x hx⟩ ?_
      rcases hrow.2 with ⟨rfl,_⟩ | ⟨g,cap,cur,rfl,_⟩
      ·exact .inl rfl
      ·exact .inr (by simp [Value.ownBlock])
     ·exact ⟨hb3.size,fun x o hx ho _=>(hb3.block x (Array.getElem?_eq_some_iff.1 ho).1).trans ho⟩
    case round=>
     obtain ⟨j,v',hj,rfl,hbx,hrw,hkf,hkp,hbl2⟩:=hrel
     have hcx:=hbx.cell
     have hwz:=hkf.size
     by_cases hjm:j<m
     ·by_cases hjr:(j:Int)<r
      ·gi_wp2_with (gi_at_builtin;refine wpListIn_append_own _ rfl _ _ 22 rfl (w1.heap.size+3) 3 i0 (.int .i64 0) 1 8 Tryz.underlying22 hi hz0 hz1 hz2 rfl (by decide) _ _ _ rfl (hrw.alloc _) ⟨wr.heap.size,0,none⟩ 1 1 [.int .i64 (q+1)] rfl rfl (cell_one_new _ _ _) (by simp [Value.oneCell']) (by unfold maxLen;omega) (by omega) (by simp;omega) ?_;intro v2 w4 hown' hgrow _;obtain ⟨g',cap',rfl⟩:=ownsRow_succ hown';obtain ⟨a1,a2,a3,a4,a5,a6⟩:=appended2 hbx (by decide) hrw (n₀:=w.heap.size) (by omega) (by omega) hsz1 hown' hgrow;have hc4:=a1.cell;have hf4:=a1.frozen)
       refine ⟨⟨j+1,_,hjm,rfl,a2, ?_,hkf.trans (a4.from _),fun x hx=>(a6 x (by omega) (by omega)).trans (hkp x hx),hbl2.trans a5⟩, ?_⟩
       ·rw [eev,if_pos hjr,←List.append_assoc,List.map_append]
        exact a3
       ·simp [intOf]
        omega
      ·gi_wp2_with (gi_at_builtin;refine wpListIn_append_own _ rfl _ _ 22 rfl (w1.heap.size+3) 3 i0 (.int .i64 0) 1 8 Tryz.underlying22 hi hz0 hz1 hz2 rfl (by decide) _ _ _ rfl (hrw.alloc _) ⟨wr.heap.size,0,none⟩ 1 1 [.int .i64 q] rfl rfl (cell_one_new _ _ _) (by simp [Value.oneCell']) (by unfold maxLen;omega) (by omega) (by simp;omega) ?_;intro v2 w4 hown' hgrow _;obtain ⟨g',cap',rfl⟩:=ownsRow_succ hown';obtain ⟨a1,a2,a3,a4,a5,a6⟩:=appended2 hbx (by decide) hrw (n₀:=w.heap.size) (by omega) (by omega) hsz1 hown' hgrow;have hc4:=a1.cell;have hf4:=a1.frozen)
       refine ⟨⟨j+1,_,hjm,rfl,a2, ?_,hkf.trans (a4.from _),fun x hx=>(a6 x (by omega) (by omega)).trans (hkp x hx),hbl2.trans a5⟩, ?_⟩
       ·rw [eev,if_neg hjr,←List.append_assoc,List.map_append]
        exact a3
       ·simp [intOf]
        omega
     ·have hjm':j=m:=by omega
      gi_wp2
      refine ⟨hkf,hkp,⟨v',d++E m,hbx,by rw [List.length_append,hel,hdl,←hjm'];exact hrw, ?_,hml,by rw [List.length_append,hel,hdl]⟩,hB.trans hbl2⟩
      rw [List.append_assoc,←hst,hd]
 case done=>
  rintro D W hD ⟨⟨v,d,hv,hrow,hd,hp,hdl⟩,hB⟩ hK
  have hcv:=hv.cell
  gi_wp2
  refine ⟨by simp, .inl ⟨_,_,rfl,run_takeDeferred hK, ?_⟩⟩
  have hde:d=smL k l.length l:=by
   rw [←hd,List.drop_length,smL_fuel hk.1 l.length 0 [] (Nat.zero_le _) (Nat.zero_le _),smL,List.append_nil]
  subst hde
  refine ⟨.tuple #[v, .int .i64 0],by simp [results,Tryz.f42,go_sem],v,rfl,ownsRow_putObj ⟨hrow.1,hrow.2.imp id ?_⟩ _ hK rfl,hB.trans (belowK_b (w:=w) (Nat.le_refl _) W D _ _ (by omega) hK rfl rfl)⟩
  rintro ⟨g,cap,cur,h1,h2,h3⟩
  exact ⟨g,cap,cur,h1,by omega,h3⟩
open TX
open Go.RowKit
theorem call42 (τ:Nat) (l:List Int) (k:Nat) (hk:1≤k∧k≤4) (hlen:l.length≤4096) (hv:∀i,i<l.length→ -274877906944≤l.getD i default∧l.getD i default≤274877906944):
  PureCall Tryz.prog 42 [.sl τ 1 l.length (fl eInt l), .int .i64 k] [] ⟨.tup [.sl 0 1 (smL k l.length l).length (fl eInt (smL k l.length l)), .int .i64 0], [], []⟩:=by
 refine ⟨⟨_,Tryz.func42,rfl,rfl⟩,fun w γ as_ ls vals hst hX hargs=> ?_⟩
 have hnone:∀r,γ r=none:=fun r=>by
  have:=hst.dom r
  simpa using this
 have hno:∀b,¬γ.own b:=fun b ⟨r,ge,hr,_⟩=>by rw [hnone r] at hr;cases hr
 have hgl:GlobOK w:=fun b p hb=>(hst.glob b p hb).1
 obtain ⟨v,us,rfl,hvv,hus⟩:=hargs.cons_inv
 obtain ⟨v1,us1,rfl,hv1,hus1⟩:=hus.cons_inv
 cases hus1.nil_inv
 cases hv1.int_inv
 obtain ⟨ad,cap,vs,rfl,hcap,hr,hor,hcell⟩:=sl_rows hvv
 have hvs:=ints_vals hr (fun _ _=>rfl)
 subst hvs
 have h54:Calls Tryz.prog 54 #[.slice ad l.length cap, .func (.func 99) #[] #[]] w fun e w'=>e= .returned (.bool false)∧Below w.heap.size w w':=by
  refine ((call54s τ l (by omega) hv).2 w γ as_ ls [.slice ad l.length cap, .func (.func 99) #[] #[]] hst hX (RepL.cons_ hvv (RepL.cons_ (.fn (.func 99) [] [] [] [] rfl rfl (fun k c u h=>by cases h) (fun k c u h=>by cases h)) RepL.nil_))).mono ?_
  rintro e w' ⟨v,γ',rfl,hb,_,hkp,_⟩
  cases hb.bool_inv
  exact ⟨rfl,hkp.os,hkp.tape,hkp.output,hkp.size,fun b hb=>hkp.block b hb (hno b)⟩
 have h101:∀(W:World) (a b:Int),GlobOK W→(-4611686018427387904≤a∧a≤4611686018427387904)→(0<b∧b≤4611686018427387904)→Calls Tryz.prog 101 #[.int .i64 a, .int .i64 b] W fun e W'=>e= .returned (.int .i64 (a / b))∧Below W.heap.size W W':=by
  intro W a b hg ha hb
  have hst0:RepSt ⟨W.heap.size,(cx0 W).as,(cx0 W).ls,([]:List SE).length,gh0, []⟩ gh0 W (fun r=>([]:List SE)[r]?):=st0 (w:=W) hg
  refine ((G08.call101 a b ha hb).2 W gh0 (cx0 W).as (cx0 W).ls [.int .i64 a, .int .i64 b] hst0 (fun b hb=>hb.elim (fun h=>h) (fun h=>h.elim)) (RepL.cons_ (.int _ _) (RepL.cons_ (.int _ _) RepL.nil_))).mono ?_
  rintro e w' ⟨v,γ',rfl,hv,_,hk,_⟩
  cases hv.int_inv
  exact ⟨rfl,hk.os,hk.tape,hk.output,hk.size,fun k hk'=>hk.block k hk' (gh0_own k)⟩
 refine (callsIn_wide.1 (smooth_in w hgl l k hk hlen hv ad cap hcap ?_ h54 h101)).mono ?_
 ·intro h0
  rcases hor with h1 | ⟨a,rfl,hm,hlt⟩
  ·omega
  ·have hc:=hcell a rfl
   obtain ⟨b,off,sp⟩:=a
   have h1:=hc 0 (.int .i64 (l.getD 0 default)) (by rw [List.getElem?_map,getD_some h0];rfl)
   have hsp:sp=none:=by
    simp only [Addr.add,if_pos] at h1
    unfold World.cell? at h1
    simp only at h1
    split at h1
    ·cases sp with
     | none=>rfl
     | some _=>simp at h1
    ·cases h1
   subst hsp
   refine ⟨b,off,rfl,hlt,fun j hj=> ?_⟩
   have h2:=hc j (.int .i64 (l.getD j default)) (by rw [List.getElem?_map,getD_some hj];rfl)
   by_cases hj0:j=0
   ·subst hj0;simpa [Addr.add] using h2
   ·simpa [Addr.add,hj0] using h2
 ·rintro e w' ⟨v',rfl,ho,hb⟩
  have hkeep:Keeps γ.own w w':=⟨hb.os,hb.tape,hb.output,hb.size,fun b hb' _=>hb.block b hb'⟩
  refine ⟨_,γ,rfl, ?_, ?_,hkeep,fun r hr=>by simp [parN,nbx] at hr,fun r ge b hr hb=>by rw [hnone r] at hr;cases hr⟩
  ·refine .tup _ [v', .int .i64 0] rfl fun i c u hc hu=> ?_
   match i,hc,hu with
   | 0,hc,hu=>
     cases hc;cases hu
     have ho0:=OwnsG_of ho
     rcases ho.2 with ⟨rfl,h0⟩ | ⟨g,cp,cur,rfl,hg,hgb,h3,_⟩
     ·rw [List.eq_nil_of_length_eq_zero h0]
      exact Rep.sl 0 1 ([]:List Int).length (fl eInt []) none 0 (fun _=>default) (Nat.le_refl _) (fun i hi=>rfl) (fun i hi=>absurd hi (Nat.not_lt_zero _)) (fun h=>absurd h (Nat.not_lt_zero _)) (fun i j c hi=>absurd hi (Nat.not_lt_zero _))
     ·refine .sl 0 1 _ _ _ cp (fun j=> .int .i64 ((smL k l.length l).getD j default)) (by omega) (fun i hi=>rfl) (fun i hi c hc=> ?_) (fun h=>⟨_,rfl,⟨hno _, .inl (.inl hg)⟩,(Array.getElem?_eq_some_iff.1 hgb).1,fun j hj=> ?_⟩) (fun i j c hi hc=> ?_)
      ·have:c= .int .i64 ((smL k l.length l).getD i default):=by simpa [fl,eInt] using hc
       subst this;rfl
      ·rw [Nat.mul_one] at hj
       refine cellT_off (ho0.free rfl j (by rw [List.length_map];exact hj)) (ho0.cells rfl j _ ?_)
       rw [List.getElem?_map,getD_some hj];rfl
      ·have hj:j=0:=by
         have:=(List.getElem?_eq_some_iff.1 hc).1
         simp [fl,eInt] at this;omega
       subst hj
       have:c= .int .i64 ((smL k l.length l).getD i default):=by
        have h0:some (PV.int .i64 ((smL k l.length l).getD i default))=some c:=hc
        injection h0 with h0;exact h0.symm
       subst this
       rw [Nat.mul_one,Nat.add_zero]
       exact .int _ _
   | 1,hc,hu=>cases hc;cases hu;exact .int _ _
   | i+2,hc,hu=>cases hc
  ·refine ⟨fun r=> ?_,fun r ge se hr hs=>(by rw [hnone r] at hr;cases hr),fun r r' ge ge' b hr=>(by rw [hnone r] at hr;cases hr),fun b hb=>absurd hb (hno b),fun b hb=>absurd hb (hno b), ?_⟩
   ·rw [hnone r];unfold resSt
    split<;>rfl
   ·exact glob_keep hst.glob (fun k hlt hn=>hkeep.block k hlt hn) fun b hb=> .inl hb
def c209:C:=(sr [kk 2 (.mv (.c (.bool false)))] (sr [km 3 0,km 4 0,kk 5 (.bi false .neq 3 4),km 2 5] .ret))
theorem fits209:fits Tryz.prog false Tryz.f209 1 6 [(2,none)]=some c209.er:=by kernel_rfl
def c165:C:=(sr [kk 4 (.mv (cn 0))] (sr [km 7 0,kk 8 (cl 209 [7]),km 5 8] (sr [km 9 1,kk 10 (cl 209 [9]),km 6 10] (.seq (sr [km 11 5] (.cond 11 (.seq (sr [km 12 6] (.cond 12 (sr [kk 4 (.mv (cn 0))] .ret) .skip)) (sr [kk 4 (.mv (cn (-1)))] .ret)) .skip)) (.seq (sr [km 13 6] (.cond 13 (sr [kk 4 (.mv (cn 1))] .ret) .skip)) (.seq (sr [km 14 0,km 15 1,kk 16 (.bi false .lss 14 15)] (.cond 16 (sr [kk 4 (.mv (cn (-1)))] .ret) .skip)) (.seq (sr [km 17 0,km 18 1,kk 19 (.bi false .gtr 17 18)] (.cond 19 (sr [kk 4 (.mv (cn 1))] .ret) .skip)) (sr [kk 4 (.mv (cn 0))] .ret))))))))
theorem fits165:fits Tryz.prog false Tryz.f165 2 20 [(4,none)]=some c165.er:=by kernel_rfl
def c196:C:=(sr [kk 5 (.mv (cn 0))] (.seq (.drw [kk 6 (.ld 1 false 2),km 7 0,kk 8 (.ia 7 6 7),kk 9 (.fa 0 8),kk 10 (.ld 1 false 9),kk 11 (.ld 1 false 2),km 12 1,kk 13 (.ia 7 11 12),kk 14 (.fa 0 13),kk 15 (.ld 1 false 14),kk 16 (cl 165 [10,15]),km 5 16] (pl [(0,[1,5,6,7,8,9],6),(1,[5,6,7,8,9],7),(2,[5,6,7,8,9],8),(3,[5,6,7,8,9],9),(4,[5,6,7,8,9],10),(5,[6],11)])) .ret))
theorem fits196:fits Tryz.prog false Tryz.f196 3 17 [(5,none)]=some c196.er:=by kernel_rfl
def c297L2:C:=(.seq (.seq (.drw [km 18 9,km 19 1,kk 20 (.bi false .gtr 18 19),km 21 20,kg 22 21 true (.mv 3),kg 23 21 true (.mv 0),kg 24 21 true (.mv 9),kg 25 21 true (.ia 1 23 24),kg 26 21 true (.ld 1 false 25),kg 27 21 true (.mv 0),kg 28 21 true (.mv 9),kg 29 21 true (.bi false .sub 28 (cn 1)),kg 30 21 true (.ia 1 27 29),kg 31 21 true (.ld 1 false 30),kg 32 21 true (.call 22 [26,31]),kg 33 21 true (.bi false .lss 32 (cn 0)),kk 34 (.pick 21 33 (.c (.bool false)))] (pl [(0,[1],18),(4,[5,6,7,8,9,10,11,12,13],22),(5,[6,9,10,11,12,13],23),(6,[9,10,11,12,13],24),(7,[9,10,11,12,13],25),(8,[9,10,11,12,13],26),(9,[10,11],27)])) (.cond 34 .skip (.exit 2))) (.seq (.block 3 (.drw [km 37 0,km 38 9,km 39 0,km 40 9,kk 41 (.bi false .sub 40 (cn 1)),km 42 0,km 43 9,kk 44 (.bi false .sub 43 (cn 1)),kk 45 (.ia 1 42 44),kk 46 (.ld 1 false 45),km 47 0,km 48 9,kk 49 (.ia 1 47 48),kk 50 (.ld 1 false 49),kk 51 (.ia 1 37 38),kz (.st 1 51 46),kk 52 (.ia 1 39 41),kz (.st 1 52 50)] (pl [(0,[1,2,3,4,5,6,7,8,9,10,11,12,13],37),(1,[2,3,4,5,6,7,8,9,10,11,12,13],38),(2,[3,4,5,6,7,8,9,10,11,12,13,14,15],39),(3,[5,6,7,8,9,10,11,12,13,14,15],40),(4,[5,6,7,8,9,10,11,12,13,14,15],41),(5,[6,7,10,11,12,13],42),(6,[10,11,12,13],43),(7,[10,11,12,13],44),(8,[10,11,12,13],45),(9,[10,11,12,13],46),(10,[11],47)]))) (.reg [km 35 9,kk 36 (.bi false .sub 35 (cn 1)),km 9 36])))
def c297L1:C:=(.seq (sr [km 12 8,km 13 2,kk 14 (.bi false .lss 12 13)] (.cond 14 .skip (.exit 0))) (.seq (.block 1 (sr [km 17 8,km 9 17] (.block 2 (.loop c297L2)))) (.reg [km 15 8,kk 16 (.bi false .add 15 (cn 1)),km 8 16])))
def c297:C:=(sr [km 10 1,kk 11 (.bi false .add 10 (cn 1)),km 8 11] (.block 0 (.loop c297L1)))
theorem fits297:fits Tryz.prog false Tryz.f297 4 53 []=some c297.er:=by kernel_rfl
def c251L1:C:=(.seq (sr [km 11 8,km 12 1,kk 13 (.bi false .leq 11 12)] (.cond 13 .skip (.exit 0))) (.block 1 (sr [km 14 0,km 15 7,km 16 8,km 17 2,kk 18 (cl 297 [14,15,16,17])] (sr [km 19 8,km 7 19] (.reg [km 20 8,km 21 6,kk 22 (.bi false .add 20 21),km 8 22])))))
def c251L3:C:=(.seq (sr [km 33 8,km 34 1,kk 35 (.bi false .leq 33 34)] (.cond 35 .skip (.exit 4))) (.block 5 (sr [km 36 0,km 37 7,km 38 7,km 39 6,kk 40 (.bi false .add 38 39),km 41 8,km 42 2,kk 43 (cl 298 [36,37,40,41,42])] (sr [km 44 8,km 7 44] (.reg [km 45 8,km 46 6,kk 47 (.bi false .mul (cn 2) 46),kk 48 (.bi false .add 45 47),km 8 48])))))
def c251L2:C:=(.seq (sr [km 28 6,km 29 1,kk 30 (.bi false .lss 28 29)] (.cond 30 .skip (.exit 2))) (.block 3 (sr [km 31 6,kk 32 (.bi false .mul (cn 2) 31),kk 7 (.mv (cn 0)),km 8 32] (.seq (.block 4 (.loop c251L3)) (.seq (sr [km 49 7,km 50 6,kk 51 (.bi false .add 49 50),km 9 51] (sr [km 52 9,km 53 1,kk 54 (.bi false .lss 52 53)] (.cond 54 (.reg [km 55 0,km 56 7,km 57 9,km 58 1,km 59 2,kk 60 (cl 298 [55,56,57,58,59])]) .skip))) (.reg [km 61 6,kk 62 (.bi false .mul 61 (cn 2)),km 6 62]))))))
def c251:C:=(sr [kk 6 (.mv (cn 20))] (sr [km 10 6,kk 7 (.mv (cn 0)),km 8 10] (.seq (.block 0 (.loop c251L1)) (sr [km 23 0,km 24 7,km 25 1,km 26 2,kk 27 (cl 297 [23,24,25,26])] (.block 2 (.loop c251L2))))))
theorem fits251:fits Tryz.prog false Tryz.f251 3 63 []=some c251.er:=by kernel_rfl
def c195:C:=(.reg [km 4 0,km 5 0,kk 6 (.len 5),km 7 1,kk 8 (cl 251 [4,6,7])])
theorem fits195:fits Tryz.prog false Tryz.f195 2 9 []=some c195.er:=by kernel_rfl
theorem call209 (n:Int):PureCall Tryz.prog 209 [.int .i64 n] [] ⟨.bool false, [], []⟩:=by
 refine pure_call mix Tryz.func209 fits209 rfl ?_
 conv=>whnf
 refine ⟨?_, [], ?_⟩
 ·exact g0
 conv=>whnf
 refine ⟨rfl, ?_,trivial,trivial⟩
 all_goals repeat' (first | exact True.intro | refine leF_cons rfl ?_ ?_ | refine leS_cons rfl ?_ ?_ | (show PLe _ _ _ _;conv=>whnf) | (show SLe _ _ _ _;conv=>whnf) | (show PLeL _ _ _ _;conv=>whnf) | apply And.intro | rfl | exact Nat.le_refl _ | exact fun _ _=>rfl | exact rowEq0 _ _)
 simp
def cmpI (a b:Int):Int:=if a<b then -1 else if b<a then 1 else 0
theorem cmpI_lt {a b:Int}:cmpI a b<0↔a<b:=by
 unfold cmpI
 by_cases h1:a<b
 ·simp [h1]
 ·by_cases h2:b<a<;>simp [h1,h2]
theorem call165 (a b:Int):PureCall Tryz.prog 165 [.int .i64 a, .int .i64 b] [] ⟨.int .i64 (cmpI a b), [], []⟩:=by
 refine pure_call mix Tryz.func165 fits165 rfl ?_
 conv=>whnf
 refine ⟨_,fun _=>call209 a, ?_⟩
 conv=>whnf
 refine ⟨_,fun _=>call209 b, ?_⟩
 conv=>whnf
 refine ⟨?_,fun hc=>(by cases hc),fun _=> ?_⟩
 ·exact g0
 conv=>whnf
 refine ⟨?_,fun hc=>(by cases hc),fun _=> ?_⟩
 ·exact g0
 conv=>whnf
 refine ⟨?_,fun hc=> ?_,fun hc=> ?_⟩
 ·exact g0
 ·have h:cmpI a b= -1:=if_pos (of_decide_eq_true hc)
  rw [h]
  conv=>whnf
  refine ⟨?_, [], ?_⟩
  ·exact g0
  conv=>whnf
  refine ⟨rfl, ?_,trivial,trivial⟩
  all_goals exact ent
 have h1:¬a<b:=of_decide_eq_false hc
 conv=>whnf
 refine ⟨?_,fun hc=> ?_,fun hc=> ?_⟩
 ·exact g0
 ·have h:cmpI a b=1:=by unfold cmpI;rw [if_neg h1,if_pos (of_decide_eq_true hc)]
  rw [h]
  conv=>whnf
  refine ⟨?_, [], ?_⟩
  ·exact g0
  conv=>whnf
  refine ⟨rfl, ?_,trivial,trivial⟩
  all_goals exact ent
 ·have h:cmpI a b=0:=by unfold cmpI;rw [if_neg h1,if_neg (of_decide_eq_false hc)]
  rw [h]
  conv=>whnf
  refine ⟨?_, [], ?_⟩
  ·exact g0
  conv=>whnf
  refine ⟨rfl, ?_,trivial,trivial⟩
  all_goals exact ent
def rkC (l:List Cd) (i:Int):Int:=(l.getD i.toNat default).r
theorem call196 (σ τ:Nat) (l:List Cd) (hl:l.length≤4611686018427387904) (a b:Int) (ha:0≤a∧a<l.length) (hb:0≤b∧b<l.length):
  PureCall Tryz.prog 196 [.int .i64 a, .int .i64 b, .rp σ [.sl τ 7 l.length (fl eCd l)]] [] ⟨.int .i64 (cmpI (rkC l a) (rkC l b)), [], []⟩:=by
 refine pure_call mix Tryz.func196 fits196 rfl ?_
 conv=>whnf
 refine ⟨_,fun _=>call165 _ _, ?_⟩
 conv=>whnf
 refine ⟨rfl, ?_⟩
 conv=>whnf
 refine ⟨?_, [], ?_⟩
 ·exact g0
 conv=>whnf
 refine ⟨rfl, ?_,trivial,trivial⟩
 all_goals exact ent
def swp (g:Nat→Int) (j:Nat):Nat→Int:=fun k=>if k=j then g (j+1) else if k=j+1 then g j else g k
def sink (rk:Int→Int):(Nat→Int)→Nat→Nat→Int
 | g,0=>g
 | g,j+1=>if rk (g (j+1))<rk (g j) then sink rk (swp g j) j else g
def insN (rk:Int→Int) (g:Nat→Int):Nat→Nat→Int
 | 0=>g
 | i+1=>sink rk (insN rk g i) i
def eR (g:Nat→Int):Nat→List PV:=fun k=> [PV.int .i64 (g k)]
theorem sink_in {rk:Int→Int} {p:Int→Prop} {n:Nat}:∀(j:Nat) (g:Nat→Int),j<n→(∀k,k<n→p (g k))→∀k,k<n→p (sink rk g j k)
 | 0,g,_,h=>h
 | j+1,g,hj,h=>by
   unfold sink
   split
   ·refine sink_in j _ (by omega) fun k hk=> ?_
    unfold swp
    split
    ·exact h _ hj
    ·split
     ·exact h _ (by omega)
     ·exact h _ hk
   ·exact h
theorem insN_in {rk:Int→Int} {p:Int→Prop} {n:Nat} (g:Nat→Int) (h:∀k,k<n→p (g k)):∀i,i≤n→∀k,k<n→p (insN rk g i k)
 | 0,_=>h
 | i+1,hi=>sink_in i _ (by omega) (insN_in g h i (by omega))
theorem call297 (σ τ:Nat) (l:List Cd) (hl:l.length≤4611686018427387904) (n:Nat) (hn:n≤4611686018427387904) (g:Nat→Int) (hg:∀k,k<n→0≤g k∧g k<l.length):
  PureCall Tryz.prog 297 [.os 0, .int .i64 0, .int .i64 n, .fn (.func 196) [] [.rp σ [.sl τ 7 l.length (fl eCd l)]]] [.row 3 3 1 n (eR g)] ⟨.tup [], [.row 0 3 1 n (eR (insN (rkC l) g n))], []⟩:=by
 refine pure_write mix Tryz.func297 fits297 (.inr fun i _ c hc=>by simp [eR] at hc;subst hc;rfl) ?_
 conv=>whnf
 refine ⟨?_, ?_⟩
 ·exact g0
 refine LSem.loop (n:=53) mix (α:=Nat) (fun i=>i≤n+1∧1≤i∧(n<i→n=0))
  (fun i=> [(0, .os 0),(1, .int .i64 0),(2, .int .i64 n),(3, .fn (.func 196) [] [.rp σ [.sl τ 7 l.length (fl eCd l)]]),(8, .int .i64 i)])
  (fun i=> [(0, .row 3 3 1 n (eR (insN (rkC l) g i)))]) (fun i=>n+1 - i) 1 ?_ ?_ ?_
 ·exact ⟨by omega,Nat.le_refl _,fun h=>by omega⟩
 ·refine ⟨rfl,rfl, ?_, ?_⟩
  all_goals exact ent
 ·intro i hi
  obtain ⟨hi1,hi2,hi3⟩:=hi
  conv=>whnf
  refine ⟨trivial,fun hc=> ?_,fun hc=> ?_⟩
  ·replace hc:=of_decide_eq_true hc
   have hlt:i<n:=by omega
   conv=>whnf
   refine ⟨trivial, ?_⟩
   refine LSem.loop (n:=53) mix (α:=Nat×(Nat→Int)) (fun x=>x.1≤i∧sink (rkC l) x.2 x.1=insN (rkC l) g (i+1)∧∀k,k<n→0≤x.2 k∧x.2 k<l.length)
    (fun x=> [(0, .os 0),(1, .int .i64 0),(2, .int .i64 n),(3, .fn (.func 196) [] [.rp σ [.sl τ 7 l.length (fl eCd l)]]),(8, .int .i64 i),(9, .int .i64 x.1)])
    (fun x=> [(0, .row 3 3 1 n (eR x.2))]) (fun x=>x.1) (i,insN (rkC l) g i) ?_ ?_ ?_
   ·exact ⟨Nat.le_refl _,rfl,insN_in (p:=fun x=>0≤x∧x<l.length) g hg i (by omega)⟩
   ·refine ⟨rfl,rfl, ?_, ?_⟩
    all_goals exact ent
   ·rintro ⟨j,h⟩ ⟨hj,hs,hin⟩
    dsimp only at hj hs hin⊢
    rcases Nat.eq_zero_or_pos j with h0 | h0
    ·subst h0
     conv=>whnf
     refine ⟨⟨.int .i64 0, [], []⟩,fun hg=>by simp at hg, ?_⟩
     conv=>whnf
     refine ⟨rfl, ?_⟩
     conv=>whnf
     refine ⟨?_,fun hc=>by simp at hc,fun _=> ?_⟩
     ·exact g0
     conv=>whnf
     refine ⟨?_,i+1,⟨by omega,by omega,fun h=>by omega⟩,by omega,rfl,rfl, ?_, ?_⟩
     ·exact g0
     all_goals repeat' (first | exact True.intro | refine leF_cons rfl ?_ ?_ | refine leS_cons rfl ?_ ?_ | (show PLe _ _ _ _;conv=>whnf) | (show SLe _ _ _ _;conv=>whnf) | (show PLeL _ _ _ _;conv=>whnf) | apply And.intro | rfl | exact Nat.le_refl _ | exact fun _ _=>rfl | exact rowEq0 _ _)
     all_goals (intro k hk;show eR h k=eR (insN (rkC l) g (i+1)) k;rw [←hs];rfl)
    obtain ⟨j,rfl⟩:∃j',j=j'+1:=⟨j - 1,by omega⟩
    have e1:((j+1:Nat):Int).toNat=j+1:=by omega
    have e2:(((j+1:Nat):Int) - 1).toNat=j:=by omega
    conv=>whnf
    refine ⟨_,fun _=>call196 _ τ l hl (h (((j+1:Nat):Int)).toNat) (h (((j+1:Nat):Int) - 1).toNat) (by rw [e1];exact hin _ (by omega)) (by rw [e2];exact hin _ (by omega)), ?_⟩
    rw [e1,e2]
    conv=>whnf
    refine ⟨rfl, ?_⟩
    conv=>whnf
    refine ⟨?_,fun hc=> ?_,fun hc=> ?_⟩
    ·exact g0
    ·simp only [bp] at hc
     have hlt2:rkC l (h (j+1))<rkC l (h j):=cmpI_lt.1 hc.2
     conv=>whnf
     refine ⟨rfl, ?_⟩
     conv=>whnf
     refine ⟨?_,(j,swp h j),⟨by dsimp only;omega, ?_, ?_⟩,Nat.lt_succ_self j,rfl,rfl, ?_, ?_⟩
     ·exact g0
     ·rw [←hs]
      exact (if_pos hlt2).symm
     ·intro k hk
      dsimp only
      unfold swp
      split
      ·exact hin _ (by omega)
      ·split
       ·exact hin _ (by omega)
       ·exact hin _ hk
     all_goals repeat' (first | exact True.intro | refine leF_cons rfl ?_ ?_ | refine leS_cons rfl ?_ ?_ | (show PLe _ _ _ _;conv=>whnf) | (show SLe _ _ _ _;conv=>whnf) | (show PLeL _ _ _ _;conv=>whnf) | apply And.intro | rfl | exact Nat.le_refl _ | exact fun _ _=>rfl | exact rowEq0 _ _)
     all_goals first | (show ((j+1:Nat):Int) - 1=(j:Int);omega) | skip
     all_goals
      intro k hk
      dsimp only
      rw [e1,e2]
      by_cases hkj:k=j
      ·subst hkj
       rw [if_pos rfl,if_neg (by omega)]
       simp [eR,swp,setAt,PV.cells]
      ·rw [if_neg hkj]
       by_cases hk1:k=j+1
       ·subst hk1
        rw [if_pos rfl]
        simp [eR,swp,setAt,PV.cells]
       ·rw [if_neg hk1]
        simp [eR,swp,hkj,hk1]
    ·simp only [bp] at hc
     have hge2:¬rkC l (h (j+1))<rkC l (h j):=by
      intro hh
      rcases hc with hc | hc
      ·exact hc.2 (cmpI_lt.2 hh)
      ·omega
     conv=>whnf
     refine ⟨?_,i+1,⟨by omega,by omega,fun h=>by omega⟩,by omega,rfl,rfl, ?_, ?_⟩
     ·exact g0
     all_goals repeat' (first | exact True.intro | refine leF_cons rfl ?_ ?_ | refine leS_cons rfl ?_ ?_ | (show PLe _ _ _ _;conv=>whnf) | (show SLe _ _ _ _;conv=>whnf) | (show PLeL _ _ _ _;conv=>whnf) | apply And.intro | rfl | exact Nat.le_refl _ | exact fun _ _=>rfl | exact rowEq0 _ _)
     all_goals (intro k hk;show eR h k=eR (insN (rkC l) g (i+1)) k;rw [←hs];show _=eR (sink (rkC l) h (j+1)) k;unfold sink;rw [if_neg hge2])
  ·replace hc:=of_decide_eq_false hc
   have hge:¬(i<n):=by omega
   conv=>whnf
   have hrow:RowEq n (eR (insN (rkC l) g i)) (eR (insN (rkC l) g n)):=by
    rcases Nat.lt_or_ge n i with h1 | h1
    ·rw [hi3 h1];exact rowEq0 _ _
    ·have:i=n:=by omega
     rw [this];exact fun _ _=>rfl
   exact ⟨trivial,rfl,rfl,rfl,rfl,hrow⟩
theorem call251 (σ τ:Nat) (l:List Cd) (hl:l.length≤4611686018427387904) (n:Nat) (hn:n<20) (g:Nat→Int) (hg:∀k,k<n→0≤g k∧g k<l.length):
  PureCall Tryz.prog 251 [.os 0, .int .i64 n, .fn (.func 196) [] [.rp σ [.sl τ 7 l.length (fl eCd l)]]] [.row 3 3 1 n (eR g)] ⟨.tup [], [.row 0 3 1 n (eR (insN (rkC l) g n))], []⟩:=by
 refine pure_write mix Tryz.func251 fits251 (.inr fun i _ c hc=>by simp [eR] at hc;subst hc;rfl) ?_
 conv=>whnf
 refine ⟨?_, ?_⟩
 ·exact g0
 refine LSem.loop (n:=63) mix (α:=Nat) (fun i=>True)
  (fun i=> [(0, .os 0),(1, .int .i64 n),(2, .fn (.func 196) [] [.rp σ [.sl τ 7 l.length (fl eCd l)]]),(6, .int .i64 20),(7, .int .i64 0),(8, .int .i64 20)])
  (fun i=> [(0, .row 3 3 1 n (eR g))]) (fun i=>0) 0 trivial ?_ ?_
 ·refine ⟨rfl,rfl, ?_, ?_⟩
  all_goals exact ent
 intro i _
 conv=>whnf
 refine ⟨?_,fun hc=> ?_,fun hc=> ?_⟩
 ·exact g0
 ·simp only [bp] at hc
  omega
 conv=>whnf
 refine ⟨_,fun _=>call297 _ τ l hl n (by omega) g hg, ?_⟩
 conv=>whnf
 refine ⟨?_, ?_⟩
 ·exact g0
 refine LSem.loop (n:=63) mix (α:=Nat) (fun i=>True)
  (fun i=> [(0, .os 0),(1, .int .i64 n),(6, .int .i64 20)])
  (fun i=> [(0, .row 3 3 1 n (eR (insN (rkC l) g n)))]) (fun i=>0) 0 trivial ?_ ?_
 ·refine ⟨rfl,rfl, ?_, ?_⟩
  all_goals exact ent
 intro i _
 conv=>whnf
 refine ⟨?_,fun hc=> ?_,fun hc=> ?_⟩
 ·exact g0
 ·simp only [bp] at hc
  omega
 conv=>whnf
 exact ⟨trivial,rfl,rfl,rfl,rfl,fun _ _=>rfl⟩
theorem call195 (σ τ:Nat) (l:List Cd) (hl:l.length≤4611686018427387904) (n:Nat) (hn:n<20) (g:Nat→Int) (hg:∀k,k<n→0≤g k∧g k<l.length):
  PureCall Tryz.prog 195 [.os 0, .fn (.func 196) [] [.rp σ [.sl τ 7 l.length (fl eCd l)]]] [.row 3 3 1 n (eR g)] ⟨.tup [], [.row 0 3 1 n (eR (insN (rkC l) g n))], []⟩:=by
 refine pure_write mix Tryz.func195 fits195 (.inr fun i _ c hc=>by simp [eR] at hc;subst hc;rfl) ?_
 conv=>whnf
 refine ⟨_,fun _=>call251 _ τ l hl n hn g hg, ?_⟩
 conv=>whnf
 exact ⟨g0 (P:=_),rfl,rfl,rfl,rfl,fun _ _=>rfl⟩
theorem splitP_ne (p:UInt8→Bool) (l:List UInt8):splitP p l≠ []:=by
 cases l with
 | nil=>simp [splitP]
 | cons x xs=>
   unfold splitP
   split
   ·simp
   ·split<;>simp
theorem splitP_mem (p:UInt8→Bool):∀(l:List UInt8) (x:List UInt8),x∈splitP p l→∀b∈x,p b=false
 | [],x,h,b,hb=>by
   simp [splitP] at h;subst h;simp at hb
 | y::ys,x,h,b,hb=>by
   have ih:=splitP_mem p ys
   unfold splitP at h
   cases hy:p y with
   | true=>
     rw [hy,if_pos rfl] at h
     rcases List.mem_cons.1 h with rfl | h
     ·simp at hb
     ·exact ih x h b hb
   | false=>
     rw [hy,if_neg (by simp)] at h
     cases hs:splitP p ys with
     | nil=>exact absurd hs (splitP_ne p ys)
     | cons z t=>
       rw [hs] at h ih
       dsimp only at h
       rcases List.mem_cons.1 h with rfl | h
       ·rcases List.mem_cons.1 hb with rfl | hb
        ·exact hy
        ·exact ih z (by simp) b hb
       ·exact ih x (by simp [h]) b hb
def WordOK (p:UInt8→Bool) (x:List UInt8):Prop:=x≠ []∧∀b∈x,p b=false
theorem words_ok (p:UInt8→Bool) (l:List UInt8):∀x∈wordsB p l,WordOK p x:=fun x hx=>by
 unfold wordsB at hx
 obtain ⟨h1,h2⟩:=List.mem_filter.1 hx
 exact ⟨by rintro rfl;simp at h2,splitP_mem p l x h1⟩
def digs:Int→List UInt8→Option Int
 | a, []=>some a
 | a,c::cs=>if c.toNat<48∨57<c.toNat then none else digs (10*a+((c.toNat:Int) - 48)) cs
def numF (s:List UInt8):Option Int:=if s.length<1∨10<s.length then none else digs 0 s
def digT:List UInt8:= [48,49,50,51,52,53,54,55,56,57]
theorem digT_iff (b:UInt8):digT.contains b=true↔48≤b.toNat∧b.toNat≤57:=by
 constructor
 ·intro h
  have h2:b∈digT:=by simpa using h
  unfold digT at h2
  simp only [List.mem_cons,List.not_mem_nil,or_false] at h2
  rcases h2 with rfl | rfl | rfl | rfl | rfl | rfl | rfl | rfl | rfl | rfl<;>decide
 ·intro ⟨h1,h2⟩
  have e:b=UInt8.ofNat b.toNat:=by simp
  rw [e]
  generalize b.toNat=n at h1 h2
  have:n=48∨n=49∨n=50∨n=51∨n=52∨n=53∨n=54∨n=55∨n=56∨n=57:=by omega
  rcases this with rfl | rfl | rfl | rfl | rfl | rfl | rfl | rfl | rfl | rfl<;>decide
theorem dropWhile_nil {α:Type} (p:α→Bool):∀l:List α,l.dropWhile p= []↔∀x∈l,p x=true
 | []=>by simp
 | x::l=>by
   have ih:=dropWhile_nil p l
   cases h:p x with
   | true=>rw [List.dropWhile_cons_of_pos h,ih];simp [h]
   | false=>rw [List.dropWhile_cons_of_neg (by simp [h])];simp [h]
theorem dropWhile_head {α:Type} (p:α→Bool):∀(l:List α) (y:α) (r:List α),l.dropWhile p=y::r→p y=false
 | [],y,r,h=>by simp at h
 | x::l,y,r,h=>by
   cases hp:p x with
   | true=>rw [List.dropWhile_cons_of_pos hp] at h;exact dropWhile_head p l y r h
   | false=>rw [List.dropWhile_cons_of_neg (by simp [hp])] at h;injection h with h1 _;rw [←h1];exact hp
theorem trim_nil (s:List UInt8):Lib.trimS s digT= []↔∀b∈s,48≤b.toNat∧b.toNat≤57:=by
 have key:Lib.trimS s digT= []↔∀b∈s,digT.contains b=true:=by
  unfold Lib.trimS Lib.trimLeftS Lib.trimRightS
  rw [dropWhile_nil]
  cases hd:s.reverse.dropWhile (digT.contains ·) with
  | nil=>
    have:=(dropWhile_nil _ _).1 hd
    simp only [List.mem_reverse] at this
    simp only [List.reverse_nil,List.not_mem_nil,false_implies,implies_true,true_iff]
    exact this
  | cons y r=>
    have hy:=dropWhile_head _ _ _ _ hd
    constructor
    ·intro h
     have:=h y (by simp)
     rw [hy] at this;cases this
    ·intro h
     have hm:y∈s.reverse.dropWhile (digT.contains ·):=by rw [hd];simp
     have:=h y (by
      have:=(List.dropWhile_sublist _).subset hm
      simpa using this)
     rw [hy] at this;cases this
 rw [key]
 exact ⟨fun h b hb=>(digT_iff b).1 (h b hb),fun h b hb=>(digT_iff b).2 (h b hb)⟩
theorem digs_none:∀(s:List UInt8) (a:Int),digs a s=none↔¬∀b∈s,48≤b.toNat∧b.toNat≤57
 | [],a=>by simp [digs]
 | c::cs,a=>by
   have ih:=digs_none cs
   unfold digs
   split
   ·rename_i h
    simp only [List.mem_cons,forall_eq_or_imp,true_iff]
    intro hh;omega
   ·rename_i h
    rw [ih]
    simp only [List.mem_cons,forall_eq_or_imp]
    constructor
    ·intro h1 h2;exact h1 h2.2
    ·intro h1 h2;exact h1 ⟨by omega,h2⟩
theorem digs_dec:∀(s:List UInt8) (a:Nat) (n:Int),digs a s=some n→∃m:Nat,n=m∧Lib.decFrom a s=some m∧m<(a+1)*10 ^ s.length
 | [],a,n,h=>by
   simp only [digs,Option.some.injEq] at h
   exact ⟨a,h.symm,rfl,by simp⟩
 | c::cs,a,n,h=>by
   unfold digs at h
   split at h
   ·cases h
   ·rename_i hc
    have e:10*(a:Int)+((c.toNat:Int) - 48)=((a*10+(c.toNat - 48):Nat):Int):=by omega
    rw [e] at h
    obtain ⟨m,h1,h2,h3⟩:=digs_dec cs _ n h
    refine ⟨m,h1, ?_, ?_⟩
    ·unfold Lib.decFrom Lib.digitVal
     rw [if_pos (by omega)]
     exact h2
    ·rw [List.length_cons,Nat.pow_succ]
     have h4:a*10+(c.toNat - 48)+1≤(a+1)*10:=by omega
     have h5:=Nat.mul_le_mul_right (10 ^ cs.length) h4
     have h6:(a+1)*10*10 ^ cs.length=(a+1)*(10 ^ cs.length*10):=by rw [Nat.mul_assoc,Nat.mul_comm 10]
     omega
theorem num_atoi {s:List UInt8} {n:Int} (h:numF s=some n):Lib.atoi s=some n∧0≤n∧n<10000000000:=by
 unfold numF at h
 split at h
 ·cases h
 rename_i hl
 obtain ⟨m,h1,h2,h3⟩:=digs_dec s 0 n h
 have hall:∀b∈s,48≤b.toNat∧b.toNat≤57:=Classical.byContradiction fun hc=>by
  rw [(digs_none s 0).2 hc] at h;cases h
 cases s with
 | nil=>simp at hl
 | cons b r=>
   have hb:=hall b (by simp)
   have hp:10 ^ (b::r).length≤10 ^ 10:=Nat.pow_le_pow_right (by decide) (by omega)
   refine ⟨?_,by omega, ?_⟩
   ·show (if b==45 then (Lib.decNat r).map (fun (m:Nat)=> -(m:Int)) else if b==43 then (Lib.decNat r).map (fun (m:Nat)=>(m:Int)) else (Lib.decNat (b::r)).map fun (m:Nat)=>(m:Int))=some n
    rw [if_neg (by intro e;have:=eq_of_beq e;subst this;revert hb;decide),if_neg (by intro e;have:=eq_of_beq e;subst this;revert hb;decide)]
    unfold Lib.decNat
    rw [show (b::r).isEmpty=false from rfl,if_neg (by decide)]
    have h2':Lib.decFrom 0 (b::r)=some m:=h2
    rw [h2',h1];rfl
   ·have e10:(10:Nat) ^ 10=10000000000:=by decide
    omega
theorem num_none (s:List UInt8):numF s=none↔s.length=0∨10<s.length∨Lib.trimS s digT≠ []:=by
 unfold numF
 by_cases h:s.length<1∨10<s.length
 ·rw [if_pos h]
  simp only [true_iff]
  rcases h with h | h
  ·exact .inl (by omega)
  ·exact .inr (.inl h)
 ·rw [if_neg h,digs_none]
  rw [ne_eq,trim_nil]
  constructor
  ·exact fun h2=> .inr (.inr h2)
  ·rintro (h2 | h2 | h2)
   ·omega
   ·omega
   ·exact h2
theorem splitC_cut {c:UInt8} {r:List UInt8}:∀{a:List UInt8},(∀x∈a,x≠c)→splitC c (a++c::r)=a::splitC c r
 | [],_=>by simp [splitC]
 | x::xs,h=>by
   have ih:=splitC_cut (c:=c) (r:=r) (a:=xs) (fun y hy=>h y (by simp [hy]))
   simp only [List.cons_append,splitC,if_neg (h x (by simp)),ih]
theorem dig_nat {d:Nat} (h:d<10):(UInt8.ofNat (48+d)).toNat=48+d:=by
 rw [UInt8.toNat_ofNat'];omega
theorem decDigits_small {u:Nat} (h:u<10):Lib.decDigits u= [UInt8.ofNat (48+u)]:=by rw [Lib.decDigits,dif_pos h]
theorem decDigits_big {u:Nat} (h:¬u<10):Lib.decDigits u=Lib.decDigits (u / 10)++ [UInt8.ofNat (48+u % 10)]:=by rw [Lib.decDigits,dif_neg h]
theorem decDigits_dig (u:Nat):∀x∈Lib.decDigits u,48≤x.toNat∧x.toNat≤57:=by
 induction u using Nat.strongRecOn with
 | ind u ih=>
   intro x hx
   by_cases h:u<10
   ·rw [decDigits_small h,List.mem_singleton] at hx
    rw [hx,dig_nat h];omega
   ·rw [decDigits_big h,List.mem_append,List.mem_singleton] at hx
    rcases hx with hx | hx
    ·exact ih (u / 10) (by omega) x hx
    ·rw [hx,dig_nat (by omega)];omega
theorem digs_snoc:∀{s:List UInt8} {a:Int} {d:Nat},d<10→digs a (s++ [UInt8.ofNat (48+d)])=(digs a s).map fun b=>10*b+(d:Int)
 | [],a,d,h=>by
   simp only [List.nil_append,digs,dig_nat h,Option.map_some]
   rw [if_neg (by omega)]
   congr 1
   omega
 | c::cs,a,d,h=>by
   simp only [List.cons_append,digs]
   split
   ·rfl
   ·exact digs_snoc h
theorem decDigits_len {k:Nat}:∀{u:Nat},1≤k→u<10 ^ k→(Lib.decDigits u).length≤k:=by
 induction k with
 | zero=>intro u h;omega
 | succ k ih=>
   intro u _ hu
   by_cases h:u<10
   ·rw [decDigits_small h];simp
   ·rw [decDigits_big h,List.length_append]
    have hk:1≤k:=by
     rcases k with _ | k
     ·simp at hu;omega
     ·omega
    have h2:u / 10<10 ^ k:=by
     rw [Nat.div_lt_iff_lt_mul (by decide),←Nat.pow_succ];exact hu
    have:=ih hk h2
    simp only [List.length_cons,List.length_nil];omega
theorem decDigits_ne (u:Nat):1≤(Lib.decDigits u).length:=by
 by_cases h:u<10
 ·rw [decDigits_small h];simp
 ·rw [decDigits_big h];simp
theorem itoa_clean {n:Int} (h0:0≤n):∀x∈Lib.itoa n,x≠32∧x≠10:=fun x hx=>by
 have he:Lib.itoa n=Lib.decDigits n.toNat:=by unfold Lib.itoa;rw [if_neg (by omega)]
 rw [he] at hx
 have:=decDigits_dig _ x hx
 refine ⟨fun e=> ?_,fun e=> ?_⟩<;>(subst e;revert this;decide)
def wRank:List UInt8:= [114,97,110,107]
def wLeast:List UInt8:= [108,101,97,115,116]
def wMost:List UInt8:= [109,111,115,116]
def wUp:List UInt8:= [117,112]
def wDown:List UInt8:= [100,111,119,110]
def wDays:List UInt8:= [100,97,121,115]
def wAbove:List UInt8:= [97,98,111,118,101]
def wBelow:List UInt8:= [98,101,108,111,119]
def kindOf (w:List UInt8):Int:=if w=wLeast then 1 else if w=wMost then 2 else if w=wUp then 3 else if w=wDown then 4 else 0
def badC (c:Cd):Prop:=¬(0≤c.v∧c.v≤1073741824)∨¬((0≤c.f∧c.f≤364)∧0≤c.u∧c.u≤364)∨¬(0≤c.a∧c.a≤16777216)∨¬(0≤c.b∧c.b≤16777216)∨c.b<c.a
instance (c:Cd):Decidable (badC c):=by unfold badC;infer_instance
def oneC (c:Cd):Int:=if c.r<1∨9<c.r then 1 else if c.k<1∨4<c.k then 5 else if badC c then 1 else 0
theorem oneC_ok {c:Cd} (h:oneC c=0):(1≤c.r∧c.r≤9)∧(1≤c.k∧c.k≤4)∧¬badC c:=by
 unfold oneC at h
 split at h
 ·cases h
 split at h
 ·cases h
 split at h
 ·cases h
 ·exact ⟨by omega,by omega,by assumption⟩
def c56:C:=(sr [kk 4 (.mv (.c (.bool false)))] (sr [km 5 0,kk 6 (.bi false .geq 5 (cn 0)),km 7 6,kg 8 7 true (.mv 0),kg 9 7 true (.mv 1),kg 10 7 true (.bi false .leq 8 9),kk 11 (.pick 7 10 (.c (.bool false))),km 4 11] .ret))
theorem fits56:fits Tryz.prog false Tryz.f56 2 12 [(4,none)]=some c56.er:=by kernel_rfl
def c139:C:=(sr [kk 2 (.mv (.c (.bool false)))] (sr [km 3 0,kk 4 (cl 56 [3,(cn 364)]),km 2 4] .ret))
theorem fits139:fits Tryz.prog false Tryz.f139 1 5 [(2,none)]=some c139.er:=by kernel_rfl
def c137:C:=(sr [kk 1 (.bx 2 0),kk 2 (.mv (.c (.bool false)))] (sr [kk 3 (.fa 0 1),kk 4 (.ld 1 false 3),kk 5 (cl 139 [4]),km 6 5,kg 7 6 true (.fa 1 1),kg 8 6 true (.ld 1 false 7),kg 9 6 true (cl 139 [8]),kk 10 (.pick 6 9 (.c (.bool false))),km 2 10] .ret))
theorem fits137:fits Tryz.prog false Tryz.f137 1 11 [(2,none)]=some c137.er:=by kernel_rfl
def c136:C:=(sr [kk 2 (.mv (.c (.bool false)))] (sr [km 3 0,kk 4 (cl 56 [3,(cn 16777216)]),km 2 4] .ret))
theorem fits136:fits Tryz.prog false Tryz.f136 1 5 [(2,none)]=some c136.er:=by kernel_rfl
def c70:C:=(sr [kk 1 (.bx 7 0),kk 2 (.mv (cn 0))] (sr [kk 3 (.mv (.c (.fn (.func 136) [] [])))] (.seq (.block 0 (sr [kk 5 (.fa 0 1),kk 6 (.ld 1 false 5),kk 7 (.bi false .lss 6 (cn 1)),km 8 7,kg 9 8 false (.fa 0 1),kg 10 8 false (.ld 1 false 9),kg 11 8 false (.bi false .gtr 10 (cn 9)),kk 12 (.pick 8 (.c (.bool true)) 11),km 4 12] (.cond 4 (sr [kk 2 (.mv (cn 1))] .ret) (sr [kk 14 (.fa 1 1),kk 15 (.ld 1 false 14),kk 16 (.bi false .lss 15 (cn 1)),km 17 16,kg 18 17 false (.fa 1 1),kg 19 17 false (.ld 1 false 18),kg 20 17 false (.bi false .gtr 19 (cn 4)),kk 21 (.pick 17 (.c (.bool true)) 20),km 13 21] (.cond 13 (sr [kk 2 (.mv (cn 5))] .ret) (sr [kk 23 (.fa 2 1),kk 24 (.ld 1 false 23),kk 25 (cl 56 [24,(cn 1073741824)]),kk 26 (.un false .not 25),km 27 26,kg 28 27 false (.fa 3 1),kg 29 27 false (.ld 2 true 28),kg 30 27 false (cl 137 [29]),kg 31 27 false (.un false .not 30),kk 32 (.pick 27 (.c (.bool true)) 31),km 33 32,kg 34 33 false (.mv 3),kg 35 33 false (.fa 5 1),kg 36 33 false (.ld 1 false 35),kg 37 33 false (.call 34 [36]),kg 38 33 false (.un false .not 37),kk 39 (.pick 33 (.c (.bool true)) 38),km 40 39,kg 41 40 false (.mv 3),kg 42 40 false (.fa 6 1),kg 43 40 false (.ld 1 false 42),kg 44 40 false (.call 41 [43]),kg 45 40 false (.un false .not 44),kk 46 (.pick 40 (.c (.bool true)) 45),km 47 46,kg 48 47 false (.fa 5 1),kg 49 47 false (.ld 1 false 48),kg 50 47 false (.fa 6 1),kg 51 47 false (.ld 1 false 50),kg 52 47 false (.bi false .gtr 49 51),kk 53 (.pick 47 (.c (.bool true)) 52),km 22 53] (.cond 22 (sr [kk 2 (.mv (cn 1))] .ret) .skip))))))) (sr [kk 2 (.mv (cn 0))] .ret))))
theorem fits70:fits Tryz.prog false Tryz.f70 1 54 [(2,none)]=some c70.er:=by kernel_rfl
def c62L1:C:=(sr [kk 12 (.bi false .lss 11 10)] (.seq (.cond 12 .skip (.exit 0)) (.seq (.block 1 (sr [kk 13 (.ia 7 9 11),kk 14 (.ld 7 true 13),kk 4 (.al [(.int .i64 0),(.int .i64 0),(.int .i64 0),(.int .i64 0),(.int .i64 0),(.int .i64 0),(.int .i64 0)]),kz (.st 7 4 14)] (sr [kk 15 (.ld 7 true 4),kk 16 (cl 70 [15]),km 5 16] (sr [km 17 5,kk 18 (.bi false .neq 17 (cn 0))] (.cond 18 (sr [km 19 5,km 2 19] .ret) .skip))))) (.reg [kk 20 (.bi false .add 11 (cn 1)),km 11 20]))))
def c62:C:=(sr [kk 2 (.mv (cn 0))] (.seq (sr [km 6 0,kk 7 (.len 6),kk 8 (.bi false .gtr 7 (cn 200))] (.cond 8 (sr [kk 2 (.mv (cn 10))] .ret) .skip)) (.seq (sr [km 9 0,kk 10 (.len 9),kk 11 (.mv (cn 0))] (.block 0 (.loop c62L1))) (sr [kk 2 (.mv (cn 0))] .ret))))
theorem fits62:fits Tryz.prog false Tryz.f62 1 21 [(2,none)]=some c62.er:=by kernel_rfl
def wi (n m:Int):Bool:=decide (0≤n)&&decide (n≤m)
theorem call56 (n m:Int):PureCall Tryz.prog 56 [.int .i64 n, .int .i64 m] [] ⟨.bool (wi n m), [], []⟩:=by
 refine pure_call mix Tryz.func56 fits56 rfl ?_
 conv=>whnf
 refine ⟨?_, [], ?_⟩
 ·exact g0
 conv=>whnf
 refine ⟨rfl, ?_,trivial,trivial⟩
 show PLe _ _ _ _
 conv=>whnf
 unfold wi
 cases decide (0≤n)<;>rfl
theorem call139 (n:Int):PureCall Tryz.prog 139 [.int .i64 n] [] ⟨.bool (wi n 364), [], []⟩:=by
 refine pure_call mix Tryz.func139 fits139 rfl ?_
 conv=>whnf
 refine ⟨_,fun _=>call56 n 364, ?_⟩
 conv=>whnf
 exact ret
theorem call137 (f u:Int):PureCall Tryz.prog 137 [.agg [.int .i64 f, .int .i64 u]] [] ⟨.bool (wi f 364&&wi u 364), [], []⟩:=by
 refine pure_call mix Tryz.func137 fits137 rfl ?_
 conv=>whnf
 refine ⟨_,fun _=>call139 f, ?_⟩
 conv=>whnf
 refine ⟨_,fun _=>call139 u, ?_⟩
 conv=>whnf
 refine ⟨?_, [], ?_⟩
 ·exact g0
 conv=>whnf
 refine ⟨rfl, ?_,trivial,trivial⟩
 show PLe _ _ _ _
 conv=>whnf
 cases wi f 364<;>rfl
theorem call136 (n:Int):PureCall Tryz.prog 136 [.int .i64 n] [] ⟨.bool (wi n 16777216), [], []⟩:=by
 refine pure_call mix Tryz.func136 fits136 rfl ?_
 conv=>whnf
 refine ⟨_,fun _=>call56 n 16777216, ?_⟩
 conv=>whnf
 exact ret
theorem wi_iff (n m:Int):wi n m=true↔0≤n∧n≤m:=by simp [wi]
theorem bad_test (c:Cd):(bif bif bif bif !wi c.v 1073741824 then true else !(wi c.f 364&&wi c.u 364) then true else !wi c.a 16777216 then true else !wi c.b 16777216 then true else decide (c.b<c.a))=decide (badC c):=by
 have h1:=wi_iff c.v 1073741824
 have h2:=wi_iff c.f 364
 have h3:=wi_iff c.u 364
 have h4:=wi_iff c.a 16777216
 have h5:=wi_iff c.b 16777216
 rw [Bool.eq_iff_iff,decide_eq_true_iff]
 unfold badC
 rw [←h1,←h2,←h3,←h4,←h5]
 cases wi c.v 1073741824<;>cases wi c.f 364<;>cases wi c.u 364<;>cases wi c.a 16777216<;>cases wi c.b 16777216<;>simp
theorem call70 (c:Cd):PureCall Tryz.prog 70 [.agg (eCd c)] [] ⟨.int .i64 (oneC c), [], []⟩:=by
 refine pure_call mix Tryz.func70 fits70 rfl ?_
 unfold oneC
 conv=>whnf
 refine ⟨?_,fun hc=> ?_,fun hc=> ?_⟩
 ·exact g0
 ·simp only [bp] at hc
  rw [if_pos (by omega)]
  conv=>whnf
  exact ret
 simp only [bp] at hc
 rw [if_neg (by omega)]
 conv=>whnf
 refine ⟨?_,fun hc=> ?_,fun hc=> ?_⟩
 ·exact g0
 ·simp only [bp] at hc
  rw [if_pos (by omega)]
  conv=>whnf
  exact ret
 simp only [bp] at hc
 rw [if_neg (by omega)]
 conv=>whnf
 refine ⟨_,fun _=>call56 c.v 1073741824, ?_⟩
 conv=>whnf
 refine ⟨_,fun _=>call137 c.f c.u, ?_⟩
 conv=>whnf
 refine ⟨_,fun _=>call136 c.a, ?_⟩
 conv=>whnf
 refine ⟨_,fun _=>call136 c.b, ?_⟩
 conv=>whnf
 refine ⟨?_,fun hc=> ?_,fun hc=> ?_⟩
 ·exact g0
 ·have hb:badC c:=of_decide_eq_true ((bad_test c).symm.trans hc)
  rw [if_pos hb]
  conv=>whnf
  exact ret
 ·have hb:¬badC c:=of_decide_eq_false ((bad_test c).symm.trans hc)
  rw [if_neg hb]
  conv=>whnf
  exact ret
def allC:List Cd→Int
 | []=>0
 | c::l=>if oneC c≠0 then oneC c else allC l
def limC (l:List Cd):Int:=if 200<l.length then 10 else allC l
theorem allC_drop {l:List Cd} {i:Nat} (h:i<l.length):allC (l.drop i)=if oneC (l.getD i default)≠0 then oneC (l.getD i default) else allC (l.drop (i+1)):=by
 rw [List.drop_eq_getElem_cons h]
 have:l.getD i default=l[i]:=by simp [List.getD,h]
 rw [this];rfl
theorem call62 (τ:Nat) (l:List Cd):PureCall Tryz.prog 62 [.sl τ 7 l.length (fl eCd l)] [] ⟨.int .i64 (limC l), [], []⟩:=by
 refine pure_call mix Tryz.func62 fits62 rfl ?_
 unfold limC
 conv=>whnf
 refine ⟨?_,fun hc=> ?_,fun hc=> ?_⟩
 ·exact g0
 ·simp only [bp] at hc
  rw [if_pos (by omega)]
  conv=>whnf
  exact ret
 simp only [bp] at hc
 rw [if_neg (by omega)]
 conv=>whnf
 refine ⟨trivial, ?_⟩
 refine LSem.loop (n:=21) mix (α:=Nat) (fun i=>i≤l.length∧allC (l.drop i)=allC l)
  (fun i=> [(9, .sl τ 7 l.length (fl eCd l)),(10, .int .i64 l.length),(11, .int .i64 i)])
  (fun i=> []) (fun i=>l.length - i) 0 ?_ ?_ ?_
 ·exact ⟨Nat.zero_le _,rfl⟩
 ·refine ⟨rfl,rfl, ?_, ?_⟩<;>exact ent
 ·rintro i ⟨hi,hp⟩
  have hj:((i:Int)).toNat=i:=by omega
  conv=>whnf
  refine ⟨trivial,fun hc=> ?_,fun hc=> ?_⟩
  ·replace hc:=of_decide_eq_true hc
   have hlt:i<l.length:=by
    have h:(i:Int)<l.length:=hc
    omega
   rw [allC_drop hlt] at hp
   conv=>whnf
   rw [hj]
   refine ⟨_,fun _=>call70 (l.getD i default), ?_⟩
   generalize oneC (l.getD i default)=e at hp⊢
   conv=>whnf
   refine ⟨?_,fun h=> ?_,fun h=> ?_⟩
   ·exact g0
   ·simp only [bp] at h
    rw [if_pos h] at hp
    rw [←hp]
    conv=>whnf
    exact ret
   ·simp only [bp] at h
    rw [if_neg (by omega)] at hp
    conv=>whnf
    refine ⟨?_,i+1,⟨hlt,hp⟩,by omega,rfl,rfl, ?_, ?_⟩
    ·exact g0
    ·exact ent
    ·exact ent
  ·replace hc:=of_decide_eq_false hc
   have hk:i=l.length:=by
    have h:¬(i:Int)<l.length:=hc
    omega
   subst hk
   rw [List.drop_length] at hp
   rw [←show (0:Int)=allC l from hp]
   conv=>whnf
   exact ret
def c197:C:=(sr [kk 2 (.bx 2 0),kk 4 (.mv (.c (.bool false)))] (.seq (sr [kk 5 (.ld 2 true 2),kk 6 (cl 137 [5]),kk 7 (.un false .not 6),km 8 7,kg 9 8 false (.mv 1),kg 10 8 false (cl 139 [9]),kg 11 8 false (.un false .not 10),kk 12 (.pick 8 (.c (.bool true)) 11)] (.cond 12 (sr [kk 4 (.mv (.c (.bool false)))] .ret) .skip)) (.seq (sr [kk 13 (.fa 0 2),kk 14 (.ld 1 false 13),kk 15 (.fa 1 2),kk 16 (.ld 1 false 15),kk 17 (.bi false .leq 14 16)] (.cond 17 (sr [kk 18 (.fa 0 2),kk 19 (.ld 1 false 18),km 20 1,kk 21 (.bi false .leq 19 20),km 22 21,kg 23 22 true (.mv 1),kg 24 22 true (.fa 1 2),kg 25 22 true (.ld 1 false 24),kg 26 22 true (.bi false .leq 23 25),kk 27 (.pick 22 26 (.c (.bool false))),km 4 27] .ret) .skip)) (sr [km 28 1,kk 29 (.fa 0 2),kk 30 (.ld 1 false 29),kk 31 (.bi false .geq 28 30),km 32 31,kg 33 32 false (.mv 1),kg 34 32 false (.fa 1 2),kg 35 32 false (.ld 1 false 34),kg 36 32 false (.bi false .leq 33 35),kk 37 (.pick 32 (.c (.bool true)) 36),km 4 37] .ret))))
theorem fits197:fits Tryz.prog false Tryz.f197 2 38 [(4,none)]=some c197.er:=by kernel_rfl
def c144:C:=(sr [kk 3 (.bx 7 0),kk 6 (.mv (.c (.bool false)))] (sr [kk 7 (.ld 7 true 3),kk 8 (cl 70 [7]),kk 9 (.bi false .eql 8 (cn 0)),km 10 9,kg 11 10 true (.fa 3 3),kg 12 10 true (.ld 2 true 11),kg 13 10 true (.mv 1),kg 14 10 true (cl 197 [12,13]),kk 15 (.pick 10 14 (.c (.bool false))),km 16 15,kg 17 16 true (.mv 2),kg 18 16 true (.fa 5 3),kg 19 16 true (.ld 1 false 18),kg 20 16 true (.bi false .geq 17 19),kk 21 (.pick 16 20 (.c (.bool false))),km 22 21,kg 23 22 true (.mv 2),kg 24 22 true (.fa 6 3),kg 25 22 true (.ld 1 false 24),kg 26 22 true (.bi false .leq 23 25),kk 27 (.pick 22 26 (.c (.bool false))),km 6 27] .ret))
theorem fits144:fits Tryz.prog false Tryz.f144 3 28 [(6,none)]=some c144.er:=by kernel_rfl
def c143:C:=(sr [kk 5 (.mv (.c (.bool false)))] (.seq (.drw [kk 6 (.ld 1 false 1),km 7 0,kk 8 (.ia 7 6 7),kk 9 (.ld 7 true 8),kk 10 (.ld 1 false 2),kk 11 (.ld 1 false 3),kk 12 (cl 144 [9,10,11]),kk 13 (.un false .not 12),km 5 13] (pl [(0,[1,4,5],6),(1,[4,5],7),(2,[4,5],8),(3,[4,5],9),(4,[5],10)])) .ret))
theorem fits143:fits Tryz.prog false Tryz.f143 4 14 [(5,none)]=some c143.er:=by kernel_rfl
def c142L1:C:=(sr [kk 8 (.bi false .lss 7 6)] (.seq (.cond 8 .skip (.exit 0)) (.seq (.block 1 (sr [km 9 7,km 4 9] (.reg [km 10 3,km 11 4,kk 12 (.bs 3 1 [11]),kk 13 (.app 3 1 8 10 12),km 3 13]))) (.reg [kk 14 (.bi false .add 7 (cn 1)),km 7 14]))))
def c142:C:=(sr [kk 1 (.bx 1 0),kk 2 (.mv (.c (.nil 1)))] (sr [kk 3 (.mv (.c (.nil 1)))] (.seq (sr [kk 5 (.ld 1 false 1),kk 6 (.len 5),kk 7 (.mv (cn 0))] (.block 0 (.loop c142L1))) (sr [km 15 3,kk 16 (.mf (.func 196) [] [1]),kk 17 (cl 195 [15,16])] (sr [km 18 3,km 2 18] .ret)))))
theorem fits142:fits Tryz.prog false Tryz.f142 1 19 [(2,none)]=some c142.er:=by kernel_rfl
def c122L1:C:=(sr [kk 9 (.bi false .lss 8 7)] (.seq (.cond 9 .skip (.exit 0)) (.seq (.block 1 (sr [km 10 8,km 5 10] (sr [km 11 1,km 12 0,km 13 5,kk 14 (.ia 1 12 13),kk 15 (.ld 1 false 14),kk 16 (.call 11 [15])] (.cond 16 (sr [km 17 5,km 4 17] .ret) .skip)))) (.reg [kk 18 (.bi false .add 8 (cn 1)),km 8 18]))))
def c122:C:=(sr [kk 4 (.mv (cn 0))] (.seq (sr [km 6 0,kk 7 (.len 6),kk 8 (.mv (cn 0))] (.block 0 (.loop c122L1))) (sr [kk 4 (.mv (cn (-1)))] .ret)))
theorem fits122:fits Tryz.prog false Tryz.f122 2 19 [(4,none)]=some c122.er:=by kernel_rfl
def inSp (f u d:Int):Bool:=(wi f 364&&wi u 364)&&wi d 364&&(if f≤u then decide (f≤d)&&decide (d≤u) else decide (f≤d) || decide (d≤u))
theorem call197 (f u d:Int):PureCall Tryz.prog 197 [.agg [.int .i64 f, .int .i64 u], .int .i64 d] [] ⟨.bool (inSp f u d), [], []⟩:=by
 refine pure_call mix Tryz.func197 fits197 rfl ?_
 conv=>whnf
 refine ⟨_,fun _=>call137 f u, ?_⟩
 conv=>whnf
 refine ⟨_,fun _=>call139 d, ?_⟩
 conv=>whnf
 refine ⟨?_,fun hc=> ?_,fun hc=> ?_⟩
 ·exact g0
 ·have h:inSp f u d=false:=by
    unfold inSp
    revert hc
    cases wi f 364<;>cases wi u 364<;>cases wi d 364<;>simp
  rw [h]
  conv=>whnf
  refine ⟨?_, [], ?_⟩
  ·exact g0
  conv=>whnf
  refine ⟨rfl, ?_,trivial,trivial⟩
  all_goals exact ent
 have hv:((wi f 364&&wi u 364)&&wi d 364)=true:=by
  revert hc
  cases wi f 364<;>cases wi u 364<;>cases wi d 364<;>simp
 conv=>whnf
 refine ⟨?_,fun hc=> ?_,fun hc=> ?_⟩
 ·exact g0
 ·have h:inSp f u d=(bif decide (f≤d) then decide (d≤u) else false):=by
    unfold inSp
    rw [hv,if_pos (of_decide_eq_true hc)]
    cases decide (f≤d)<;>rfl
  rw [h]
  conv=>whnf
  refine ⟨?_, [], ?_⟩
  ·exact g0
  conv=>whnf
  refine ⟨rfl, ?_,trivial,trivial⟩
  all_goals exact ent
 ·have h:inSp f u d=(bif decide (f≤d) then true else decide (d≤u)):=by
    unfold inSp
    rw [hv,if_neg (of_decide_eq_false hc)]
    cases decide (f≤d)<;>rfl
  rw [h]
  conv=>whnf
  refine ⟨?_, [], ?_⟩
  ·exact g0
  conv=>whnf
  refine ⟨rfl, ?_,trivial,trivial⟩
  all_goals exact ent
def applB (c:Cd) (day level:Int):Bool:=bif bif bif decide (oneC c=0) then inSp c.f c.u day else false then decide (c.a≤level) else false then decide (level≤c.b) else false
theorem call144 (c:Cd) (day level:Int):PureCall Tryz.prog 144 [.agg (eCd c), .int .i64 day, .int .i64 level] [] ⟨.bool (applB c day level), [], []⟩:=by
 refine pure_call mix Tryz.func144 fits144 rfl ?_
 conv=>whnf
 refine ⟨_,fun _=>call70 c, ?_⟩
 conv=>whnf
 refine ⟨_,fun _=>call197 c.f c.u day, ?_⟩
 conv=>whnf
 refine ⟨?_, [], ?_⟩
 ·exact g0
 conv=>whnf
 refine ⟨rfl, ?_,trivial,trivial⟩
 all_goals exact ent
def goneB (l:List Cd) (day level i:Int):Bool:= !applB (l.getD i.toNat default) day level
theorem call143 (σ σ' τ:Nat) (l:List Cd) (hl:l.length≤4611686018427387904) (day level i:Int) (hi:0≤i∧i<l.length):
  PureCall Tryz.prog 143 [.int .i64 i, .rp σ [.sl τ 7 l.length (fl eCd l)], .rp σ' [.int .i64 day], .rp σ' [.int .i64 level]] [] ⟨.bool (goneB l day level i), [], []⟩:=by
 unfold goneB
 refine pure_call mix Tryz.func143 fits143 rfl ?_
 conv=>whnf
 refine ⟨_,fun _=>call144 (l.getD i.toNat default) day level, ?_⟩
 conv=>whnf
 refine ⟨rfl, ?_⟩
 conv=>whnf
 refine ⟨?_, [], ?_⟩
 ·exact g0
 conv=>whnf
 refine ⟨rfl, ?_,trivial,trivial⟩
 all_goals exact ent
def ordF (l:List Cd):Nat→Int:=insN (rkC l) (fun k=>(k:Int)) l.length
theorem call142 (l:List Cd) (hl:l.length<20):PureCall Tryz.prog 142 [.sl 2 7 l.length (fl eCd l)] [] ⟨.os 1000000000, [], [.row 0 3 1 l.length (eR (ordF l))]⟩:=by
 refine pure_call mix Tryz.func142 fits142 rfl ?_
 conv=>whnf
 refine ⟨trivial, ?_⟩
 refine LSem.adopt 3 1000000 3 1 1 rfl rfl ?_
 refine LSem.loop (n:=19) mix (α:=Nat) (fun i=>i≤l.length)
  (fun i=> [(1, .pt 16 0 0),(3, .os 1000000),(6, .int .i64 l.length),(7, .int .i64 i)])
  (fun i=> [(16, .box [.sl 2 7 l.length (fl eCd l)]),(1000000, .row 0 3 1 i (eR (fun k=>(k:Int))))]) (fun i=>l.length - i) 0 ?_ ?_ ?_
 ·exact Nat.zero_le _
 ·refine ⟨rfl,rfl, ?_, ?_⟩
  all_goals exact ent
 ·intro i hi
  conv=>whnf
  refine ⟨trivial,fun hc=> ?_,fun hc=> ?_⟩
  ·replace hc:=of_decide_eq_true hc
   conv=>whnf
   refine ⟨?_,i+1,by omega,by omega,rfl,rfl, ?_, ?_⟩
   ·exact g0
   all_goals repeat' (first | exact True.intro | refine leF_cons rfl ?_ ?_ | refine leS_cons rfl ?_ ?_ | (show PLe _ _ _ _;conv=>whnf) | (show SLe _ _ _ _;conv=>whnf) | (show PLeL _ _ _ _;conv=>whnf) | apply And.intro | rfl | exact Nat.le_refl _ | exact fun _ _=>rfl | exact rowEq0 _ _)
   all_goals
    intro k hk
    unfold appF
    by_cases hki:k<i
    ·rw [if_pos hki]
    ·rw [if_neg hki]
     have:k=i:=by simp at hk;omega
     subst this
     simp [eR]
  ·replace hc:=of_decide_eq_false hc
   have:i=l.length:=by omega
   subst this
   conv=>whnf
   refine ⟨_,fun _=>call195 _ _ l (by omega) l.length hl (fun k=>(k:Int)) (fun k hk=>by omega), ?_⟩
   conv=>whnf
   refine ⟨?_, [1000000], ?_⟩
   ·exact g0
   conv=>whnf
   refine ⟨rfl, ?_,trivial, ?_⟩
   all_goals exact ent
def ixF (p:Int→Bool) (g:Nat→Int):Nat→Nat→Int
 | _,0=> -1
 | i,n+1=>if p (g i)=true then i else ixF p g (i+1) n
theorem ixF_neg {p:Int→Bool} {g:Nat→Int}:∀{n i:Nat},ixF p g i n<0→∀j,i≤j→j<i+n→p (g j)=false
 | 0,i,_,j,h1,h2=>by omega
 | n+1,i,h,j,h3,h4=>by
   unfold ixF at h
   by_cases hp:p (g i)=true
   ·rw [if_pos hp] at h;omega
   ·rw [if_neg hp] at h
    by_cases e:j=i
    ·rw [e];simpa using hp
    ·exact ixF_neg h j (by omega) (by omega)
theorem ixF_pos {p:Int→Bool} {g:Nat→Int}:∀{n i:Nat},0≤ixF p g i n→∃k:Nat,ixF p g i n=k∧i≤k∧k<i+n∧p (g k)=true∧∀j,i≤j→j<k→p (g j)=false
 | 0,i,h=>by simp [ixF] at h
 | n+1,i,h=>by
   unfold ixF at h⊢
   by_cases hp:p (g i)=true
   ·rw [if_pos hp];exact ⟨i,rfl,by omega,by omega,hp,fun j h1 h2=>by omega⟩
   ·rw [if_neg hp] at h⊢
    obtain ⟨k,h1,h2,h3,h4,h5⟩:=ixF_pos h
    refine ⟨k,h1,by omega,by omega,h4,fun j h6 h7=> ?_⟩
    by_cases e:j=i
    ·rw [e];simpa using hp
    ·exact h5 j (by omega) h7
theorem call122 (ρ σ τ:Nat) (l:List Cd) (hl:l.length≤4611686018427387904) (day level:Int) (n:Nat) (hn:n≤4611686018427387904) (g:Nat→Int) (hg:∀k,k<n→0≤g k∧g k<l.length):
  PureCall Tryz.prog 122 [.sl ρ 1 n (eR g), .fn (.func 143) [] [.rp σ [.sl τ 7 l.length (fl eCd l)], .rp σ [.int .i64 day], .rp σ [.int .i64 level]]] [] ⟨.int .i64 (ixF (goneB l day level) g 0 n), [], []⟩:=by
 refine pure_call mix Tryz.func122 fits122 rfl ?_
 conv=>whnf
 refine ⟨trivial, ?_⟩
 refine LSem.loop (n:=19) mix (α:=Nat) (fun i=>i≤n∧ixF (goneB l day level) g i (n - i)=ixF (goneB l day level) g 0 n)
  (fun i=> [(0, .sl ρ 1 n (eR g)),(1, .fn (.func 143) [] [.rp σ [.sl τ 7 l.length (fl eCd l)], .rp σ [.int .i64 day], .rp σ [.int .i64 level]]),(7, .int .i64 n),(8, .int .i64 i)])
  (fun i=> []) (fun i=>n - i) 0 ?_ ?_ ?_
 ·exact ⟨Nat.zero_le _,rfl⟩
 ·refine ⟨rfl,rfl, ?_, ?_⟩
  all_goals exact ent
 ·intro i hi
  obtain ⟨hi,hs⟩:=hi
  have hj:((i:Int)).toNat=i:=by omega
  conv=>whnf
  refine ⟨trivial,fun hc=> ?_,fun hc=> ?_⟩
  ·replace hc:=of_decide_eq_true hc
   have hlt:i<n:=by omega
   have hst:ixF (goneB l day level) g i (n - i)=if goneB l day level (g i)=true then (i:Int) else ixF (goneB l day level) g (i+1) (n - (i+1)):=by
    rw [show n - i=(n - (i+1))+1 by omega];rfl
   rw [hst] at hs
   conv=>whnf
   refine ⟨_,fun _=>call143 _ _ τ l hl day level (g ((i:Int)).toNat) (by rw [hj];exact hg i hlt), ?_⟩
   rw [hj]
   conv=>whnf
   refine ⟨?_,fun hc2=> ?_,fun hc2=> ?_⟩
   ·exact g0
   ·rw [if_pos hc2] at hs
    rw [←hs]
    conv=>whnf
    refine ⟨?_, [], ?_⟩
    ·exact g0
    conv=>whnf
    refine ⟨rfl, ?_,trivial,trivial⟩
    all_goals exact ent
   ·rw [if_neg (by rw [hc2];decide)] at hs
    conv=>whnf
    refine ⟨?_,i+1,⟨by omega,hs⟩, ?_,rfl,rfl, ?_, ?_⟩
    ·exact g0
    ·omega
    all_goals repeat' (first | exact True.intro | refine leF_cons rfl ?_ ?_ | refine leS_cons rfl ?_ ?_ | (show PLe _ _ _ _;conv=>whnf) | (show SLe _ _ _ _;conv=>whnf) | (show PLeL _ _ _ _;conv=>whnf) | apply And.intro | rfl | exact Nat.le_refl _ | exact fun _ _=>rfl | exact rowEq0 _ _)
    all_goals omega
  ·replace hc:=of_decide_eq_false hc
   rw [show n - i=0 by omega] at hs
   rw [←hs]
   conv=>whnf
   refine ⟨?_, [], ?_⟩
   ·exact g0
   conv=>whnf
   refine ⟨rfl, ?_,trivial,trivial⟩
   all_goals exact ent
def c141L1:C:=(.seq (sr [km 16 6,km 17 0,kk 18 (.len 17),kk 19 (.bi false .lss 16 18)] (.cond 19 .skip (.exit 0))) (.seq (.block 1 (sr [km 22 0,km 23 6,kk 24 (.ia 1 22 23),kk 25 (.ld 1 false 24),km 7 25] (sr [km 26 1,km 27 7,kk 28 (.call 26 [27]),kk 29 (.un false .not 28)] (.cond 29 (sr [km 30 0,km 31 5,km 32 7,kk 33 (.ia 1 30 31),kz (.st 1 33 32)] (.reg [km 34 5,kk 35 (.bi false .add 34 (cn 1)),km 5 35])) .skip)))) (.reg [km 20 6,kk 21 (.bi false .add 20 (cn 1)),km 6 21])))
def c141:C:=(sr [kk 4 (.mv (.c (.nil 1)))] (sr [km 8 0,km 9 1,kk 10 (cl 122 [8,9]),km 5 10] (.seq (sr [km 11 5,kk 12 (.bi false .eql 11 (cn (-1)))] (.cond 12 (sr [km 13 0,km 4 13] .ret) .skip)) (.seq (sr [km 14 5,kk 15 (.bi false .add 14 (cn 1)),km 6 15] (.block 0 (.loop c141L1))) (sr [km 36 0,km 37 5,kk 38 (.slc 1 36 (some 37) none),kz (.clr [(.int .i64 0)] 38)] (sr [km 39 0,km 40 5,kk 41 (.slc 1 39 none (some 40)),km 4 41] .ret))))))
theorem fits141:fits Tryz.prog false Tryz.f141 2 42 [(4,none)]=some c141.er:=by kernel_rfl
def c74:C:=(sr [kk 3 (.bx 1 0),kk 4 (.bx 1 1),kk 5 (.bx 1 2),kk 6 (.mv (.c (.nil 1))),kk 7 (.mv (cn 0))] (.seq (sr [kk 9 (.ld 1 false 3),kk 10 (.ld 1 false 4),kk 11 (.ld 1 false 5),kk 12 (cl 73 [9,10,11,(.c (.nil 1))]),km 8 12] (sr [km 13 8,kk 14 (.bi false .neq 13 (cn 0))] (.cond 14 (sr [km 15 8,kk 6 (.mv (.c (.nil 1))),km 7 15] .ret) .skip))) (sr [kk 16 (.ld 1 false 3),kk 17 (cl 142 [16]),kk 18 (.mf (.func 143) [] [3,4,5]),kk 19 (cl 141 [17,18]),km 6 19,kk 7 (.mv (cn 0))] .ret)))
theorem fits74:fits Tryz.prog false Tryz.f74 3 20 [(6,none),(7,none)]=some c74.er:=by kernel_rfl
def keepN (p:Int→Bool) (g:Nat→Int):Nat→List Int
 | 0=> []
 | n+1=>if p (g n)=true then keepN p g n else keepN p g n++ [g n]
theorem keepN_len {p:Int→Bool} {g:Nat→Int}:∀n,(keepN p g n).length≤n
 | 0=>Nat.le_refl _
 | n+1=>by
   have:=keepN_len (p:=p) (g:=g) n
   unfold keepN
   split
   ·omega
   ·simp;omega
theorem keepN_all {p:Int→Bool} {g:Nat→Int}:∀n,(∀k,k<n→p (g k)=false)→keepN p g n=(List.range n).map g
 | 0,_=>rfl
 | n+1,h=>by
   unfold keepN
   rw [if_neg (by rw [h n (by omega)];decide),keepN_all n (fun k hk=>h k (by omega)),List.range_succ,List.map_append]
   rfl
theorem keepN_mem {p:Int→Bool} {g:Nat→Int}:∀n x,x∈keepN p g n→∃k,k<n∧x=g k∧p x=false
 | 0,x,h=>by simp [keepN] at h
 | n+1,x,h=>by
   unfold keepN at h
   split at h
   ·obtain ⟨k,h1,h2⟩:=keepN_mem n x h
    exact ⟨k,by omega,h2⟩
   ·rename_i hp
    rcases List.mem_append.1 h with h | h
    ·obtain ⟨k,h1,h2⟩:=keepN_mem n x h
     exact ⟨k,by omega,h2⟩
    ·simp at h
     exact ⟨n,by omega,h,by rw [h];simpa using hp⟩
def delF (K:List Int) (g:Nat→Int):Nat→Int:=fun k=>if k<K.length then K.getD k default else g k
theorem call141 (σ τ:Nat) (l:List Cd) (hl:l.length≤4611686018427387904) (day level:Int) (n:Nat) (hn:n≤4611686018427387904) (g:Nat→Int) (hg:∀k,k<n→0≤g k∧g k<l.length):
  PureCall Tryz.prog 141 [.os 0, .fn (.func 143) [] [.rp σ [.sl τ 7 l.length (fl eCd l)], .rp σ [.int .i64 day], .rp σ [.int .i64 level]]] [.row 1 3 1 n (eR g)]
   ⟨.os 1000000000, [], [.row 1 3 1 (keepN (goneB l day level) g n).length (fl eInt (keepN (goneB l day level) g n))]⟩:=by
 refine pure_call mix Tryz.func141 fits141 rfl ?_
 conv=>whnf
 refine ⟨_,fun _=>call122 _ _ τ l hl day level n hn g hg, ?_⟩
 conv=>whnf
 refine ⟨?_,fun hc=> ?_,fun hc=> ?_⟩
 ·exact g0
 ·replace hc:=of_decide_eq_true hc
  have hall:=ixF_neg (p:=goneB l day level) (g:=g) (n:=n) (i:=0) (by omega)
  rw [keepN_all n (fun k hk=>hall k (by omega) (by omega))]
  conv=>whnf
  refine ⟨?_, [0], ?_⟩
  ·exact g0
  conv=>whnf
  refine ⟨rfl, ?_,trivial, ?_⟩
  all_goals repeat' (first | exact True.intro | refine leF_cons rfl ?_ ?_ | refine leS_cons rfl ?_ ?_ | (show PLe _ _ _ _;conv=>whnf) | (show SLe _ _ _ _;conv=>whnf) | (show PLeL _ _ _ _;conv=>whnf) | apply And.intro | rfl | exact Nat.le_refl _ | exact fun _ _=>rfl | exact rowEq0 _ _)
  all_goals first | (simp;done) | skip
  all_goals
   intro k hk
   show [PV.int .i64 (g k)]=eInt (((List.range n).map g).getD k default)
   rw [List.getD_eq_getElem?_getD,List.getElem?_map,List.getElem?_range hk]
   rfl
 ·replace hc:=of_decide_eq_false hc
  obtain ⟨i0,hi0,_,hlt0,hp0,hall⟩:=ixF_pos (p:=goneB l day level) (g:=g) (n:=n) (i:=0) (by
   rcases Int.lt_or_le (ixF (goneB l day level) g 0 n) 0 with h | h
   ·exfalso
    have:∀(n i:Nat), -1≤ixF (goneB l day level) g i n:=fun n=>by
     induction n with
     | zero=>intro i;exact Int.le_refl _
     | succ n ih=>intro i;unfold ixF;split
                  ·omega
                  ·exact ih _
    have:=this n 0
    omega
   ·exact h)
  rw [hi0]
  conv=>whnf
  refine ⟨?_, ?_⟩
  ·exact g0
  have hk0:keepN (goneB l day level) g (i0+1)=(List.range i0).map g:=by
   unfold keepN
   rw [if_pos hp0,keepN_all i0 (fun k hk=>hall k (by omega) hk)]
  refine LSem.loop (n:=42) mix (α:=Nat) (fun i=>i≤n)
   (fun i=> [(0, .os 0),(1, .fn (.func 143) [] [.rp σ [.sl τ 7 l.length (fl eCd l)], .rp σ [.int .i64 day], .rp σ [.int .i64 level]]),(5, .int .i64 (keepN (goneB l day level) g i).length),(6, .int .i64 i)])
   (fun i=> [(0, .row 1 3 1 n (eR (delF (keepN (goneB l day level) g i) g)))]) (fun i=>n - i) (i0+1) ?_ ?_ ?_
  ·show i0+1≤n;omega
  ·refine ⟨rfl,rfl, ?_, ?_⟩
   all_goals repeat' (first | exact True.intro | refine leF_cons rfl ?_ ?_ | refine leS_cons rfl ?_ ?_ | (show PLe _ _ _ _;conv=>whnf) | (show SLe _ _ _ _;conv=>whnf) | (show PLeL _ _ _ _;conv=>whnf) | apply And.intro | rfl | exact Nat.le_refl _ | exact fun _ _=>rfl | exact rowEq0 _ _)
   all_goals first | (rw [hk0];simp;done) | skip
   all_goals
    intro k hk
    rw [hk0]
    unfold delF eR
    dsimp only
    by_cases h:k<((List.range i0).map g).length
    ·rw [if_pos h,List.getD_eq_getElem?_getD,List.getElem?_map,List.getElem?_range (by simpa using h)]
     rfl
    ·rw [if_neg h]
  ·intro i hi
   have hj:((i:Int)).toNat=i:=by omega
   have hkl:=keepN_len (p:=goneB l day level) (g:=g) i
   have hd:delF (keepN (goneB l day level) g i) g i=g i:=if_neg (by omega)
   conv=>whnf
   refine ⟨trivial,fun hc=> ?_,fun hc=> ?_⟩
   ·replace hc:=of_decide_eq_true hc
    have hlt:i<n:=by omega
    conv=>whnf
    refine ⟨_,fun _=>call143 _ _ τ l hl day level (delF (keepN (goneB l day level) g i) g ((i:Int)).toNat) (by rw [hj,hd];exact hg i hlt), ?_⟩
    rw [hj,hd]
    conv=>whnf
    refine ⟨?_,fun hc2=> ?_,fun hc2=> ?_⟩
    ·exact g0
    ·have hk1:keepN (goneB l day level) g (i+1)=keepN (goneB l day level) g i++ [g i]:=by
       rw [keepN,if_neg (by intro h;rw [h] at hc2;cases hc2)]
     conv=>whnf
     refine ⟨?_,i+1,hlt, ?_,rfl,rfl, ?_, ?_⟩
     ·exact g0
     ·omega
     all_goals repeat' (first | exact True.intro | refine leF_cons rfl ?_ ?_ | refine leS_cons rfl ?_ ?_ | (show PLe _ _ _ _;conv=>whnf) | (show SLe _ _ _ _;conv=>whnf) | (show PLeL _ _ _ _;conv=>whnf) | apply And.intro | rfl | exact Nat.le_refl _ | exact fun _ _=>rfl | exact rowEq0 _ _)
     all_goals first | (rw [hk1];simp;done) | skip
     all_goals
      intro k hk
      rw [hk1]
      have e3:((keepN (goneB l day level) g i).length:Int).toNat=(keepN (goneB l day level) g i).length:=by omega
      dsimp only
      rw [e3]
      unfold delF eR
      dsimp only
      rw [List.length_append]
      simp only [List.length_cons,List.length_nil]
      by_cases h1:k=(keepN (goneB l day level) g i).length
      ·subst h1
       simp [setAt,PV.cells]
      ·rw [if_neg h1]
       by_cases h2:k<(keepN (goneB l day level) g i).length
       ·rw [if_pos h2,if_pos (by omega),List.getD_eq_getElem?_getD,List.getD_eq_getElem?_getD,List.getElem?_append_left h2]
       ·rw [if_neg h2,if_neg (by omega)]
    ·have hk1:keepN (goneB l day level) g (i+1)=keepN (goneB l day level) g i:=by
       rw [keepN,if_pos (by cases hq:goneB l day level (g i) with | true=>rfl | false=>rw [hq] at hc2;cases hc2)]
     conv=>whnf
     refine ⟨?_,i+1,hlt, ?_,rfl,rfl, ?_, ?_⟩
     ·exact g0
     ·omega
     all_goals repeat' (first | exact True.intro | refine leF_cons rfl ?_ ?_ | refine leS_cons rfl ?_ ?_ | (show PLe _ _ _ _;conv=>whnf) | (show SLe _ _ _ _;conv=>whnf) | (show PLeL _ _ _ _;conv=>whnf) | apply And.intro | rfl | exact Nat.le_refl _ | exact fun _ _=>rfl | exact rowEq0 _ _)
     all_goals first | (rw [hk1];done) | skip
     all_goals (rw [hk1];exact fun _ _=>rfl)
   ·replace hc:=of_decide_eq_false hc
    have:i=n:=by
     have:¬i<n:=by omega
     omega
    subst this
    conv=>whnf
    refine ⟨?_, [0], ?_⟩
    ·exact g0
    conv=>whnf
    refine ⟨rfl, ?_,trivial, ?_⟩
    all_goals repeat' (first | exact True.intro | refine leF_cons rfl ?_ ?_ | refine leS_cons rfl ?_ ?_ | (show PLe _ _ _ _;conv=>whnf) | (show SLe _ _ _ _;conv=>whnf) | (show PLeL _ _ _ _;conv=>whnf) | apply And.intro | rfl | exact Nat.le_refl _ | exact fun _ _=>rfl | exact rowEq0 _ _)
    all_goals
     intro k hk
     have e3:((keepN (goneB l day level) g i).length:Int).toNat=(keepN (goneB l day level) g i).length:=by omega
     rw [e3] at hk
     dsimp only
     rw [e3,if_neg (by omega)]
     unfold eR delF fl eInt
     rw [if_pos hk]
def actF (l:List Cd) (day level:Int):List Int:=keepN (goneB l day level) (ordF l) l.length
theorem ordF_in (l:List Cd):∀k,k<l.length→0≤ordF l k∧ordF l k<l.length:=
 insN_in (p:=fun x=>0≤x∧x<l.length) _ (fun k hk=>by omega) l.length (Nat.le_refl _)
def c140:C:=(sr [kk 2 (.mv (.c (.bool false)))] (sr [km 3 0,kk 4 (cl 56 [3,(cn 1073741824)]),kk 5 (.un false .not 4),km 2 5] .ret))
theorem fits140:fits Tryz.prog false Tryz.f140 1 6 [(2,none)]=some c140.er:=by kernel_rfl
def c54:C:=(sr [kk 4 (.mv (.c (.bool false)))] (sr [km 5 0,km 6 1,kk 7 (cl 122 [5,6]),kk 8 (.bi false .geq 7 (cn 0)),km 4 8] .ret))
theorem fits54:fits Tryz.prog false Tryz.f54 2 9 [(4,none)]=some c54.er:=by kernel_rfl
def c73:C:=(sr [kk 8 (.mv (cn 0))] (.seq (sr [km 10 0,kk 11 (cl 62 [10]),km 9 11] (sr [km 12 9,kk 13 (.bi false .neq 12 (cn 0))] (.cond 13 (sr [km 14 9,km 8 14] .ret) .skip))) (.seq (sr [km 15 1,kk 16 (cl 139 [15]),kk 17 (.un false .not 16),km 18 17,kg 19 18 false (.mv 2),kg 20 18 false (cl 56 [19,(cn 16777216)]),kg 21 18 false (.un false .not 20),kk 22 (.pick 18 (.c (.bool true)) 21),km 23 22,kg 24 23 false (.mv 3),kg 25 23 false (cl 54 [24,(.c (.fn (.func 140) [] []))]),kk 26 (.pick 23 (.c (.bool true)) 25)] (.cond 26 (sr [kk 8 (.mv (cn 1))] .ret) .skip)) (sr [kk 8 (.mv (cn 0))] .ret))))
theorem fits73:fits Tryz.prog false Tryz.f73 4 27 [(8,none)]=some c73.er:=by kernel_rfl
def c138:C:=(sr [kk 3 (.bx 2 1),kk 4 (.mv (cn 0))] (sr [km 5 0,kk 6 (.fa 1 3),kk 7 (.ld 1 false 6),kk 8 (.mn [5,7]),kk 9 (.fa 0 3),kk 10 (.ld 1 false 9),kk 11 (.mx [8,10]),km 4 11] .ret))
theorem fits138:fits Tryz.prog false Tryz.f138 2 12 [(4,none)]=some c138.er:=by kernel_rfl
def c145:C:=(sr [kk 2 (.bx 7 0),kk 4 (.al [(.int .i64 0),(.int .i64 0)])] (sr [kk 7 (.bd [(.int .i64 0),(.int .i64 0)] [(1,1,(cn 1073741824))]),kk 5 (.al [(.int .i64 0),(.int .i64 0)]),kz (.st 2 5 7)] (sr [kk 8 (.fa 1 2),kk 9 (.ld 1 false 8),kk 10 (.iaa 5 2 (.c (.rp 1 [(.bool false),(.bool false),(.bool true),(.bool false),(.bool false),(.bool false),(.bool false),(.bool true),(.bool true),(.bool true)])) 9),kk 11 (.ld 2 true 10),kk 6 (.al [(.bool false),(.bool false)]),kz (.st 2 6 11)] (.seq (.block 0 (sr [kk 16 (.fa 0 6),kk 17 (.ld 1 false 16),km 18 17,kg 19 18 true (.fa 1 6),kg 20 18 true (.ld 1 false 19),kk 21 (.pick 18 20 (.c (.bool false))),km 15 21] (.cond 15 (.reg [km 22 1,kk 23 (.fa 2 2),kk 24 (.ld 1 false 23),kk 25 (.bi false .sub 22 24),kk 26 (.mx [25,(cn 0)]),kk 27 (.fa 0 5),kz (.st 1 27 26)]) (sr [kk 29 (.fa 1 6),kk 30 (.ld 1 false 29),km 28 30] (.cond 28 (.reg [km 31 1,kk 32 (.fa 2 2),kk 33 (.ld 1 false 32),kk 34 (.bi false .add 31 33),kk 35 (.mn [34,(cn 1073741824)]),kk 36 (.fa 1 5),kz (.st 1 36 35)]) (sr [kk 38 (.fa 0 6),kk 39 (.ld 1 false 38),km 37 39] (.cond 37 (.reg [kk 40 (.fa 2 2),kk 41 (.ld 1 false 40),kk 42 (.fa 0 5),kz (.st 1 42 41)]) (.reg [kk 12 (.fa 2 2),kk 13 (.ld 1 false 12),kk 14 (.fa 1 5),kz (.st 1 14 13)])))))))) (sr [kk 43 (.ld 2 true 5),kz (.st 2 4 43)] .ret)))))
theorem fits145:fits Tryz.prog false Tryz.f145 2 44 [(4,some (2,true))]=some c145.er:=by kernel_rfl
def c79:C:=(sr [kk 2 (.bx 7 0),kk 4 (.al [(.int .i64 0),(.int .i64 0)]),kk 5 (.mv (.c (.bool false)))] (.seq (sr [kk 6 (.ld 7 true 2),kk 7 (cl 70 [6]),kk 8 (.bi false .neq 7 (cn 0)),km 9 8,kg 10 9 false (.mv 1),kg 11 9 false (cl 56 [10,(cn 1073741824)]),kg 12 9 false (.un false .not 11),kk 13 (.pick 9 (.c (.bool true)) 12)] (.cond 13 (sr [kk 14 (.bd [(.int .i64 0),(.int .i64 0)] []),kz (.st 2 4 14),kk 5 (.mv (.c (.bool false)))] .ret) .skip)) (sr [kk 15 (.ld 7 true 2),km 16 1,kk 17 (cl 145 [15,16]),kz (.st 2 4 17),kk 5 (.mv (.c (.bool true)))] .ret)))
theorem fits79:fits Tryz.prog false Tryz.f79 2 18 [(4,some (2,true)),(5,none)]=some c79.er:=by kernel_rfl
def c71:C:=(sr [kk 10 (.bx 2 4),kk 12 (.mv (cn 0))] (.seq (sr [km 14 0,km 15 1,km 16 2,km 17 3,km 18 5,kk 19 (.fa 0 10),kk 20 (.ld 1 false 19),kk 21 (.fa 1 10),kk 22 (.ld 1 false 21),kk 23 (.bs 3 1 [17,18,20,22]),kk 24 (cl 73 [14,15,16,23]),km 13 24] (sr [km 25 13,kk 26 (.bi false .neq 25 (cn 0))] (.cond 26 (sr [km 27 13,km 12 27] .ret) .skip))) (.seq (sr [kk 28 (.fa 0 10),kk 29 (.ld 1 false 28),kk 30 (.fa 1 10),kk 31 (.ld 1 false 30),kk 32 (.bi false .gtr 29 31)] (.cond 32 (sr [kk 12 (.mv (cn 3))] .ret) .skip)) (sr [kk 12 (.mv (cn 0))] .ret))))
theorem fits71:fits Tryz.prog false Tryz.f71 6 33 [(12,none)]=some c71.er:=by kernel_rfl
theorem call140 (n:Int):PureCall Tryz.prog 140 [.int .i64 n] [] ⟨.bool (!wi n 1073741824), [], []⟩:=by
 refine pure_call mix Tryz.func140 fits140 rfl ?_
 conv=>whnf
 refine ⟨_,fun _=>call56 n 1073741824, ?_⟩
 conv=>whnf
 refine ⟨?_, [], ?_⟩
 ·exact g0
 conv=>whnf
 refine ⟨rfl, ?_,trivial,trivial⟩
 all_goals exact ent
theorem call122f (ρ:Nat) (l:List Int) (hn:l.length≤4611686018427387904) (hg:∀x∈l,wi x 1073741824=true):
  PureCall Tryz.prog 122 [.sl ρ 1 l.length (fl eInt l), .fn (.func 140) [] []] [] ⟨.int .i64 (-1), [], []⟩:=by
 refine pure_call mix Tryz.func122 fits122 rfl ?_
 conv=>whnf
 refine ⟨trivial, ?_⟩
 refine LSem.loop (n:=19) mix (α:=Nat) (fun i=>i≤l.length)
  (fun i=> [(0, .sl ρ 1 l.length (fl eInt l)),(1, .fn (.func 140) [] []),(7, .int .i64 l.length),(8, .int .i64 i)])
  (fun i=> []) (fun i=>l.length - i) 0 ?_ ?_ ?_
 ·exact Nat.zero_le _
 ·refine ⟨rfl,rfl, ?_, ?_⟩
  all_goals exact ent
 ·intro i hi
  have hj:((i:Int)).toNat=i:=by omega
  conv=>whnf
  refine ⟨trivial,fun hc=> ?_,fun hc=> ?_⟩
  ·replace hc:=of_decide_eq_true hc
   have hlt:i<l.length:=by omega
   have hm:l.getD i default∈l:=by
    rw [List.getD_eq_getElem?_getD,List.getElem?_eq_getElem hlt];exact List.getElem_mem hlt
   conv=>whnf
   refine ⟨_,fun _=>call140 (l.getD ((i:Int)).toNat default), ?_⟩
   rw [hj,hg _ hm]
   conv=>whnf
   refine ⟨?_,fun hc2=>(by cases hc2),fun hc2=> ?_⟩
   ·exact g0
   conv=>whnf
   refine ⟨?_,i+1,hlt, ?_,rfl,rfl, ?_, ?_⟩
   ·exact g0
   ·omega
   all_goals repeat' (first | exact True.intro | refine leF_cons rfl ?_ ?_ | refine leS_cons rfl ?_ ?_ | (show PLe _ _ _ _;conv=>whnf) | (show SLe _ _ _ _;conv=>whnf) | (show PLeL _ _ _ _;conv=>whnf) | apply And.intro | rfl | exact Nat.le_refl _ | exact fun _ _=>rfl | exact rowEq0 _ _)
   all_goals omega
  ·replace hc:=of_decide_eq_false hc
   conv=>whnf
   refine ⟨?_, [], ?_⟩
   ·exact g0
   conv=>whnf
   refine ⟨rfl, ?_,trivial,trivial⟩
   all_goals exact ent
theorem call54f (ρ:Nat) (l:List Int) (hn:l.length≤4611686018427387904) (hg:∀x∈l,wi x 1073741824=true):
  PureCall Tryz.prog 54 [.sl ρ 1 l.length (fl eInt l), .fn (.func 140) [] []] [] ⟨.bool false, [], []⟩:=by
 refine pure_call mix Tryz.func54 fits54 rfl ?_
 conv=>whnf
 refine ⟨_,fun _=>call122f _ l hn hg, ?_⟩
 conv=>whnf
 refine ⟨?_, [], ?_⟩
 ·exact g0
 conv=>whnf
 refine ⟨rfl, ?_,trivial,trivial⟩
 all_goals exact ent
theorem call73 (τ ρ:Nat) (l:List Cd) (day level:Int) (fs:List Int) (hn:fs.length≤4611686018427387904) (hl:limC l=0) (hd:wi day 364=true) (hv:wi level 16777216=true) (hg:∀x∈fs,wi x 1073741824=true):
  PureCall Tryz.prog 73 [.sl τ 7 l.length (fl eCd l), .int .i64 day, .int .i64 level, .sl ρ 1 fs.length (fl eInt fs)] [] ⟨.int .i64 0, [], []⟩:=by
 refine pure_call mix Tryz.func73 fits73 rfl ?_
 conv=>whnf
 refine ⟨_,fun _=>call62 _ l, ?_⟩
 conv=>whnf
 rw [hl]
 refine ⟨?_,fun hc=>(by cases hc),fun _=> ?_⟩
 ·exact g0
 conv=>whnf
 refine ⟨_,fun _=>call139 day, ?_⟩
 conv=>whnf
 refine ⟨_,fun _=>call56 level 16777216, ?_⟩
 conv=>whnf
 refine ⟨_,fun _=>call54f _ fs hn hg, ?_⟩
 conv=>whnf
 rw [hd,hv]
 refine ⟨?_,fun hc=>(by cases hc),fun _=> ?_⟩
 ·exact g0
 conv=>whnf
 refine ⟨?_, [], ?_⟩
 ·exact g0
 conv=>whnf
 refine ⟨rfl, ?_,trivial,trivial⟩
 all_goals exact ent
theorem call73n (τ:Nat) (l:List Cd) (day level:Int) (hl:limC l=0) (hd:wi day 364=true) (hv:wi level 16777216=true):
  PureCall Tryz.prog 73 [.sl τ 7 l.length (fl eCd l), .int .i64 day, .int .i64 level, .nil 1] [] ⟨.int .i64 0, [], []⟩:=by
 refine PureCall.arg_le (call73 τ 0 l day level [] (Nat.zero_le _) hl hd hv (fun x hx=>by cases hx)) rfl ?_
 exact ent
theorem call74 (l:List Cd) (day level:Int) (h20:l.length<20) (hl:limC l=0) (hd:wi day 364=true) (hv:wi level 16777216=true):
  PureCall Tryz.prog 74 [.sl 2 7 l.length (fl eCd l), .int .i64 day, .int .i64 level] [] ⟨.tup [.os 1000000000, .int .i64 0], [], [.row 1 3 1 (actF l day level).length (fl eInt (actF l day level))]⟩:=by
 refine pure_call mix Tryz.func74 fits74 rfl ?_
 conv=>whnf
 refine ⟨_,fun _=>call73n _ l day level hl hd hv, ?_⟩
 conv=>whnf
 refine ⟨?_,fun hc=>(by cases hc),fun _=> ?_⟩
 ·exact g0
 conv=>whnf
 refine ⟨_,fun _=>call142 l h20, ?_⟩
 conv=>whnf
 refine ⟨_,fun _=>call141 _ _ l (by omega) day level l.length (by omega) (ordF l) (ordF_in l), ?_⟩
 conv=>whnf
 refine ⟨?_, [272], ?_⟩
 ·exact g0
 conv=>whnf
 refine ⟨rfl, ?_,trivial, ?_⟩
 all_goals repeat' (first | exact True.intro | refine leF_cons rfl ?_ ?_ | refine leS_cons rfl ?_ ?_ | (show PLe _ _ _ _;conv=>whnf) | (show SLe _ _ _ _;conv=>whnf) | (show PLeL _ _ _ _;conv=>whnf) | apply And.intro | rfl | exact Nat.le_refl _ | exact fun _ _=>rfl | exact rowEq0 _ _)
 all_goals exact fun _ _=>rfl
def permF (c:Cd) (b:Int):Int×Int:=
 if c.k=1 then (c.v,1073741824) else if c.k=2 then (0,c.v) else if c.k=3 then (0,min (b+c.v) 1073741824) else (max (b - c.v) 0,1073741824)
theorem call145 (c:Cd) (b:Int) (hc:oneC c=0) (hb:wi b 1073741824=true):
  PureCall Tryz.prog 145 [.agg (eCd c), .int .i64 b] [] ⟨.agg [.int .i64 (permF c b).1, .int .i64 (permF c b).2], [], []⟩:=by
 obtain ⟨h1,h2,h3⟩:=oneC_ok hc
 have hb2:=(wi_iff _ _).1 hb
 unfold badC at h3
 obtain ⟨r,k,v,f,u,a,z⟩:=c
 dsimp only at h1 h2 h3
 have hk:k=1∨k=2∨k=3∨k=4:=by omega
 have hv:0≤v∧v≤1073741824:=by
  refine Decidable.byContradiction fun h=>h3 (.inl h)
 refine pure_call mix Tryz.func145 fits145 rfl ?_
 rcases hk with rfl | rfl | rfl | rfl
 ·rw [show permF ⟨r,1,v,f,u,a,z⟩ b=(v,1073741824) by simp [permF]]
  conv=>whnf
  refine ⟨?_,fun hc=>absurd hc (by decide),fun _=> ?_⟩
  ·exact g0
  conv=>whnf
  refine ⟨?_,fun hc=>absurd hc (by decide),fun _=> ?_⟩
  ·exact g0
  conv=>whnf
  refine ⟨?_,fun _=> ?_,fun hc=>absurd hc (by decide)⟩
  ·exact g0
  conv=>whnf
  refine ⟨?_, [], ?_⟩
  ·exact g0
  conv=>whnf
  refine ⟨rfl, ?_,trivial,trivial⟩
  all_goals exact ent
 ·rw [show permF ⟨r,2,v,f,u,a,z⟩ b=(0,v) by simp [permF]]
  conv=>whnf
  refine ⟨?_,fun hc=>absurd hc (by decide),fun _=> ?_⟩
  ·exact g0
  conv=>whnf
  refine ⟨?_,fun hc=>absurd hc (by decide),fun _=> ?_⟩
  ·exact g0
  conv=>whnf
  refine ⟨?_,fun hc=>absurd hc (by decide),fun _=> ?_⟩
  ·exact g0
  conv=>whnf
  refine ⟨?_, [], ?_⟩
  ·exact g0
  conv=>whnf
  refine ⟨rfl, ?_,trivial,trivial⟩
  all_goals exact ent
 ·rw [show permF ⟨r,3,v,f,u,a,z⟩ b=(0,min (b+v) 1073741824) by simp [permF]]
  conv=>whnf
  refine ⟨?_,fun hc=>absurd hc (by decide),fun _=> ?_⟩
  ·exact g0
  conv=>whnf
  refine ⟨?_,fun _=> ?_,fun hc=>absurd hc (by decide)⟩
  ·exact g0
  conv=>whnf
  refine ⟨?_, [], ?_⟩
  ·exact g0
  conv=>whnf
  refine ⟨rfl, ?_,trivial,trivial⟩
  all_goals repeat' (first | exact True.intro | refine leF_cons rfl ?_ ?_ | refine leS_cons rfl ?_ ?_ | (show PLe _ _ _ _;conv=>whnf) | (show SLe _ _ _ _;conv=>whnf) | (show PLeL _ _ _ _;conv=>whnf) | apply And.intro | rfl | exact Nat.le_refl _ | exact fun _ _=>rfl | exact rowEq0 _ _)
  all_goals (dsimp only;split<;>omega)
 ·rw [show permF ⟨r,4,v,f,u,a,z⟩ b=(max (b - v) 0,1073741824) by simp [permF]]
  conv=>whnf
  refine ⟨?_,fun _=> ?_,fun hc=>absurd hc (by decide)⟩
  ·exact g0
  conv=>whnf
  refine ⟨?_, [], ?_⟩
  ·exact g0
  conv=>whnf
  refine ⟨rfl, ?_,trivial,trivial⟩
  all_goals repeat' (first | exact True.intro | refine leF_cons rfl ?_ ?_ | refine leS_cons rfl ?_ ?_ | (show PLe _ _ _ _;conv=>whnf) | (show SLe _ _ _ _;conv=>whnf) | (show PLeL _ _ _ _;conv=>whnf) | apply And.intro | rfl | exact Nat.le_refl _ | exact fun _ _=>rfl | exact rowEq0 _ _)
  all_goals (dsimp only;split<;>omega)
theorem call79 (c:Cd) (b:Int) (hc:oneC c=0) (hb:wi b 1073741824=true):
  PureCall Tryz.prog 79 [.agg (eCd c), .int .i64 b] [] ⟨.tup [.agg [.int .i64 (permF c b).1, .int .i64 (permF c b).2], .bool true], [], []⟩:=by
 refine pure_call mix Tryz.func79 fits79 rfl ?_
 conv=>whnf
 refine ⟨_,fun _=>call70 c, ?_⟩
 conv=>whnf
 refine ⟨_,fun _=>call56 b 1073741824, ?_⟩
 conv=>whnf
 rw [hc,hb]
 refine ⟨?_,fun hc=>absurd hc (by decide),fun _=> ?_⟩
 ·exact g0
 conv=>whnf
 refine ⟨_,fun _=>call145 c b hc hb, ?_⟩
 conv=>whnf
 refine ⟨?_, [], ?_⟩
 ·exact g0
 conv=>whnf
 refine ⟨rfl, ?_,trivial,trivial⟩
 all_goals exact ent
def clampF (n lo hi:Int):Int:=max (min n hi) lo
theorem call138 (n lo hi:Int):PureCall Tryz.prog 138 [.int .i64 n, .agg [.int .i64 lo, .int .i64 hi]] [] ⟨.int .i64 (clampF n lo hi), [], []⟩:=by
 refine pure_call mix Tryz.func138 fits138 rfl ?_
 conv=>whnf
 refine ⟨?_, [], ?_⟩
 ·exact g0
 conv=>whnf
 refine ⟨rfl, ?_,trivial,trivial⟩
 all_goals repeat' (first | exact True.intro | refine leF_cons rfl ?_ ?_ | refine leS_cons rfl ?_ ?_ | (show PLe _ _ _ _;conv=>whnf) | (show SLe _ _ _ _;conv=>whnf) | (show PLeL _ _ _ _;conv=>whnf) | apply And.intro | rfl | exact Nat.le_refl _ | exact fun _ _=>rfl | exact rowEq0 _ _)
 unfold clampF
 repeat' split
 all_goals omega
theorem rowL4 (a b c d:Int):RowEq 4 (fun i=> [[PV.int .i64 a], [PV.int .i64 b], [PV.int .i64 c], [PV.int .i64 d]].getD i []) (fl eInt [a,b,c,d]):=fun i hi=>by
 match i,hi with
 | 0,_=>rfl
 | 1,_=>rfl
 | 2,_=>rfl
 | 3,_=>rfl
theorem call71 (τ:Nat) (l:List Cd) (day level before lo hi wanted:Int) (hl:limC l=0) (hd:wi day 364=true) (hv:wi level 16777216=true) (h1:wi before 1073741824=true) (h2:wi lo 1073741824=true) (h3:wi hi 1073741824=true) (h4:wi wanted 1073741824=true) (h5:lo≤hi):
  PureCall Tryz.prog 71 [.sl τ 7 l.length (fl eCd l), .int .i64 day, .int .i64 level, .int .i64 before, .agg [.int .i64 lo, .int .i64 hi], .int .i64 wanted] [] ⟨.int .i64 0, [], []⟩:=by
 refine pure_call mix Tryz.func71 fits71 rfl ?_
 conv=>whnf
 have hall:∀x∈ [before,wanted,lo,hi],wi x 1073741824=true:=fun x hx=>by
  simp only [List.mem_cons,List.not_mem_nil,or_false] at hx
  rcases hx with rfl | rfl | rfl | rfl<;>assumption
 refine ⟨_,fun _=>PureCall.arg_le (call73 (lendT τ) 2 l day level [before,wanted,lo,hi] (by simp) hl hd hv hall) rfl ?_, ?_⟩
 ·have hr:=rowL4 before wanted lo hi
  exact ent
 conv=>whnf
 refine ⟨?_,fun hc=>absurd hc (by decide),fun _=> ?_⟩
 ·exact g0
 conv=>whnf
 refine ⟨?_,fun hc=> ?_,fun _=> ?_⟩
 ·exact g0
 ·simp only [bp] at hc;omega
 conv=>whnf
 refine ⟨?_, [], ?_⟩
 ·exact g0
 conv=>whnf
 refine ⟨rfl, ?_,trivial,trivial⟩
 all_goals exact ent
def c72L1:C:=(sr [kk 42 (.bi false .lss 41 40)] (.seq (.cond 42 .skip (.exit 0)) (.seq (.block 1 (sr [kk 43 (.ia 1 39 41),kk 44 (.ld 1 false 43),km 20 44] (sr [km 46 0,km 47 20,kk 48 (.ia 7 46 47),kk 49 (.ld 7 true 48),km 50 3,kk 51 (cl 79 [49,50]),km 45 51,kk 52 (.ex 45 0),kk 53 (.ex 45 1),kk 21 (.al [(.int .i64 0),(.int .i64 0)]),kz (.st 2 21 52),km 22 53] (.seq (.block 2 (sr [kk 55 (.fa 1 21),kk 56 (.ld 1 false 55),kk 57 (.fa 0 13),kk 58 (.ld 1 false 57),kk 59 (.bi false .lss 56 58),km 54 59] (.cond 54 (sr [km 60 15,km 61 20,kk 62 (.fa 1 13),kk 63 (.ld 1 false 62),kk 64 (.bd [(.int .i64 0),(.int .i64 0)] [(0,1,61),(1,1,63)]),kk 65 (.bs 85 2 [64]),kk 66 (.app 85 2 16 60 65),km 15 66] (.exit 1)) (sr [kk 68 (.fa 0 21),kk 69 (.ld 1 false 68),kk 70 (.fa 0 14),kk 71 (.ld 1 false 70),kk 72 (.bi false .gtr 69 71),km 67 72] (.cond 67 (sr [km 73 16,km 74 73,kg 75 74 false (.mv 15),kg 76 74 false (.len 75),kg 77 74 false (.bi false .eql 76 (cn 0)),kk 78 (.pick 74 (.c (.bool true)) 77),km 16 78] (sr [km 79 15,km 80 20,kk 81 (.fa 1 14),kk 82 (.ld 1 false 81),kk 83 (.bd [(.int .i64 0),(.int .i64 0)] [(0,1,80),(1,1,82)]),kk 84 (.bs 85 2 [83]),kk 85 (.app 85 2 16 79 84),km 15 85] (.exit 1))) .skip))))) (.seq (sr [kk 86 (.fa 0 21),kk 87 (.ld 1 false 86),kk 88 (.fa 0 13),kk 89 (.ld 1 false 88),kk 90 (.mx [87,89]),km 91 20,kk 92 (.bd [(.int .i64 0),(.int .i64 0)] [(0,1,90),(1,1,91)]),kk 23 (.al [(.int .i64 0),(.int .i64 0)]),kz (.st 2 23 92)] (sr [kk 93 (.ld 2 true 23),kk 94 (.fa 0 13),kk 95 (.ld 1 false 94),km 96 20,kk 97 (.bd [(.int .i64 0),(.int .i64 0)] [(0,1,95),(1,1,96)]),kk 98 (.eqa true [0,0] 93 97)] (.cond 98 (.reg [kk 99 (.ld 2 true 23),kz (.st 2 13 99)]) .skip))) (sr [kk 100 (.fa 1 21),kk 101 (.ld 1 false 100),kk 102 (.fa 0 14),kk 103 (.ld 1 false 102),kk 104 (.mn [101,103]),km 105 20,kk 106 (.bd [(.int .i64 0),(.int .i64 0)] [(0,1,104),(1,1,105)]),kk 24 (.al [(.int .i64 0),(.int .i64 0)]),kz (.st 2 24 106)] (sr [kk 107 (.ld 2 true 24),kk 108 (.fa 0 14),kk 109 (.ld 1 false 108),km 110 20,kk 111 (.bd [(.int .i64 0),(.int .i64 0)] [(0,1,109),(1,1,110)]),kk 112 (.eqa true [0,0] 107 111)] (.cond 112 (.reg [kk 113 (.ld 2 true 24),kz (.st 2 14 113)]) .skip)))))))) (.reg [kk 114 (.bi false .add 41 (cn 1)),km 41 114]))))
def c72:C:=(sr [kk 10 (.bx 2 4),kk 12 (.al [(.int .i64 0),(.int .i64 0),(.int .i64 0),(.nil 2)])] (.seq (.drw [kk 26 (.fa 0 10),kk 27 (.ld 1 false 26),kk 28 (.bd [(.int .i64 0),(.int .i64 0)] [(0,1,27),(1,1,(cn (-1)))]),kk 29 (.fa 1 10),kk 30 (.ld 1 false 29),kk 31 (.bd [(.int .i64 0),(.int .i64 0)] [(0,1,30),(1,1,(cn (-1)))]),kk 13 (.al [(.int .i64 0),(.int .i64 0)]),kk 14 (.al [(.int .i64 0),(.int .i64 0)]),kz (.st 2 13 28),kz (.st 2 14 31)] (pl [(0,[3,4,5,6,7],26),(1,[3,4,5,6,7],27),(2,[3,4,5,6,7],28),(3,[6,7,8],29),(4,[6,7,8],30),(5,[6,7,8],31),(6,[7],13)])) (sr [kk 15 (.mv (.c (.nil 2)))] (sr [kk 16 (.mv (.c (.bool false)))] (sr [km 33 0,km 34 1,km 35 2,kk 36 (cl 74 [33,34,35]),km 32 36,kk 37 (.ex 32 0),kk 38 (.ex 32 1),km 17 37,km 18 38] (.seq (sr [km 39 17,kk 40 (.len 39),kk 41 (.mv (cn 0))] (.block 0 (.loop c72L1))) (sr [kk 115 (.fa 0 13),kk 116 (.ld 1 false 115),kk 117 (.fa 0 14),kk 118 (.ld 1 false 117),kk 119 (.bd [(.int .i64 0),(.int .i64 0)] [(0,1,116),(1,1,118)]),km 120 15,kk 121 (.bd [(.int .i64 0),(.int .i64 0),(.int .i64 0),(.nil 2)] [(1,2,119),(3,1,120)]),kk 25 (.al [(.int .i64 0),(.int .i64 0),(.int .i64 0),(.nil 2)]),kz (.st 4 25 121)] (.seq (.block 3 (sr [km 127 15,kk 128 (.len 127),kk 129 (.bi false .eql 128 (cn 0)),km 126 129] (.cond 126 (.reg [km 130 5,kk 131 (.fa 1 25),kk 132 (.ld 2 true 131),kk 133 (cl 138 [130,132]),kk 134 (.fa 0 25),kz (.st 1 134 133)]) (sr [km 136 16,km 135 136] (.cond 135 (.reg [kk 137 (.fa 1 25),kk 138 (.fa 1 137),kk 139 (.ld 1 false 138),kk 140 (.fa 0 25),kz (.st 1 140 139)]) (.reg [kk 122 (.fa 1 25),kk 123 (.fa 0 122),kk 124 (.ld 1 false 123),kk 125 (.fa 0 25),kz (.st 1 125 124)])))))) (sr [kk 141 (.ld 4 true 25),kz (.st 4 12 141)] .ret)))))))))
theorem fits72:fits Tryz.prog false Tryz.f72 6 142 [(12,some (4,true))]=some c72.er:=by kernel_rfl
def c22:C:=(sr [kk 10 (.bx 2 4),kk 12 (.al [(.int .i64 0),(.int .i64 0),(.int .i64 0),(.nil 2)]),kk 13 (.mv (cn 0))] (.seq (sr [km 15 0,km 16 1,km 17 2,km 18 3,kk 19 (.ld 2 true 10),km 20 5,kk 21 (cl 71 [15,16,17,18,19,20]),km 14 21] (sr [km 22 14,kk 23 (.bi false .neq 22 (cn 0))] (.cond 23 (sr [kk 24 (.bd [(.int .i64 0),(.int .i64 0),(.int .i64 0),(.nil 2)] []),km 25 14,kz (.st 4 12 24),km 13 25] .ret) .skip))) (sr [km 26 0,km 27 1,km 28 2,km 29 3,kk 30 (.ld 2 true 10),km 31 5,kk 32 (cl 72 [26,27,28,29,30,31]),kz (.st 4 12 32),kk 13 (.mv (cn 0))] .ret)))
theorem fits22:fits Tryz.prog false Tryz.f22 6 33 [(12,some (4,true)),(13,none)]=some c22.er:=by kernel_rfl
structure Cho where
 lo:Int
 lb:Int
 hi:Int
 hb:Int
 up:Bool
 ys:List (Int×Int)
def eYd (y:Int×Int):List PV:= [.int .i64 y.1, .int .i64 y.2]
def choS (l:List Cd) (b:Int) (s:Cho) (i:Int):Cho:=
 if (permF (l.getD i.toNat default) b).2<s.lo then { s with ys:=s.ys++ [(i,s.lb)] }
 else if s.hi<(permF (l.getD i.toNat default) b).1 then { s with up:=(bif s.up then true else decide ((s.ys.length:Int)=0)),ys:=s.ys++ [(i,s.hb)] }
 else { lo:=if s.lo<(permF (l.getD i.toNat default) b).1 then (permF (l.getD i.toNat default) b).1 else s.lo,lb:=if s.lo<(permF (l.getD i.toNat default) b).1 then i else s.lb,
        hi:=if (permF (l.getD i.toNat default) b).2<s.hi then (permF (l.getD i.toNat default) b).2 else s.hi,hb:=if (permF (l.getD i.toNat default) b).2<s.hi then i else s.hb,up:=s.up,ys:=s.ys }
def choN (l:List Cd) (b lo hi:Int) (act:List Int):Nat→Cho
 | 0=>⟨lo, -1,hi, -1,false, []⟩
 | n+1=>choS l b (choN l b lo hi act n) (act.getD n default)
def choL (l:List Cd) (day level b lo hi:Int):Cho:=choN l b lo hi (actF l day level) (actF l day level).length
def relF (s:Cho) (wanted:Int):Int:=if s.ys.length=0 then clampF wanted s.lo s.hi else if s.up=true then s.hi else s.lo
theorem call72 (l:List Cd) (day level before lo hi wanted:Int) (h20:l.length<20) (hl:limC l=0) (hd:wi day 364=true) (hv:wi level 16777216=true) (h1:wi before 1073741824=true):
  PureCall Tryz.prog 72 [.sl 2 7 l.length (fl eCd l), .int .i64 day, .int .i64 level, .int .i64 before, .agg [.int .i64 lo, .int .i64 hi], .int .i64 wanted] []
   ⟨.agg [.int .i64 (relF (choL l day level before lo hi) wanted), .int .i64 (choL l day level before lo hi).lo, .int .i64 (choL l day level before lo hi).hi, .sl 0 2 (choL l day level before lo hi).ys.length (fl eYd (choL l day level before lo hi).ys)], [], []⟩:=by
 refine pure_call mix Tryz.func72 fits72 rfl ?_
 conv=>whnf
 refine ⟨rfl, ?_⟩
 conv=>whnf
 refine ⟨_,fun _=>call74 l day level h20 hl hd hv, ?_⟩
 conv=>whnf
 refine ⟨?_, ?_⟩
 ·exact g0
 refine LSem.adopt 15 1000000 85 2 2 rfl rfl ?_
 obtain ⟨act,hact⟩:∃act,act=actF l day level:=⟨_,rfl⟩
 have hain:∀k,k<act.length→(0≤act.getD k default∧act.getD k default<l.length)∧oneC (l.getD (act.getD k default).toNat default)=0:=fun k hk=>by
  have hm:act.getD k default∈act:=by
   rw [List.getD_eq_getElem?_getD,List.getElem?_eq_getElem hk];exact List.getElem_mem hk
  rw [hact] at hm
  obtain ⟨j,hj,hx,hp⟩:=keepN_mem _ _ hm
  rw [←hact] at hx hp
  refine ⟨by rw [hx];exact ordF_in l j hj, ?_⟩
  unfold goneB applB at hp
  refine Decidable.byContradiction fun hne=> ?_
  rw [decide_eq_false hne] at hp
  simp at hp
 have hal:act.length≤l.length:=by rw [hact];exact keepN_len _
 have hcho:choL l day level before lo hi=choN l before lo hi act act.length:=by rw [hact];rfl
 rw [hcho,←hact]
 clear hcho hact
 refine LSem.loop (n:=142) mix (α:=Nat) (fun i=>i≤act.length∧(choN l before lo hi act i).ys.length≤i)
  (fun i=> [(0, .sl 2 7 l.length (fl eCd l)),(3, .int .i64 before),(5, .int .i64 wanted),(12, .pt 192 0 0),(13, .pt 208 0 0),(14, .pt 224 0 0),(15, .os 1000000),(16, .bool (choN l before lo hi act i).up),(39, .os 576),(40, .int .i64 act.length),(41, .int .i64 i)])
  (fun i=> [(192, .box [.int .i64 0, .int .i64 0, .int .i64 0, .nil 2]),(208, .box [.int .i64 (choN l before lo hi act i).lo, .int .i64 (choN l before lo hi act i).lb]),(224, .box [.int .i64 (choN l before lo hi act i).hi, .int .i64 (choN l before lo hi act i).hb]),
   (576, .row 1 3 1 act.length (fl eInt act)),(1000000, .row 0 85 2 (choN l before lo hi act i).ys.length (fl eYd (choN l before lo hi act i).ys))]) (fun i=>act.length - i) 0 ?_ ?_ ?_
 ·exact ⟨Nat.zero_le _,Nat.le_refl _⟩
 ·refine ⟨rfl,rfl, ?_, ?_⟩
  all_goals exact ent
 ·rintro i ⟨hile,hys⟩
  have hj:((i:Int)).toNat=i:=by omega
  conv=>whnf
  refine ⟨trivial,fun hc=> ?_,fun hc=> ?_⟩
  ·replace hc:=of_decide_eq_true hc
   have hlt:i<act.length:=by omega
   obtain ⟨⟨ha1,ha2⟩,hone⟩:=hain i hlt
   have hst:choN l before lo hi act (i+1)=choS l before (choN l before lo hi act i) (act.getD i default):=rfl
   obtain ⟨s,hs⟩:∃s,s=choN l before lo hi act i:=⟨_,rfl⟩
   obtain ⟨a,haa⟩:∃a,a=act.getD i default:=⟨_,rfl⟩
   rw [←hs,←haa] at hst
   conv=>whnf
   refine ⟨_,fun _=>call79 (l.getD (act.getD ((i:Int)).toNat default).toNat default) before (by rw [hj];exact hone) h1, ?_⟩
   rw [hj,←hs,←haa]
   rw [←hs] at hys
   obtain ⟨pl,hpl⟩:∃x,x=(permF (l.getD a.toNat default) before).1:=⟨_,rfl⟩
   obtain ⟨pm,hpm⟩:∃x,x=(permF (l.getD a.toNat default) before).2:=⟨_,rfl⟩
   unfold choS at hst
   rw [←hpl,←hpm] at hst⊢
   conv=>whnf
   refine ⟨?_,fun hA=> ?_,fun hA=> ?_⟩
   ·exact g0
   ·replace hA:=of_decide_eq_true hA
    rw [if_pos hA] at hst
    conv=>whnf
    refine ⟨?_,i+1,⟨hlt, ?_⟩, ?_,rfl,rfl, ?_, ?_⟩
    ·exact g0
    ·rw [hst];simp;exact hys
    ·omega
    all_goals repeat' (first | exact True.intro | refine leF_cons rfl ?_ ?_ | refine leS_cons rfl ?_ ?_ | (show PLe _ _ _ _;conv=>whnf) | (show SLe _ _ _ _;conv=>whnf) | (show PLeL _ _ _ _;conv=>whnf) | apply And.intro | rfl | exact Nat.le_refl _ | exact fun _ _=>rfl | exact rowEq0 _ _)
    all_goals first | (rw [hst];done) | (rw [hst];simp;done) | (rw [hst];exact fl_push eYd s.ys (a,s.lb)) | skip
   ·replace hA:=of_decide_eq_false hA
    rw [if_neg hA] at hst
    conv=>whnf
    refine ⟨?_,fun hB=> ?_,fun hB=> ?_⟩
    ·exact g0
    ·replace hB:=of_decide_eq_true hB
     rw [if_pos hB] at hst
     conv=>whnf
     refine ⟨?_,i+1,⟨hlt, ?_⟩, ?_,rfl,rfl, ?_, ?_⟩
     ·exact g0
     ·rw [hst];simp;exact hys
     ·omega
     all_goals repeat' (first | exact True.intro | refine leF_cons rfl ?_ ?_ | refine leS_cons rfl ?_ ?_ | (show PLe _ _ _ _;conv=>whnf) | (show SLe _ _ _ _;conv=>whnf) | (show PLeL _ _ _ _;conv=>whnf) | apply And.intro | rfl | exact Nat.le_refl _ | exact fun _ _=>rfl | exact rowEq0 _ _)
     all_goals first | (rw [hst];done) | (rw [hst];simp;done) | (rw [hst];exact fl_push eYd s.ys (a,s.hb)) | (rw [hst];rfl) | skip
    ·replace hB:=of_decide_eq_false hB
     rw [if_neg hB] at hst
     conv=>whnf
     refine ⟨?_,fun hC=> ?_,fun hC=> ?_⟩
     ·exact g0
     ·have hC':s.lo<pl:=by
        simp at hC
        omega
      conv=>whnf
      refine ⟨?_,fun hD=> ?_,fun hD=> ?_⟩
      ·exact g0
      ·have hD':pm<s.hi:=by
         simp at hD
         omega
       conv=>whnf
       refine ⟨?_,i+1,⟨hlt, ?_⟩, ?_,rfl,rfl, ?_, ?_⟩
       ·exact g0
       ·rw [hst];dsimp only;omega
       ·omega
       all_goals repeat' (first | exact True.intro | refine leF_cons rfl ?_ ?_ | refine leS_cons rfl ?_ ?_ | (show PLe _ _ _ _;conv=>whnf) | (show SLe _ _ _ _;conv=>whnf) | (show PLeL _ _ _ _;conv=>whnf) | apply And.intro | rfl | exact Nat.le_refl _ | exact fun _ _=>rfl | exact rowEq0 _ _)
       all_goals first | (rw [hst];done) | (rw [hst];exact fun _ _=>rfl) | (rw [hst];dsimp only;(repeat' split)<;>omega) | skip
      ·have hD':¬pm<s.hi:=by
         simp at hD
         omega
       conv=>whnf
       refine ⟨?_,i+1,⟨hlt, ?_⟩, ?_,rfl,rfl, ?_, ?_⟩
       ·exact g0
       ·rw [hst];dsimp only;omega
       ·omega
       all_goals repeat' (first | exact True.intro | refine leF_cons rfl ?_ ?_ | refine leS_cons rfl ?_ ?_ | (show PLe _ _ _ _;conv=>whnf) | (show SLe _ _ _ _;conv=>whnf) | (show PLeL _ _ _ _;conv=>whnf) | apply And.intro | rfl | exact Nat.le_refl _ | exact fun _ _=>rfl | exact rowEq0 _ _)
       all_goals first | (rw [hst];done) | (rw [hst];exact fun _ _=>rfl) | (rw [hst];dsimp only;(repeat' split)<;>omega) | skip
     ·have hC':¬s.lo<pl:=by
        simp at hC
        omega
      conv=>whnf
      refine ⟨?_,fun hD=> ?_,fun hD=> ?_⟩
      ·exact g0
      ·have hD':pm<s.hi:=by
         simp at hD
         omega
       conv=>whnf
       refine ⟨?_,i+1,⟨hlt, ?_⟩, ?_,rfl,rfl, ?_, ?_⟩
       ·exact g0
       ·rw [hst];dsimp only;omega
       ·omega
       all_goals repeat' (first | exact True.intro | refine leF_cons rfl ?_ ?_ | refine leS_cons rfl ?_ ?_ | (show PLe _ _ _ _;conv=>whnf) | (show SLe _ _ _ _;conv=>whnf) | (show PLeL _ _ _ _;conv=>whnf) | apply And.intro | rfl | exact Nat.le_refl _ | exact fun _ _=>rfl | exact rowEq0 _ _)
       all_goals first | (rw [hst];done) | (rw [hst];exact fun _ _=>rfl) | (rw [hst];dsimp only;(repeat' split)<;>omega) | skip
      ·have hD':¬pm<s.hi:=by
         simp at hD
         omega
       conv=>whnf
       refine ⟨?_,i+1,⟨hlt, ?_⟩, ?_,rfl,rfl, ?_, ?_⟩
       ·exact g0
       ·rw [hst];dsimp only;omega
       ·omega
       all_goals repeat' (first | exact True.intro | refine leF_cons rfl ?_ ?_ | refine leS_cons rfl ?_ ?_ | (show PLe _ _ _ _;conv=>whnf) | (show SLe _ _ _ _;conv=>whnf) | (show PLeL _ _ _ _;conv=>whnf) | apply And.intro | rfl | exact Nat.le_refl _ | exact fun _ _=>rfl | exact rowEq0 _ _)
       all_goals first | (rw [hst];done) | (rw [hst];exact fun _ _=>rfl) | (rw [hst];dsimp only;(repeat' split)<;>omega) | skip
  ·replace hc:=of_decide_eq_false hc
   have:i=act.length:=by omega
   subst this
   obtain ⟨s,hs⟩:∃s,s=choN l before lo hi act act.length:=⟨_,rfl⟩
   rw [←hs] at hys⊢
   conv=>whnf
   refine ⟨trivial,fun hE=> ?_,fun hE=> ?_⟩
   ·simp only [bp] at hE
    rw [show relF s wanted=clampF wanted s.lo s.hi from if_pos (by omega)]
    conv=>whnf
    refine ⟨_,fun _=>call138 wanted s.lo s.hi, ?_⟩
    conv=>whnf
    refine ⟨?_, [], ?_⟩
    ·exact g0
    conv=>whnf
    refine ⟨rfl, ?_,trivial,trivial⟩
    all_goals exact ent
   ·simp only [bp] at hE
    have h0:relF s wanted=if s.up=true then s.hi else s.lo:=if_neg (by omega)
    rw [h0]
    conv=>whnf
    refine ⟨trivial,fun hF=> ?_,fun hF=> ?_⟩
    ·rw [if_pos hF]
     conv=>whnf
     refine ⟨?_, [], ?_⟩
     ·exact g0
     conv=>whnf
     refine ⟨rfl, ?_,trivial,trivial⟩
     all_goals exact ent
    ·rw [if_neg (by rw [hF];decide)]
     conv=>whnf
     refine ⟨?_, [], ?_⟩
     ·exact g0
     conv=>whnf
     refine ⟨rfl, ?_,trivial,trivial⟩
     all_goals exact ent
theorem call22 (l:List Cd) (day level before lo hi wanted:Int) (h20:l.length<20) (hl:limC l=0) (hd:wi day 364=true) (hv:wi level 16777216=true) (h1:wi before 1073741824=true) (h2:wi lo 1073741824=true) (h3:wi hi 1073741824=true) (h4:wi wanted 1073741824=true) (h5:lo≤hi):
  PureCall Tryz.prog 22 [.sl 2 7 l.length (fl eCd l), .int .i64 day, .int .i64 level, .int .i64 before, .agg [.int .i64 lo, .int .i64 hi], .int .i64 wanted] []
   ⟨.tup [.agg [.int .i64 (relF (choL l day level before lo hi) wanted), .int .i64 (choL l day level before lo hi).lo, .int .i64 (choL l day level before lo hi).hi, .sl 0 2 (choL l day level before lo hi).ys.length (fl eYd (choL l day level before lo hi).ys)], .int .i64 0], [], []⟩:=by
 refine pure_call mix Tryz.func22 fits22 rfl ?_
 conv=>whnf
 refine ⟨_,fun _=>call71 2 l day level before lo hi wanted hl hd hv h1 h2 h3 h4 h5, ?_⟩
 conv=>whnf
 refine ⟨?_,fun hc=>absurd hc (by decide),fun _=> ?_⟩
 ·exact g0
 conv=>whnf
 refine ⟨_,fun _=>call72 l day level before lo hi wanted h20 hl hd hv h1, ?_⟩
 conv=>whnf
 refine ⟨?_, [], ?_⟩
 ·exact g0
 conv=>whnf
 refine ⟨rfl, ?_,trivial,trivial⟩
 all_goals exact ent
open Go.RowKit
theorem keeps_below {w w':World} (hb:Below w.heap.size w w'):Keeps (fun _=>False) w w':=
 ⟨hb.os,hb.tape,hb.output,hb.size,fun b hlt _=>hb.block b hlt⟩
theorem keeps_bytes (w:World) (e:TypeId) (t:ByteArray):Keeps (fun _=>False) w (Lib.bytesWorld w e t):=
 ⟨rfl,rfl,rfl,by simp [Lib.bytesWorld,World.freeze,World.alloc],fun b hb _=>by
  have hne:¬w.heap.size=b:=Nat.ne_of_gt hb
  have hd:w.drew.heap=w.heap:=rfl
  simp only [Lib.bytesWorld,World.freeze,World.alloc]
  rw [if_neg (by decide)]
  show (Array.modify _ _ _)[b]? =_
  rw [Array.getElem?_modify,if_neg hne]
  show (w.heap.push _)[b]? =w.heap[b]?
  rw [Array.getElem?_push,if_neg (Nat.ne_of_lt hb)]⟩
theorem call193 (s:List UInt8) (h:s.length≤9223372036854775807):PureCall Tryz.prog 193 [.str s, .str digT] [] ⟨.str (Lib.trimS s digT), [], []⟩:=
 pure_still ⟨_,Tryz.func193,rfl,rfl⟩ (args_str2 s digT) (fun _ _ _=> .str _) fun w hg=>
  (Any.strings_Trim_laid Sh.lays160 (by kernel_rfl) ⟨s.toArray⟩ ⟨digT.toArray⟩ w (by show s.toArray.size≤_;rw [List.size_toArray];exact h) (by decide) (ascii_of_all (by decide))).mono fun ev w' ⟨he,hb⟩=>⟨he,keeps_below hb⟩
theorem call194 (s:List UInt8) (n:Int) (h:numF s=some n):PureCall Tryz.prog 194 [.str s] [] ⟨.tup [.int .i64 n, .raw .nilIface], [], []⟩:=
 pure_still ⟨_,Tryz.func194,rfl,rfl⟩ (args_str s) (rep_tup1 n) fun w hg=>
  (Sh.strconv_Atoi ⟨s.toArray⟩ n (by
   show s.toArray.size≤18
   rw [List.size_toArray]
   unfold numF at h
   split at h
   ·cases h
   ·omega) (num_atoi h).1 w).mono fun ev w' ⟨he,t,hw⟩=>⟨he,by rw [hw];exact keeps_bytes w 5 t⟩
end Pv
end Go.Proofs.YtdcgnfkkklbckaaGreatDoor
