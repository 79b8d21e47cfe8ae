/- LAW ReportPlans: the row and its card: the law returns true for every input, and the input reads as before; the listed tables read as the program's text lays them. -/
import Derived.Test.YtaleokjjkjngkaaGreatDoorZaj
import Derived.Shelf.Strings.BuilderK
import Derived.Shelf.Strings.Split
import Derived.Shelf.Strings.Cut
import Derived.Test.YtaleokjjkjngkaaGreatDoorRows
import Derived.Shelf.Strconv.Itoa3
import Derived.Lib.ItoaLen
import Derived.Test.YtaleokjjkjngkaaGreatDoorZaf
import Derived.Test.YtaleokjjkjngkaaGreatDoorTie
import Derived.Test.YtaleokjjkjngkaaGreatDoorZag
import Derived.WalkKit
import Derived.ProofKit
import Derived.OpenShut
import Derived.ShutString
import Derived.ChangeOld
import Derived.Below
import Derived.LaidMore
import Derived.Lay
import Derived.LaidSub
import Derived.SevenTiedAt
import Derived.Shelf.Vars
import Derived.MakeChecks
import Derived.Test.YtaleokjjkjngkaaGreatDoorCards
set_option linter.unusedSimpArgs false
set_option linter.unusedVariables false
set_option maxRecDepth 100000
set_option maxHeartbeats 16000000
namespace Go.Proofs.YtaleokjjkjngkaaGreatDoor
namespace Pv
open Go.Shelf Go.RowKit
variable {P:Program} {ρ:Ren}
structure Held (T e:TypeId) (b:Nat) (p v:Value) (s:List UInt8) (w:World):Prop where
 cells:w.heap[b]? =some (.cells #[p,v] T (0,0))
 own:w.ownsRowF 0 e 1 v s.length (bytesV s)
 ne:v.ownBlock≠some b
def self (b:Nat):Value:= .pointer (some ⟨b,0,none⟩)
theorem bytesV_length (s:List UInt8):(bytesV s).length=s.length:=by simp [bytesV]
theorem strCells_bytes (s:List UInt8):Lib.strCells ⟨s.toArray⟩=bytesV s:=by simp [Lib.strCells,bytesV]
theorem Held.at_ {T e:TypeId} {b:Nat} {p v:Value} {s:List UInt8} {w:World} (h:Held T e b p v s w):Lib.BuilderAtF T e 0 b p (bytesV s) w:=
 ⟨Nat.zero_le _,v,h.cells,by rw [bytesV_length];exact h.own,h.ne⟩
theorem Held.lt {T e:TypeId} {b:Nat} {p v:Value} {s:List UInt8} {w:World} (h:Held T e b p v s w):b<w.heap.size:=(Array.getElem?_eq_some_iff.1 h.cells).1
theorem held_check (L:Lays.n240 P ρ) (X:Builder.X72 P ρ) {b:Nat} {p v:Value} {s:List UInt8} {w:World} (hp:p= .pointer none∨p=self b) (h:Held (ρ.t 72) (ρ.t 5) b p v s w):
  Calls P (ρ.f 240) #[.pointer (some ⟨b,0,none⟩)] w fun e w'=>e= .returned (.tuple #[])∧Held (ρ.t 72) (ρ.t 5) b (self b) v s w'∧Keeps (· =b) w w':=by
 rcases hp with rfl | rfl
 ·refine (Any.Builder_copyCheck_fresh L X b w h.at_.cell0 h.at_.shape ?_).mono ?_
  ·simp [World.frozen?,h.cells]
  ·rintro e w' ⟨rfl,rfl⟩
   have hk:Keeps (· =b) w (w.setCell ⟨b,0,none⟩ (.pointer (some ⟨b,0,none⟩))):=
    ⟨rfl,rfl,rfl,by simp [World.setCell],fun k _ hk=>Below.heap_setCell _ _ _ _ (fun e=>hk (by simp [e]))⟩
   refine ⟨rfl,⟨?_, ?_,h.ne⟩,hk⟩
   ·simp [World.setCell,Array.getElem?_modify,h.cells,self]
   ·exact h.own.kept (row:=some b) ⟨rfl,rfl,rfl,by simp [World.setCell],fun k _ hk=>Below.heap_setCell _ _ _ _ (fun e=>hk (by simp [e]))⟩ (.inr h.ne)
 ·refine (Any.Builder_copyCheck_used L X b w h.at_.cell0).mono ?_
  rintro e w' ⟨rfl,rfl⟩
  exact ⟨rfl,h,Keeps.refl _ _⟩
theorem held_put {T e:TypeId} {b:Nat} {v v':Value} {s s':List UInt8} {w w1 w2:World} (h1:Held T e b (self b) v s w1) (hk:Keeps (· =b) w w1) (hg:w1.grownBy w2 v.ownBlock) (hTe:T≠e)
  (ho:w2.ownsRowF 0 e 1 v' s'.length (bytesV s')):
  Held T e b (self b) v' s' (w2.setCell ⟨b,1,none⟩ v')∧Keeps (fun k=>k=b∨v.ownBlock=some k) w (w2.setCell ⟨b,1,none⟩ v'):=by
 have hb2:w2.heap[b]? =some (.cells #[self b,v] T (0,0)):=by
  rw [hg.block b h1.lt (fun e=>h1.ne e.symm)];exact h1.cells
 have hput:Lib.BuilderAtF T e 0 b (self b) (bytesV s') (w2.setCell ⟨b,1,none⟩ v'):=
  Lib.BuilderAtF.put (Nat.zero_le _) hb2 (by rw [bytesV_length];exact ho) hTe
 obtain ⟨_,u,q1,q2,q3⟩:=hput
 have hu:u=v':=by
  have:(w2.setCell ⟨b,1,none⟩ v').heap[b]? =some (.cells #[self b,v'] T (0,0)):=by simp [World.setCell,Array.getElem?_modify,hb2]
  rw [q1] at this
  simp only [Option.some.injEq,Obj.cells.injEq] at this
  have h:=congrArg (·[1]?) this.1
  simpa using h
 subst hu
 refine ⟨⟨q1,by rw [bytesV_length] at q2;exact q2,q3⟩, ?_⟩
 have hs2:(w2.setCell ⟨b,1,none⟩ u).heap.size=w2.heap.size:=by simp [World.setCell]
 refine ⟨hg.os.trans hk.os,hg.tape.trans hk.tape,hg.output.trans hk.output,by rw [hs2];exact Nat.le_trans hk.size hg.size,fun k hlt hn=> ?_⟩
 have h2:(w2.setCell ⟨b,1,none⟩ u).heap[k]? =w2.heap[k]? :=Below.heap_setCell _ _ _ _ (fun e=>hn (.inl (by simpa using e)))
 rw [h2,hg.block k (Nat.lt_of_lt_of_le hlt hk.size) (fun e=>hn (.inr e.symm))]
 exact hk.block k hlt (fun e=>hn (.inl e))
theorem run_app_str (w:World) (t u ty e:TypeId) (i:TypeInfo) (ht:P.underlying t=some (.slice e)) (hu:P.underlying u=some .string) (hi:P.info? e=some i) (hz:i.zero=some (.int .u8 0)) (hsize:i.size=1) (hby:i.bytes=1)
  (v:Value) (n:Nat) (xs:List Value) (hown:w.ownsRowF 0 e 1 v n xs) (s:ByteArray) (h63:n+s.size≤maxLen) (hbytes:n+s.size≤140737488355328):
  ∃v' w',(Builtin.append_ #[t,u] ty #[v, .string s]).run P w= .ok v' w'∧w'.ownsRowF 0 e 1 v' (n+s.size) (xs++Lib.strCells s)∧w.grownBy w' v.ownBlock∧(∀g,v'.ownBlock=some g→v.ownBlock=some g∨w.heap.size≤g):=by
 have hown0:=hown
 rcases hown.2 with ⟨rfl,rfl⟩ | ⟨g,cap,cur,fz,rfl,hbg,hg,hfz,hnc,hcm,hcs,htake⟩
 ·obtain ⟨v',w',hr,h2,h3,_⟩:=Lib.run_append_own_stringF (P:=P) w w.heap.size t u ty e i ht hu hi hz hsize hby (.slice none 0 0) 0 xs ⟨hown.1, .inl ⟨rfl,rfl⟩⟩ s h63 hbytes (Nat.le_refl _)
  refine ⟨v',w',hr,⟨h2.1, ?_⟩,h3,fun k hk=> .inr (h2.lt k hk).1⟩
  rcases h2.2 with h4 | ⟨g,cap,cur,fz,q1,q2,q3⟩
  ·exact .inl h4
  ·exact .inr ⟨g,cap,cur,fz,q1,Nat.zero_le _,q3⟩
 ·obtain ⟨v',w',hr,h2,h3,_⟩:=Lib.run_append_own_stringF (P:=P) w 0 t u ty e i ht hu hi hz hsize hby (.slice (some ⟨g,0,none⟩) n cap) n xs hown0 s h63 hbytes (Nat.zero_le _)
  refine ⟨v',w',hr,h2,h3,fun k hk=> ?_⟩
  have hxl:xs.length=n:=by simpa using hown.1
  have hsm:n+s.size≤9223372036854775807:=by simp only [maxLen] at h63;omega
  by_cases hroom:n+s.size≤cap
  ·have hr2:=Lib.run_append_room_stringF (P:=P) w t u ty e i ht hu hi hsize g n cap cur fz hg (by simpa using hfz) s hroom (by rw [hcs];omega)
   rw [hr] at hr2
   injection hr2 with e1 e2
   subst e1
   exact .inl hk
  ·have hr2:=Lib.run_append_grow_string (P:=P) w t u ty e i (.int .u8 0) ht hu hi hz ⟨g,0,none⟩ n cap xs (by rw [hsize];simpa using hxl) (hown.cells (g:=g) rfl) s (by omega) (by omega) (by rw [hby];exact growslice_fits (by omega) (by omega))
   rw [hr] at hr2
   injection hr2 with e1 e2
   subst e1
   simp only [Value.ownBlock,Option.some.injEq] at hk
   exact .inr (by rw [←hk];exact Nat.le_refl _)
theorem wp_app_str {ops:Array Oper} {rest:List Oper} {o:Oper} {a:Act} {Q:Exit→Act→World→Prop} {w:World} (hgd:o.guard=none) (sl x:Operand) (t u:TypeId) (ho:o.op= .call { callee:= .builtin .append,args:= #[sl,x],argTypes:= #[t,u] })
  (e:TypeId) (i:TypeInfo) (ht:P.underlying t=some (.slice e)) (hu:P.underlying u=some .string) (hi:P.info? e=some i) (hz:i.zero=some (.int .u8 0)) (hsize:i.size=1) (hby:i.bytes=1)
  (v:Value) (n:Nat) (xs:List Value) (hs:a.eval sl=v) (hown:w.ownsRowF 0 e 1 v n xs) (s:ByteArray) (hx:a.eval x= .string s) (h63:n+s.size≤maxLen) (hbytes:n+s.size≤140737488355328)
  (h:∀v' w',w'.ownsRowF 0 e 1 v' (n+s.size) (xs++Lib.strCells s)→w.grownBy w' v.ownBlock→(∀g,v'.ownBlock=some g→v.ownBlock=some g∨w.heap.size≤g)→wpList P ops Q rest (a.put o.dst v') w'):wpList P ops Q (o::rest) a w:=by
 refine wpList_plain hgd fun K hK=> ?_
 obtain ⟨v',w',hr,h2,h3,h4⟩:=run_app_str (P:=P) w t u o.type e i ht hu hi hz hsize hby v n xs hown s h63 hbytes
 unfold Oper.wp execOp
 simp only [ho,resolve,invoke,builtin,Sem.run_bind,Sem.run_pure,Result.andThen_ok,List.map_toArray,List.map_cons,List.map_nil,hs,hx,hr]
 exact hK _ _ (h v' w' h2 h3 h4)
theorem held_string (L:Lays.n166 P ρ) (X:Builder.Extra P ρ) {b:Nat} {p v:Value} {s:List UInt8} {w:World} (hp:p= .pointer none∨p=self b) (h:Held (ρ.t 72) (ρ.t 5) b p v s w) (x:List UInt8)
  (hlen:s.length+x.length≤140737488355328):
  Calls P (ρ.f 166) #[.pointer (some ⟨b,0,none⟩), .string ⟨x.toArray⟩] w fun e w'=>e= .returned (.tuple #[.int .i64 x.length, .nilIface])∧
   ∃v',Held (ρ.t 72) (ρ.t 5) b (self b) v' (s++x) w'∧Keeps (fun k=>k=b∨v.ownBlock=some k) w w'∧(∀g,v'.ownBlock=some g→v.ownBlock=some g∨w.heap.size≤g):=by
 obtain ⟨i0,hi,hz0,hz1,hz2⟩:=info_parts X.infoByte
 have mixed:=L.mixed
 have t72:=L.t72;have a72:=L.a72;have z72:=L.z72;have v72:=L.v72;have u72:=run_underlying L.t72
 have t70:=L.t70;have a70:=L.a70;have z70:=L.z70;have v70:=L.v70;have u70:=run_underlying L.t70
 have t37:=L.t37;have a37:=L.a37;have z37:=L.z37;have v37:=L.v37;have u37:=run_underlying L.t37
 have t3:=L.t3;have a3:=L.a3;have z3:=L.z3;have v3:=L.v3;have u3:=run_underlying L.t3
 have t9:=L.t9;have a9:=L.a9;have z9:=L.z9;have v9:=L.v9;have u9:=run_underlying L.t9
 have t5:=X.t5;have a5:=X.a5;have z5:=X.z5;have v5:=X.v5;have u5:=run_underlying X.t5
 have e240:∀args w,(callFunc (ρ.f 240) args).run P w= .ok (.enter (ρ.f 240) args) w:=enters_of L.f240 (by kernel_rfl) rfl
 go_enter L.f166,Body.n166_ntmps ρ
 go_wp2_with (go_at_fn (ρ.f 240);refine (held_check { L with } X.toX72 hp h).mono ?_)
 rintro e w1 ⟨rfl,h1,hk1⟩
 have c0:w1.cell? ⟨b,0,none⟩=some (self b):=by rw [Lib.cell_of_heap h1.cells];rfl
 have c1:w1.cell? ⟨b,1,none⟩=some v:=by rw [Lib.cell_of_heap h1.cells];rfl
 go_wp2_with (at_builtin;refine wp_app_str rfl _ _ (ρ.t 37) (ρ.t 9) rfl (ρ.t 5) i0 L.t37 L.t9 hi hz0 hz1 hz2 _ _ _ rfl h1.own ⟨x.toArray⟩ rfl ?k1 ?k2 ?_)
 case k1=>unfold maxLen;show _+x.toArray.size≤_;rw [List.size_toArray];omega
 case k2=>show _+x.toArray.size≤_;rw [List.size_toArray];omega
 intro v' w2 ho' hgrow hold
 have ho2:w2.ownsRowF 0 (ρ.t 5) 1 v' (s++x).length (bytesV (s++x)):=by
  have:=ho'
  rw [strCells_bytes] at this
  simpa [bytesV] using this
 obtain ⟨r1,r2⟩:=held_put h1 hk1 hgrow X.neB5 ho2
 have hb2:w2.heap[b]? =some (.cells #[self b,v] (ρ.t 72) (0,0)):=by
  rw [hgrow.block b h1.lt (fun e=>h1.ne e.symm)];exact h1.cells
 have d0:w2.cell? ⟨b,0,none⟩=some (self b):=by rw [Lib.cell_of_heap hb2];rfl
 have d1:w2.cell? ⟨b,1,none⟩=some v:=by rw [Lib.cell_of_heap hb2];rfl
 have f1:w2.frozen? ⟨b,1,none⟩=false:=Lib.frozen_of_heap hb2 1
 obtain ⟨ao,n',cap,rfl⟩:∃ao n' cap,v'= .slice ao n' cap:=by
  rcases ho'.2 with ⟨hv,_⟩ | ⟨g,cap,cur,fz,hv,_⟩
  ·exact ⟨_,_,_,hv⟩
  ·exact ⟨_,_,_,hv⟩
 go_wp2
 go_ret2
 refine ⟨?_,_,r1,r2,fun g hg=> ?_⟩
 ·rfl
 ·exact (hold g hg).imp id fun h5=>Nat.le_trans hk1.size h5
theorem freeze_keep (w:World) (g:Nat) {n:Nat} (hn:n≠0):Keeps (fun k=>k=g) w (w.freeze ⟨g,0,none⟩ n):=by
 unfold World.freeze
 rw [if_neg hn]
 exact ⟨rfl,rfl,rfl,by simp,fun k _ hk=>by simp [Array.getElem?_modify,Ne.symm hk]⟩
theorem held_text (L:Lays.n169 P ρ) (X:Builder.Extra P ρ) {b:Nat} {p v:Value} {s:List UInt8} {w:World} (h:Held (ρ.t 72) (ρ.t 5) b p v s w) (h0:s≠ []):
  Calls P (ρ.f 169) #[.pointer (some ⟨b,0,none⟩)] w fun e w'=>e= .returned (.string ⟨s.toArray⟩)∧Held (ρ.t 72) (ρ.t 5) b p v s w'∧Keeps (fun k=>k=b∨v.ownBlock=some k) w w':=by
 have hl0:s.length≠0:=by simpa using h0
 obtain ⟨g,cap,cur,fz,hv,_,hg,hfz,hnc,hcm,hcs,htake⟩:∃g cap cur fz,v= .slice (some ⟨g,0,none⟩) s.length cap∧0≤g∧w.heap[g]? =some (.cells cur (ρ.t 5) fz)∧fz.2≤s.length*1∧s.length≤cap∧cap≤maxLen∧cur.size=cap*1∧cur.toList.take (s.length*1)=bytesV s:=by
  rcases h.own.2 with ⟨_,hz⟩ | ⟨g,cap,cur,fz,hv,r⟩
  ·exact absurd hz hl0
  ·exact ⟨g,cap,cur,fz,hv,r⟩
 have hgb:g≠b:=fun e=>h.ne (by rw [hv,e];rfl)
 have c1:w.drew.cell? ⟨b,1,none⟩=some (.slice (some ⟨g,0,none⟩) s.length cap):=by
  have:w.drew.heap[b]? =some (.cells #[p,v] (ρ.t 72) (0,0)):=h.cells
  rw [Lib.cell_of_heap this,hv];rfl
 have hSD:(Builtin.unsafeSliceData_ #[(ρ.t 37)] (ρ.t 127) #[.slice (some ⟨g,0,none⟩) s.length cap]).run P w.drew= .ok (.pointer (some ⟨g,0,none⟩)) w.drew:=
  Lib.run_unsafeSliceData_row _ _ _ _ _ _ (by omega)
 have hUS:(Builtin.unsafeString_ #[(ρ.t 127),(ρ.t 3)] (ρ.t 9) #[.pointer (some ⟨g,0,none⟩), .int .i64 s.length]).run P w.drew= .ok (.string ⟨s.toArray⟩) (w.drew.freeze ⟨g,0,none⟩ s.length):=by
  refine Lib.run_unsafeString_row w.drew (ρ.t 127) (ρ.t 3) (ρ.t 9) (ρ.t 5) L.t127 X.cellsByte g cur.size (by have hg':w.drew.heap[g]? =some (.cells cur (ρ.t 5) fz):=hg;simp [World.shape?,hg']) s h0 (by omega) (by unfold maxLen at hcm;omega) ?_
  intro j x hx
  have:=h.own.cells (g:=g) (by rw [hv];rfl) j (.int .u8 x.toNat) (by simp [bytesV,hx])
  exact this
 have hkeep:Held (ρ.t 72) (ρ.t 5) b p v s (w.drew.freeze ⟨g,0,none⟩ s.length):=by
  have hA:Lib.BuilderAtF (ρ.t 72) (ρ.t 5) 0 b p (bytesV s) w.drew:=h.at_
  have hF:=hA.froze (g:=g) (cap:=cap) (by rw [bytesV_length];exact c1)
  rw [bytesV_length] at hF
  obtain ⟨_,u,q1,q2,q3⟩:=hF
  have hu:u=v:=by
   have hk2:(w.drew.freeze ⟨g,0,none⟩ s.length).heap[b]? =some (.cells #[p,v] (ρ.t 72) (0,0)):=by
    rw [show (w.drew.freeze ⟨g,0,none⟩ s.length).heap[b]? =w.heap[b]? from (freeze_keep w.drew g hl0).block b h.lt (Ne.symm hgb)];exact h.cells
   rw [q1] at hk2
   simp only [Option.some.injEq,Obj.cells.injEq] at hk2
   have h:=congrArg (·[1]?) hk2.1
   simpa using h
  subst hu
  exact ⟨q1,by rw [bytesV_length] at q2;exact q2,q3⟩
 have hks:Keeps (fun k=>k=b∨v.ownBlock=some k) w (w.drew.freeze ⟨g,0,none⟩ s.length):=
  ((Keeps.drew (fun k=>k=g) w).trans (freeze_keep w.drew g hl0)).mono fun k _ e=> .inr (by rw [hv,e];rfl)
 have mixed:=L.mixed
 have t72:=L.t72;have a72:=L.a72;have z72:=L.z72;have v72:=L.v72;have u72:=run_underlying L.t72
 have t70:=L.t70;have a70:=L.a70;have z70:=L.z70;have v70:=L.v70;have u70:=run_underlying L.t70
 have t37:=L.t37;have a37:=L.a37;have z37:=L.z37;have v37:=L.v37;have u37:=run_underlying L.t37
 have t127:=L.t127;have a127:=L.a127;have z127:=L.z127;have v127:=L.v127;have u127:=run_underlying L.t127
 have t3:=L.t3;have a3:=L.a3;have z3:=L.z3;have v3:=L.v3;have u3:=run_underlying L.t3
 have t9:=L.t9;have a9:=L.a9;have z9:=L.z9;have v9:=L.v9;have u9:=run_underlying L.t9
 have t5:=X.t5;have a5:=X.a5;have z5:=X.z5;have v5:=X.v5;have u5:=run_underlying X.t5
 go_enter L.f169,Body.n169_ntmps ρ
 go_wp2
 go_region_o
 all_goals (go_wp2;go_ret;exact ⟨rfl,hkeep,hks⟩)
open Go.RowKit
theorem ownsF_lt {w:World} {e z n:Nat} {v:Value} {vs:List Value} (h:w.ownsRowF 0 e z v n vs):∀b,v.ownBlock=some b→b<w.heap.size:=fun b hb=>by
 rcases h.2 with ⟨h0,_⟩ | ⟨g,cap,cur,fz,h0,_,h2,_⟩
 ·subst h0;cases hb
 ·subst h0;injection hb with hb;subst hb
  exact (Array.getElem?_eq_some_iff.1 h2).1
theorem pure_bld {P:Program} {f T e:Nat} {args:List PV} {us:List Value} {val:PV} {rv:Value} {s s':List UInt8}
  (hfn:∃fn,P.funcs[f]? =some fn∧fn.body.isSome=true∧(fn.name== "runtime.NumGoroutine")=false)
  (hargs:∀(X:Cx) (γ:Gh) (w:World) (vals:List Value),RepL X γ w args vals→vals=us) (hval:∀(X:Cx) (γ:Gh) (w:World),Rep X γ w val rv)
  (h:∀(w:World) (b:Nat) (p v:Value),(p= .pointer none∨p=self b)→Held T e b p v s w→
   Calls P f (self b::us).toArray w fun ev w'=>ev= .returned rv∧∃p' v',(p'= .pointer none∨p'=self b)∧Held T e b p' v' s' w'∧Keeps (fun k=>k=b∨v.ownBlock=some k) w w'∧(∀g,v'.ownBlock=some g→v.ownBlock=some g∨w.heap.size≤g)):
  PureCall P f (.pt 0 0 0::args) [.bld T e s] ⟨val, [.bld T e s'], []⟩:=by
 refine ⟨hfn,fun w γ as_ ls vals hst hX hr=> ?_⟩
 obtain ⟨v0,us',rfl,hv,hus⟩:=hr.cons_inv
 have:=hargs _ _ _ _ hus
 subst this
 obtain ⟨ge,b,hge,hgb,rfl⟩:=pt_inv hv
 obtain ⟨b',p,v,g1,g2,g3,g4,g5,g6⟩:=hst.at_ 0 ge (.bld T e s) hge rfl
 have hb:b'=b:=by rw [g1] at hgb;injection hgb
 subst hb
 have hheld:Held T e b' p v s w:=⟨g4,g5,g6⟩
 have hself:Value.pointer (some ⟨b',0*ge.z+0,none⟩)=self b':=by rw [Nat.zero_mul];rfl
 rw [hself]
 refine (h w b' p v g3 hheld).mono ?_
 rintro ev w' ⟨he,p',v',hp',hH,hk,hold⟩
 have hnone:∀r,r≠0→γ r=none:=fun r hr=>by
  have:=hst.dom r
  rw [List.getElem?_eq_none (by simp;omega)] at this
  simpa using this
 have hblt:b'<w.heap.size:=hheld.lt
 let ge':GE:=⟨some b',v',ge.z⟩
 have hhas:∀k,ge'.has k→ge.has k∨w.heap.size≤k:=fun k hk=>by
  rcases hk with hk | hk
  ·exact .inl (.inl (by injection hk with hk;rw [←hk];exact g1))
  ·exact (hold k hk).imp (fun h=> .inr (by rw [g2];exact h)) id
 have hown:∀k,ge.has k→γ.own k:=fun k hk=>⟨0,ge,hge,hk⟩
 have hown':∀k,Gh.own (fun r=>if r=0 then some ge' else none) k→γ.own k∨w.heap.size≤k:=fun k ⟨r,g,hr,hb⟩=>by
  by_cases h0:r=0
  ·simp only [h0,if_true,Option.some.injEq] at hr
   subst hr
   exact (hhas k hb).imp (hown k) id
  ·simp only [h0,if_false] at hr;cases hr
 have hkeep:Keeps γ.own w w':=hk.mono fun k _ hk=>by
  rcases hk with rfl | hk
  ·exact hown _ (.inl g1)
  ·exact hown _ (.inr (by rw [g2];exact hk))
 refine ⟨rv,fun r=>if r=0 then some ge' else none,he,hval _ _ _, ?_,hkeep,fun r hr=> ?_,fun r g k hr hb=> ?_⟩
 ·refine ⟨fun r=> ?_,fun r g se hr hs=> ?_,fun r r' g g' k hr hr' _ _=> ?_,fun k hk=> ?_,fun k ⟨r,g,hr,hb⟩=> ?_, ?_⟩
  rotate_right
  ·exact glob_keep hst.glob (fun k hlt hn=>hkeep.block k hlt hn) hown'
  ·by_cases h:r=0
   ·subst h;rfl
   ·simp only [h,if_false,resSt]
    by_cases h2:newBase≤r
    ·rw [if_pos h2];rfl
    ·rw [if_neg h2,List.getElem?_eq_none (by simp;omega)];rfl
  ·by_cases h:r=0
   ·subst h
    simp only [if_true,Option.some.injEq] at hr
    subst hr
    have hs':some (SE.bld T e s')=some se:=hs
    injection hs' with hs'
    subst hs'
    exact ⟨b',p',v',rfl,rfl,hp',hH.cells,hH.own,hH.ne⟩
   ·simp only [h,if_false] at hr;cases hr
  ·by_cases h:r=0
   ·by_cases h':r'=0
    ·rw [h,h']
    ·simp only [h',if_false] at hr';cases hr'
   ·simp only [h,if_false] at hr;cases hr
  ·rcases hown' k hk with h | h
   ·exact hst.asOff k h
   ·exact ⟨fun ha=>by have:=hX k (.inl ha);omega,fun ha=>by have:=hX k (.inr ha);omega⟩
  ·by_cases h:r=0
   ·simp only [h,if_true,Option.some.injEq] at hr
    subst hr
    rcases hb with hb | hb
    ·injection hb with hb;rw [←hb];exact hH.lt
    ·exact ownsF_lt hH.own k hb
   ·simp only [h,if_false] at hr;cases hr
 ·have h0:r=0:=by simp [parN,nbx] at hr;exact hr
  subst h0
  exact ⟨ge',ge,rfl,hge,g1.symm,rfl⟩
 ·by_cases h:r=0
  ·simp only [h,if_true,Option.some.injEq] at hr
   subst hr
   rcases hhas k hb with h1 | h1
   ·exact .inr (.inr ⟨ge,by rw [h];exact hge,h1⟩)
   ·exact .inl h1
  ·simp only [h,if_false] at hr;cases hr
theorem pure_still {P:Program} {f:Nat} {args:List PV} {us:List Value} {val:PV} {rv:Value}
  (hfn:∃fn,P.funcs[f]? =some fn∧fn.body.isSome=true∧(fn.name== "runtime.NumGoroutine")=false)
  (hargs:∀(X:Cx) (γ:Gh) (w:World) (vals:List Value),RepL X γ w args vals→vals=us) (hval:∀(X:Cx) (γ:Gh) (w:World),Rep X γ w val rv)
  (h:∀(w:World),(∀b p,Pv.glob b=some p→∃o,w.heap[b]? =some o∧p o)→Calls P f us.toArray w fun ev w'=>ev= .returned rv∧Keeps (fun _=>False) w w'):
  PureCall P f args [] ⟨val, [], []⟩:=by
 refine ⟨hfn,fun w γ as_ ls vals hst hX hr=> ?_⟩
 have:=hargs _ _ _ _ hr
 subst this
 refine (h w fun b p hb=>(hst.glob b p hb).1).mono ?_
 rintro ev w' ⟨he,hk⟩
 have hnone:∀r,γ r=none:=fun r=>by
  have:=hst.dom r
  simpa using this
 have hno:∀b,¬γ.own b:=fun b ⟨r,ge,hr,_⟩=>by rw [hnone r] at hr;cases hr
 have hkeep:Keeps γ.own w w':=hk.mono fun k _ h=>h.elim
 refine ⟨rv,γ,he,hval _ _ _, ?_,hkeep,fun r hr=>by simp [parN,nbx] at hr,fun r ge b hr hb=>by rw [hnone r] at hr;cases hr⟩
 refine ⟨fun r=> ?_,fun r ge se hr hs=>(by rw [hnone r] at hr;cases hr),fun r r' ge ge' b hr=>(by rw [hnone r] at hr;cases hr),fun b hb=>absurd hb (hno b),fun b hb=>absurd hb (hno b), ?_⟩
 ·rw [hnone r];unfold resSt
  split<;>rfl
 ·exact glob_keep hst.glob (fun k hlt hn=>hkeep.block k hlt hn) fun b hb=> .inl hb
theorem pure_new2 {P:Program} {f:Nat} {args:List PV} {us:List Value} {e z n:Nat} {g:Nat→List PV} {vs:List Value}
  (hfn:∃fn,P.funcs[f]? =some fn∧fn.body.isSome=true∧(fn.name== "runtime.NumGoroutine")=false)
  (hargs:∀(X:Cx) (γ:Gh) (w:World) (vals:List Value),RepL X γ w args vals→vals=us) (hrows:∀(X:Cx) (γ:Gh) (w:World),RowsRep X γ w 0 z n g vs)
  (h:∀(w:World),(∀b p,Pv.glob b=some p→∃o,w.heap[b]? =some o∧p o)→
   Calls P f us.toArray w fun ev w'=>∃v',ev= .returned v'∧w'.ownsRow w.heap.size e z v' n vs∧Keeps (fun _=>False) w w'):
  PureCall P f args [] ⟨.os 1000000000, [], [.row 0 e z n g]⟩:=by
 refine ⟨hfn,fun w γ as_ ls vals hst hX hr=> ?_⟩
 have:=hargs _ _ _ _ hr
 subst this
 refine (h w fun b p hb=>(hst.glob b p hb).1).mono ?_
 rintro ev w' ⟨v',he,ho,hk⟩
 have ho0:OwnsG w' e z v' n vs:=OwnsG_of ho
 have hone:v'.oneCell'=true:=slice_one ho0
 have hblk:∀b,v'.ownBlock=some b→w.heap.size≤b∧b<w'.heap.size:=fun b hb=>by
  refine ⟨?_,own_lt' ho0 b hb⟩
  rcases ho.2 with ⟨h0,_⟩ | ⟨g,cap,cur,h0,h1,_⟩
  ·subst h0;cases hb
  ·subst h0;injection hb with hb;subst hb;exact h1
 have hnone:∀r,γ r=none:=fun r=>by
  have:=hst.dom r
  simpa using this
 refine ⟨v',fun r=>if r=1000000000 then some ⟨v'.ownBlock,v',z⟩ else none,he, .os _ ⟨v'.ownBlock,v',z⟩ (by simp) hone rfl, ?_,⟨hk.os,hk.tape,hk.output,hk.size,fun b hb _=>hk.block b hb (fun h=>h)⟩,fun r hr=>by simp [parN,nbx] at hr,fun r ge b hr hb=> ?_⟩
 ·refine ⟨fun r=> ?_,fun r ge se hr hs=> ?_,fun r r' ge ge' b hr hr' _ _=> ?_,fun b ⟨r,ge,hr,hb⟩=> ?_,fun b ⟨r,ge,hr,hb⟩=> ?_, ?_⟩
  rotate_right
  ·refine glob_keep hst.glob (fun b hlt _=>hk.block b hlt (fun h=>h)) (fun b ⟨r,ge,hr,hb⟩=> ?_)
   by_cases h:r=1000000000
   ·simp only [h,if_true,Option.some.injEq] at hr
    subst hr
    exact .inr (hblk b ((GE.has_row rfl).1 hb)).1
   ·simp only [h,if_false] at hr;cases hr
  ·by_cases h:r=1000000000
   ·subst h;simp [resSt,newBase]
   ·simp only [h,if_false,resSt]
    by_cases h2:newBase≤r
    ·have:1≤r - newBase:=by unfold newBase at *;omega
     rw [if_pos h2,List.getElem?_eq_none (by simpa using this)];rfl
    ·rw [if_neg h2];simp
  ·by_cases h:r=1000000000
   ·subst h
    simp only [if_true,Option.some.injEq] at hr
    subst hr
    simp [resSt,newBase] at hs
    subst hs
    exact (hrows _ _ _).repS rfl rfl hone ho0
   ·simp only [h,if_false] at hr;cases hr
  ·by_cases h:r=1000000000
   ·by_cases h':r'=1000000000
    ·rw [h,h']
    ·simp only [h',if_false] at hr';cases hr'
   ·simp only [h,if_false] at hr;cases hr
  ·by_cases h:r=1000000000
   ·simp only [h,if_true,Option.some.injEq] at hr
    subst hr
    have:=(hblk b ((GE.has_row rfl).1 hb)).1
    exact ⟨fun ha=>by have:=hX b (.inl ha);omega,fun ha=>by have:=hX b (.inr ha);omega⟩
   ·simp only [h,if_false] at hr;cases hr
  ·by_cases h:r=1000000000
   ·simp only [h,if_true,Option.some.injEq] at hr
    subst hr
    exact (hblk b ((GE.has_row rfl).1 hb)).2
   ·simp only [h,if_false] at hr;cases hr
 ·by_cases h:r=1000000000
  ·simp only [h,if_true,Option.some.injEq] at hr
   subst hr
   exact .inl (hblk b ((GE.has_row rfl).1 hb)).1
  ·simp only [h,if_false] at hr;cases hr
def eStr (s:List UInt8):List PV:= [.str s]
def strV (s:List UInt8):Value:= .string ⟨s.toArray⟩
theorem strs_rows {X:Cx} {γ:Gh} {w:World} (l:List (List UInt8)):RowsRep X γ w 0 1 l.length (fl eStr l) (l.map strV):=by
 refine ⟨by simp,fun u hu=> ?_,fun i hi=>rfl,fun i hi c hc=> ?_,fun i j c u hi hc hu=> ?_⟩
 ·obtain ⟨n,_,rfl⟩:=List.mem_map.1 hu;rfl
 ·have:c= .str (l.getD i default):=by simpa [fl,eStr] using hc
  subst this;rfl
 ·have hj:j=0:=by
    have:=(List.getElem?_eq_some_iff.1 hc).1
    simp [fl,eStr] at this;omega
  subst hj
  have:c= .str (l.getD i default):=by
   have h0:some (PV.str (l.getD i default))=some c:=hc
   injection h0 with h0;exact h0.symm
  subst this
  rw [Nat.mul_one,Nat.add_zero,List.getElem?_map,getD_some hi] at hu
  injection hu with hu;subst hu
  exact .str _
def splitC (c:UInt8):List UInt8→List (List UInt8)
 | []=> [[]]
 | x::xs=>if x=c then []::splitC c xs else match splitC c xs with
   | []=> [[x]]
   | h::t=>(x::h)::t
def brkC (c:UInt8):List UInt8→List UInt8×List UInt8×Bool
 | []=>([], [],false)
 | x::xs=>if x=c then ([],xs,true) else (x::(brkC c xs).1,(brkC c xs).2)
theorem splitC_ne (c:UInt8) (s:List UInt8):splitC c s≠ []:=by
 cases s with
 | nil=>simp [splitC]
 | cons x xs=>
   unfold splitC
   split
   ·simp
   ·split<;>simp
theorem splitC_brk (c:UInt8):∀s:List UInt8,splitC c s=if (brkC c s).2.2=true then (brkC c s).1::splitC c (brkC c s).2.1 else [s]
 | []=>rfl
 | x::xs=>by
   by_cases h:x=c
   ·simp [splitC,brkC,h]
   ·have ih:=splitC_brk c xs
    simp only [splitC,brkC,if_neg h]
    by_cases h2:(brkC c xs).2.2=true
    ·rw [if_pos h2] at ih⊢
     rw [ih]
    ·rw [if_neg h2] at ih⊢
     rw [ih]
theorem brkC_len (c:UInt8):∀s:List UInt8,(brkC c s).1.length≤s.length∧(brkC c s).2.1.length≤s.length∧((brkC c s).2.2=true→(brkC c s).1.length+1+(brkC c s).2.1.length=s.length)
 | []=>by simp [brkC]
 | x::xs=>by
   have ih:=brkC_len c xs
   unfold brkC
   split
   ·simp;omega
   ·simp only [List.length_cons]
    refine ⟨by omega,by omega,fun h=> ?_⟩
    have:=ih.2.2 h
    omega
theorem splitC_len (c:UInt8):∀s:List UInt8,(splitC c s).length≤s.length+1∧∀x∈splitC c s,x.length≤s.length
 | []=>by simp [splitC]
 | x::xs=>by
   have ih:=splitC_len c xs
   unfold splitC
   split
   ·refine ⟨by simp;omega,fun y hy=> ?_⟩
    rcases List.mem_cons.1 hy with rfl | hy
    ·simp
    ·have:=ih.2 y hy;simp;omega
   ·split
    ·simp
    ·rename_i h t e
     rw [e] at ih
     refine ⟨by simp at ih⊢;omega,fun y hy=> ?_⟩
     rcases List.mem_cons.1 hy with rfl | hy
     ·have:=ih.2 h (by simp);simp;omega
     ·have:=ih.2 y (by simp [hy]);simp;omega
theorem index_cons_eq (c:UInt8) (l:List UInt8):Lib.index (c::l) [c]=0:=by rw [Lib.index];simp [List.isPrefixOf]
theorem index_cons_ne (b c:UInt8) (l:List UInt8) (h:b≠c):Lib.index (b::l) [c]=if Lib.index l [c]== -1 then -1 else Lib.index l [c]+1:=by
 have hp:([c]:List UInt8).isPrefixOf (b::l)=false:=by simp [List.isPrefixOf,Ne.symm h]
 rw [Lib.index,hp];simp
theorem cut_brk (c:UInt8):∀s:List UInt8,Lib.cut s [c]=brkC c s
 | []=>by simp [Lib.cut,Lib.index,brkC]
 | b::l=>by
   have ih:=cut_brk c l
   have hge:=Lib.index_ge l [c]
   by_cases h:b=c
   ·subst h
    unfold Lib.cut brkC
    rw [index_cons_eq,if_pos (by decide),if_pos rfl]
    rfl
   ·unfold brkC
    rw [if_neg h,←ih]
    unfold Lib.cut
    rw [index_cons_ne b c l h]
    by_cases hm:Lib.index l [c]= -1
    ·rw [hm];rfl
    ·obtain ⟨j,hj⟩:∃j:Nat,Lib.index l [c]=j:=⟨(Lib.index l [c]).toNat,by omega⟩
     have e0:(if (Lib.index l [c]== -1)=true then (-1:Int) else Lib.index l [c]+1)=(j:Int)+1:=by rw [if_neg (by simpa using hm),hj]
     rw [e0,hj,if_pos (by omega),if_pos (by omega)]
     have e1:((j:Int)+1).toNat=j+1:=by omega
     have e2:(j:Int).toNat=j:=by omega
     rw [e1,e2]
     simp [Nat.add_assoc]
theorem splitK_C (c:UInt8):∀s:List UInt8,Lib.splitK [c] 0 (Lib.count s [c]) s=splitC c s
 | []=>by rw [Lib.count_one];rfl
 | b::l=>by
   have ih:=splitK_C c l
   have hge:=Lib.index_ge l [c]
   by_cases h:b=c
   ·subst h
    rw [Lib.count_cons_eq,Nat.add_comm,Lib.splitK,index_cons_eq]
    simp only [splitC,if_pos]
    have e:((0:Int)== -1)=false:=by decide
    rw [e]
    simpa using ih
   ·rw [Lib.count_cons_ne b c l h]
    unfold splitC
    rw [if_neg h,←ih]
    by_cases hm:Lib.index l [c]= -1
    ·rw [Lib.count_miss hm]
     rfl
    ·obtain ⟨j,hj⟩:∃j:Nat,Lib.index l [c]=j:=⟨(Lib.index l [c]).toNat,by omega⟩
     rw [Lib.count_hit (by simp) hj,Nat.add_comm,Lib.splitK,Lib.splitK,index_cons_ne b c l h,hj]
     have e1:((j:Int)== -1)=false:=beq_eq_false_iff_ne.2 (by omega)
     have e2:(((j:Int)+1)== -1)=false:=beq_eq_false_iff_ne.2 (by omega)
     have e3:((j:Int)+1).toNat=j+1:=by omega
     have e4:(j:Int).toNat=j:=by omega
     rw [e1]
     simp only [Bool.false_eq_true,if_false]
     rw [e2]
     simp only [Bool.false_eq_true,if_false,e3,e4,Nat.add_zero]
     simp [Nat.add_assoc,Nat.add_comm 1 1]
end Pv
namespace Sh
open Go.Shelf
def lays166_ren:Go.Shelf.Ren:=⟨fun | 166=>30 | 240=>51 | 276=>83 | 169=>31 | n=>n,fun | 70=>116 | 72=>119 | 37=>117 | 75=>122 | 80=>125 | 164=>197 | 127=>159 | n=>n,fun | n=>n⟩
theorem lays166:Go.Proofs.Lays.n166 Tryz.prog lays166_ren:={
 mixed:=by kernel_rfl
 f166:=Tryz.func30.trans (congrArg some (by kernel_rfl))
 f240:=Tryz.func51.trans (congrArg some (by kernel_rfl))
 f276:=Tryz.func83.trans (congrArg some (by kernel_rfl))
 t0:=Tryz.underlying0
 a0:=Tryz.isAgg0
 z0:=Tryz.sizeOf0
 v0:=Tryz.zeroValue0
 t3:=Tryz.underlying3
 a3:=Tryz.isAgg3
 z3:=Tryz.sizeOf3
 v3:=Tryz.zeroValue3
 t4:=Tryz.underlying4
 a4:=Tryz.isAgg4
 z4:=Tryz.sizeOf4
 v4:=Tryz.zeroValue4
 t9:=Tryz.underlying9
 a9:=Tryz.isAgg9
 z9:=Tryz.sizeOf9
 v9:=Tryz.zeroValue9
 t20:=Tryz.underlying20
 a20:=Tryz.isAgg20
 z20:=Tryz.sizeOf20
 v20:=Tryz.zeroValue20
 t37:=Tryz.underlying117
 a37:=Tryz.isAgg117
 z37:=Tryz.sizeOf117
 v37:=Tryz.zeroValue117
 t70:=Tryz.underlying116
 a70:=Tryz.isAgg116
 z70:=Tryz.sizeOf116
 v70:=Tryz.zeroValue116
 t72:=Tryz.underlying119
 a72:=Tryz.isAgg119
 z72:=Tryz.sizeOf119
 v72:=Tryz.zeroValue119
 t75:=Tryz.underlying122
 a75:=Tryz.isAgg122
 z75:=Tryz.sizeOf122
 v75:=Tryz.zeroValue122
 t164:=Tryz.underlying197
 a164:=Tryz.isAgg197
 z164:=Tryz.sizeOf197
 v164:=Tryz.zeroValue197 }
def lays169_ren:Go.Shelf.Ren:=⟨fun | 166=>30 | 240=>51 | 276=>83 | 169=>31 | n=>n,fun | 70=>116 | 72=>119 | 37=>117 | 75=>122 | 80=>125 | 164=>197 | 127=>159 | n=>n,fun | n=>n⟩
theorem lays169:Go.Proofs.Lays.n169 Tryz.prog lays169_ren:={
 mixed:=by kernel_rfl
 f169:=Tryz.func31.trans (congrArg some (by kernel_rfl))
 t0:=Tryz.underlying0
 a0:=Tryz.isAgg0
 z0:=Tryz.sizeOf0
 v0:=Tryz.zeroValue0
 t3:=Tryz.underlying3
 a3:=Tryz.isAgg3
 z3:=Tryz.sizeOf3
 v3:=Tryz.zeroValue3
 t9:=Tryz.underlying9
 a9:=Tryz.isAgg9
 z9:=Tryz.sizeOf9
 v9:=Tryz.zeroValue9
 t37:=Tryz.underlying117
 a37:=Tryz.isAgg117
 z37:=Tryz.sizeOf117
 v37:=Tryz.zeroValue117
 t70:=Tryz.underlying116
 a70:=Tryz.isAgg116
 z70:=Tryz.sizeOf116
 v70:=Tryz.zeroValue116
 t72:=Tryz.underlying119
 a72:=Tryz.isAgg119
 z72:=Tryz.sizeOf119
 v72:=Tryz.zeroValue119
 t127:=Tryz.underlying159
 a127:=Tryz.isAgg159
 z127:=Tryz.sizeOf159
 v127:=Tryz.zeroValue159 }
theorem bX_166:Go.Proofs.Builder.Extra Tryz.prog lays166_ren:={
 sizeBuilder:=by kernel_rfl
 liesBuilder:=by kernel_rfl
 t5:=Tryz.underlying5
 a5:=Tryz.isAgg5
 z5:=Tryz.sizeOf5
 v5:=Tryz.zeroValue5
 infoByte:=by kernel_rfl
 cellsByte:=by kernel_rfl
 sizeByte:=by kernel_rfl
 neB5:=by decide }
theorem bX_169:Go.Proofs.Builder.Extra Tryz.prog lays169_ren:={
 sizeBuilder:=by kernel_rfl
 liesBuilder:=by kernel_rfl
 t5:=Tryz.underlying5
 a5:=Tryz.isAgg5
 z5:=Tryz.sizeOf5
 v5:=Tryz.zeroValue5
 infoByte:=by kernel_rfl
 cellsByte:=by kernel_rfl
 sizeByte:=by kernel_rfl
 neB5:=by decide }
open Go.Shelf
def laysM171_ren:Go.Shelf.Ren:=⟨fun | 171=>29 | 243=>50 | 246=>82 | 283=>110 | 284=>111 | 285=>112 | 286=>113 | 129=>134 | 317=>133 | 318=>135 | 319=>136 | 320=>137 | 337=>146 | 338=>147 | n=>n,fun | 3=>3 | 9=>9 | 2=>2 | 4=>4 | 171=>241 | 0=>0 | 53=>242 | 37=>117 | 5=>5 | 173=>245 | 212=>267 | 51=>268 | 20=>20 | 213=>269 | 46=>248 | 232=>280 | 233=>281 | n=>n,fun | 17=>1 | 18=>2 | 19=>3 | n=>n⟩
theorem laysM171:Go.Proofs.LaysM.n171 Tryz.prog laysM171_ren:={
 mixed:=by kernel_rfl
 f129:=Tryz.func134.trans (congrArg some (by kernel_rfl))
 f171:=Tryz.func29.trans (congrArg some (by kernel_rfl))
 f243:=Tryz.func50.trans (congrArg some (by kernel_rfl))
 f246:=Tryz.func82.trans (congrArg some (by kernel_rfl))
 f283:=Tryz.func110.trans (congrArg some (by kernel_rfl))
 f284:=Tryz.func111.trans (congrArg some (by kernel_rfl))
 f285:=Tryz.func112.trans (congrArg some (by kernel_rfl))
 f286:=Tryz.func113.trans (congrArg some (by kernel_rfl))
 f317:=Tryz.func133.trans (congrArg some (by kernel_rfl))
 f318:=Tryz.func135.trans (congrArg some (by kernel_rfl))
 f319:=Tryz.func136.trans (congrArg some (by kernel_rfl))
 f320:=Tryz.func137.trans (congrArg some (by kernel_rfl))
 f337:=Tryz.func146.trans (congrArg some (by kernel_rfl))
 f338:=Tryz.func147.trans (congrArg some (by kernel_rfl))
 t0:=Tryz.underlying0
 a0:=Tryz.isAgg0
 z0:=Tryz.sizeOf0
 v0:=Tryz.zeroValue0
 t2:=Tryz.underlying2
 a2:=Tryz.isAgg2
 z2:=Tryz.sizeOf2
 v2:=Tryz.zeroValue2
 t3:=Tryz.underlying3
 a3:=Tryz.isAgg3
 z3:=Tryz.sizeOf3
 v3:=Tryz.zeroValue3
 t4:=Tryz.underlying4
 a4:=Tryz.isAgg4
 z4:=Tryz.sizeOf4
 v4:=Tryz.zeroValue4
 t5:=Tryz.underlying5
 a5:=Tryz.isAgg5
 z5:=Tryz.sizeOf5
 v5:=Tryz.zeroValue5
 t9:=Tryz.underlying9
 a9:=Tryz.isAgg9
 z9:=Tryz.sizeOf9
 v9:=Tryz.zeroValue9
 t20:=Tryz.underlying20
 a20:=Tryz.isAgg20
 z20:=Tryz.sizeOf20
 v20:=Tryz.zeroValue20
 t37:=Tryz.underlying117
 a37:=Tryz.isAgg117
 z37:=Tryz.sizeOf117
 v37:=Tryz.zeroValue117
 t46:=Tryz.underlying248
 a46:=Tryz.isAgg248
 z46:=Tryz.sizeOf248
 v46:=Tryz.zeroValue248
 t51:=Tryz.underlying268
 a51:=Tryz.isAgg268
 z51:=Tryz.sizeOf268
 v51:=Tryz.zeroValue268
 t53:=Tryz.underlying242
 a53:=Tryz.isAgg242
 z53:=Tryz.sizeOf242
 v53:=Tryz.zeroValue242
 t171:=Tryz.underlying241
 a171:=Tryz.isAgg241
 z171:=Tryz.sizeOf241
 v171:=Tryz.zeroValue241
 t173:=Tryz.underlying245
 a173:=Tryz.isAgg245
 z173:=Tryz.sizeOf245
 v173:=Tryz.zeroValue245
 t212:=Tryz.underlying267
 a212:=Tryz.isAgg267
 z212:=Tryz.sizeOf267
 v212:=Tryz.zeroValue267
 t213:=Tryz.underlying269
 a213:=Tryz.isAgg269
 z213:=Tryz.sizeOf269
 t232:=Tryz.underlying280
 a232:=Tryz.isAgg280
 z232:=Tryz.sizeOf280
 v232:=Tryz.zeroValue280
 t233:=Tryz.underlying281
 a233:=Tryz.isAgg281
 z233:=Tryz.sizeOf281
 v233:=Tryz.zeroValue281
 g17:=by kernel_rfl
 g18:=by kernel_rfl
 g19:=by kernel_rfl
 i0:=by kernel_rfl
 i2:=by kernel_rfl
 i3:=by kernel_rfl
 i4:=by kernel_rfl
 i5:=by kernel_rfl
 i9:=by kernel_rfl
 i20:=by kernel_rfl
 i37:=by kernel_rfl
 i46:=by kernel_rfl
 i51:=by kernel_rfl
 i53:=by kernel_rfl
 i171:=by kernel_rfl
 i173:=by kernel_rfl
 i212:=by kernel_rfl
 i232:=by kernel_rfl
 i233:=by kernel_rfl
 m17:=by kernel_rfl
 m18:=by kernel_rfl
 m19:=by kernel_rfl }
def lays145_ren:Go.Shelf.Ren:=⟨fun | 145=>32 | 220=>52 | 219=>84 | 217=>114 | 225=>115 | 224=>116 | 267=>117 | 266=>138 | 314=>139 | n=>n,fun | 9=>9 | 4=>4 | 59=>126 | 3=>3 | 5=>5 | 46=>248 | 146=>271 | 51=>268 | n=>n,fun | 1=>0 | n=>n⟩
theorem lays145:Go.Proofs.Lays.n145 Tryz.prog lays145_ren:={
 mixed:=by kernel_rfl
 f145:=Tryz.func32.trans (congrArg some (by kernel_rfl))
 f217:=Tryz.func114.trans (congrArg some (by kernel_rfl))
 f219:=Tryz.func84.trans (congrArg some (by kernel_rfl))
 f220:=Tryz.func52.trans (congrArg some (by kernel_rfl))
 f224:=Tryz.func116.trans (congrArg some (by kernel_rfl))
 f225:=Tryz.func115.trans (congrArg some (by kernel_rfl))
 f266:=Tryz.func138.trans (congrArg some (by kernel_rfl))
 f267:=Tryz.func117.trans (congrArg some (by kernel_rfl))
 f314:=Tryz.func139.trans (congrArg some (by kernel_rfl))
 t3:=Tryz.underlying3
 a3:=Tryz.isAgg3
 z3:=Tryz.sizeOf3
 v3:=Tryz.zeroValue3
 t4:=Tryz.underlying4
 a4:=Tryz.isAgg4
 z4:=Tryz.sizeOf4
 v4:=Tryz.zeroValue4
 t5:=Tryz.underlying5
 a5:=Tryz.isAgg5
 z5:=Tryz.sizeOf5
 v5:=Tryz.zeroValue5
 t9:=Tryz.underlying9
 a9:=Tryz.isAgg9
 z9:=Tryz.sizeOf9
 v9:=Tryz.zeroValue9
 t46:=Tryz.underlying248
 a46:=Tryz.isAgg248
 z46:=Tryz.sizeOf248
 v46:=Tryz.zeroValue248
 t51:=Tryz.underlying268
 a51:=Tryz.isAgg268
 z51:=Tryz.sizeOf268
 v51:=Tryz.zeroValue268
 t59:=Tryz.underlying126
 a59:=Tryz.isAgg126
 z59:=Tryz.sizeOf126
 v59:=Tryz.zeroValue126
 t146:=Tryz.underlying271
 a146:=Tryz.isAgg271
 z146:=Tryz.sizeOf271
 v146:=Tryz.zeroValue271
 g1:=by kernel_rfl }
def lays146_ren:Go.Shelf.Ren:=⟨fun | 146=>53 | 221=>85 | 268=>118 | 138=>119 | 143=>120 | 195=>140 | 197=>141 | 218=>142 | 219=>84 | 260=>148 | 217=>114 | 225=>115 | 224=>116 | 267=>117 | 266=>138 | 314=>139 | n=>n,fun | 9=>9 | 31=>160 | 3=>3 | 4=>4 | 0=>0 | 105=>274 | 21=>21 | 5=>5 | 46=>248 | 119=>282 | 139=>285 | 138=>284 | 146=>271 | 51=>268 | n=>n,fun | 1=>0 | 3=>4 | 4=>5 | n=>n⟩
theorem lays146:Go.Proofs.Lays.n146 Tryz.prog lays146_ren:={
 mixed:=by kernel_rfl
 f138:=Tryz.func119.trans (congrArg some (by kernel_rfl))
 f143:=Tryz.func120.trans (congrArg some (by kernel_rfl))
 f146:=Tryz.func53.trans (congrArg some (by kernel_rfl))
 f195:=Tryz.func140.trans (congrArg some (by kernel_rfl))
 f197:=Tryz.func141.trans (congrArg some (by kernel_rfl))
 f217:=Tryz.func114.trans (congrArg some (by kernel_rfl))
 f218:=Tryz.func142.trans (congrArg some (by kernel_rfl))
 f219:=Tryz.func84.trans (congrArg some (by kernel_rfl))
 f221:=Tryz.func85.trans (congrArg some (by kernel_rfl))
 f224:=Tryz.func116.trans (congrArg some (by kernel_rfl))
 f225:=Tryz.func115.trans (congrArg some (by kernel_rfl))
 f260:=Tryz.func148.trans (congrArg some (by kernel_rfl))
 f266:=Tryz.func138.trans (congrArg some (by kernel_rfl))
 f267:=Tryz.func117.trans (congrArg some (by kernel_rfl))
 f268:=Tryz.func118.trans (congrArg some (by kernel_rfl))
 f314:=Tryz.func139.trans (congrArg some (by kernel_rfl))
 t0:=Tryz.underlying0
 a0:=Tryz.isAgg0
 z0:=Tryz.sizeOf0
 v0:=Tryz.zeroValue0
 t3:=Tryz.underlying3
 a3:=Tryz.isAgg3
 z3:=Tryz.sizeOf3
 v3:=Tryz.zeroValue3
 t4:=Tryz.underlying4
 a4:=Tryz.isAgg4
 z4:=Tryz.sizeOf4
 v4:=Tryz.zeroValue4
 t5:=Tryz.underlying5
 a5:=Tryz.isAgg5
 z5:=Tryz.sizeOf5
 v5:=Tryz.zeroValue5
 t9:=Tryz.underlying9
 a9:=Tryz.isAgg9
 z9:=Tryz.sizeOf9
 v9:=Tryz.zeroValue9
 t21:=Tryz.underlying21
 a21:=Tryz.isAgg21
 z21:=Tryz.sizeOf21
 v21:=Tryz.zeroValue21
 t31:=Tryz.underlying160
 a31:=Tryz.isAgg160
 z31:=Tryz.sizeOf160
 v31:=Tryz.zeroValue160
 t46:=Tryz.underlying248
 a46:=Tryz.isAgg248
 z46:=Tryz.sizeOf248
 v46:=Tryz.zeroValue248
 t51:=Tryz.underlying268
 a51:=Tryz.isAgg268
 z51:=Tryz.sizeOf268
 v51:=Tryz.zeroValue268
 t105:=Tryz.underlying274
 a105:=Tryz.isAgg274
 z105:=Tryz.sizeOf274
 v105:=Tryz.zeroValue274
 t119:=Tryz.underlying282
 a119:=Tryz.isAgg282
 z119:=Tryz.sizeOf282
 t138:=Tryz.underlying284
 a138:=Tryz.isAgg284
 z138:=Tryz.sizeOf284
 v138:=Tryz.zeroValue284
 t139:=Tryz.underlying285
 a139:=Tryz.isAgg285
 z139:=Tryz.sizeOf285
 v139:=Tryz.zeroValue285
 t146:=Tryz.underlying271
 a146:=Tryz.isAgg271
 z146:=Tryz.sizeOf271
 v146:=Tryz.zeroValue271
 g1:=by kernel_rfl
 g3:=by kernel_rfl
 g4:=by kernel_rfl }
open Go.RowKit Go.Sort Go.Lib in
theorem strconv_Itoa (n:Int) (h0: -9223372036854775808≤n) (h1:n≤9223372036854775807) (w:World) (htab:Lib.TabIs Tryz.prog w "internal/strconv.uint64pow10" .u64 Lib.pow10Tab):
 Calls Tryz.prog 29 #[.int .i64 n] w fun e w'=>e= .returned (.string ⟨(Lib.itoa n).toArray⟩)∧∃k os,w'=grow (w.drewN k) os:=Any.strconv_Itoa laysM171 n h0 h1 w htab
open Go.RowKit Go.Lib in
theorem strings_Cut (s sep:ByteArray) (m:Int) (w:World) (hs:s.size<4294967281) (hm:w.cell? ⟨0,0,none⟩=some (.int .i64 m)):
 Calls Tryz.prog 32 #[.string s, .string sep] w fun e w'=>e= .returned (.tuple #[.string ⟨(Lib.cut s.data.toList sep.data.toList).1.toArray⟩, .string ⟨(Lib.cut s.data.toList sep.data.toList).2.1.toArray⟩, .bool (Lib.cut s.data.toList sep.data.toList).2.2])∧∃n,w'=w.drewN n:=Any.strings_Cut lays145 s sep m w hs hm
open Go.RowKit Go.Lib in
theorem strings_Split (s sep:ByteArray) (m:Int) (w:World) (hs:s.size<4294967281) (hm:w.cell? ⟨0,0,none⟩=some (.int .i64 m)) (h1:1≤sep.size):
 Calls Tryz.prog 53 #[.string s, .string sep] w fun e w'=>
  e= .returned (.slice (some ⟨w.heap.size,0,none⟩) (Lib.countB s sep+1) (Lib.countB s sep+1))∧w'=w.alloc (.cells ((Lib.splitB sep 0 (Lib.countB s sep) s).map Value.string).toArray 9):=Any.strings_Split lays146 (by kernel_rfl) s sep m w hs hm h1
end Sh
namespace Pv
open Go.RowKit
theorem args_nil (X:Cx) (γ:Gh) (w:World) (vals:List Value) (h:RepL X γ w [] vals):vals= []:=h.nil_inv
theorem args_str (s:List UInt8) (X:Cx) (γ:Gh) (w:World) (vals:List Value) (h:RepL X γ w [.str s] vals):vals= [strV s]:=by
 obtain ⟨v,us,rfl,hv,hus⟩:=h.cons_inv
 rw [hv.str_inv,hus.nil_inv];rfl
theorem args_str2 (s t:List UInt8) (X:Cx) (γ:Gh) (w:World) (vals:List Value) (h:RepL X γ w [.str s, .str t] vals):vals= [strV s,strV t]:=by
 obtain ⟨v,us,rfl,hv,hus⟩:=h.cons_inv
 rw [hv.str_inv,args_str t X γ w us hus];rfl
theorem args_int (k:IntKind) (n:Int) (X:Cx) (γ:Gh) (w:World) (vals:List Value) (h:RepL X γ w [.int k n] vals):vals= [.int k n]:=by
 obtain ⟨v,us,rfl,hv,hus⟩:=h.cons_inv
 rw [hv.int_inv,hus.nil_inv]
theorem rep_tup1 (n:Int) (X:Cx) (γ:Gh) (w:World):Rep X γ w (.tup [.int .i64 n, .raw .nilIface]) (.tuple #[.int .i64 n, .nilIface]):=by
 refine .tup _ [.int .i64 n, .nilIface] rfl fun k c u hc hu=> ?_
 match k,hc,hu with
 | 0,hc,hu=>injection hc with hc;injection hu with hu;subst hc;subst hu;exact .int _ _
 | 1,hc,hu=>injection hc with hc;injection hu with hu;subst hc;subst hu;exact .raw _ rfl
 | k+2,hc,hu=>simp at hc
theorem call30 (s x:List UInt8) (h:s.length+x.length≤140737488355328):PureCall Tryz.prog 30 [.pt 0 0 0, .str x] [.bld 119 5 s] ⟨.tup [.int .i64 x.length, .raw .nilIface], [.bld 119 5 (s++x)], []⟩:=
 pure_bld ⟨_,Tryz.func30,rfl,rfl⟩ (args_str x) (rep_tup1 x.length) fun w b p v hp hH=>
  (held_string Sh.lays166 Sh.bX_166 hp hH x h).mono fun ev w' ⟨he,v',h1,h2,h3⟩=>⟨he,self b,v', .inr rfl,h1,h2,h3⟩
theorem call31 (s:List UInt8) (h:s≠ []):PureCall Tryz.prog 31 [.pt 0 0 0] [.bld 119 5 s] ⟨.str s, [.bld 119 5 s], []⟩:=
 pure_bld ⟨_,Tryz.func31,rfl,rfl⟩ args_nil (fun _ _ _=> .str s) fun w b p v hp hH=>
  (held_text Sh.lays169 Sh.bX_169 hH h).mono fun ev w' ⟨he,h1,h2⟩=>⟨he,p,v,hp,h1,h2,fun g hg=> .inl hg⟩
theorem keeps_grow (w:World) (k:Nat) (os:Array Obj):Keeps (fun _=>False) w (Sort.grow (w.drewN k) os):=
 ⟨rfl,rfl,rfl,by simp [Sort.grow],fun b hb _=>by simp [Sort.grow,Array.getElem?_append,hb]⟩
theorem keeps_drewN (w:World) (k:Nat):Keeps (fun _=>False) w (w.drewN k):=⟨rfl,rfl,rfl,Nat.le_refl _,fun b hb _=>rfl⟩
theorem pow_tab {w:World} (hg:∀b p,Pv.glob b=some p→∃o,w.heap[b]? =some o∧p o):Lib.TabIs Tryz.prog w "internal/strconv.uint64pow10" .u64 Lib.pow10Tab:=by
 obtain ⟨o,ho,T,fz,rfl⟩:=hg 1 isPow10 rfl
 unfold Lib.TabIs World.var?
 rw [show Tryz.prog.globalNamed "internal/strconv.uint64pow10"=some 1 from by kernel_rfl]
 simp [ho]
theorem some_int {w:World} (hg:∀b p,Pv.glob b=some p→∃o,w.heap[b]? =some o∧p o):∃m,w.cell? ⟨0,0,none⟩=some (.int .i64 m):=by
 obtain ⟨o,ho,cs,T,fz,m,rfl,hm⟩:=hg 0 someInt rfl
 exact ⟨m,by rw [Lib.cell_of_heap ho];exact hm⟩
theorem call29 (n:Int) (h0: -9223372036854775808≤n) (h1:n≤9223372036854775807):PureCall Tryz.prog 29 [.int .i64 n] [] ⟨.str (Lib.itoa n), [], []⟩:=
 pure_still ⟨_,Tryz.func29,rfl,rfl⟩ (args_int .i64 n) (fun _ _ _=> .str _) fun w hg=>
  (Sh.strconv_Itoa n h0 h1 w (pow_tab hg)).mono fun ev w' ⟨he,k,os,hw⟩=>⟨he,by rw [hw];exact keeps_grow w k os⟩
theorem rep_cut (a b:List UInt8) (c:Bool) (X:Cx) (γ:Gh) (w:World):Rep X γ w (.tup [.str a, .str b, .bool c]) (.tuple #[.string ⟨a.toArray⟩, .string ⟨b.toArray⟩, .bool c]):=by
 refine .tup _ [.string ⟨a.toArray⟩, .string ⟨b.toArray⟩, .bool c] rfl fun k p u hc hu=> ?_
 match k,hc,hu with
 | 0,hc,hu=>injection hc with hc;injection hu with hu;subst hc;subst hu;exact .str _
 | 1,hc,hu=>injection hc with hc;injection hu with hu;subst hc;subst hu;exact .str _
 | 2,hc,hu=>injection hc with hc;injection hu with hu;subst hc;subst hu;exact .bool _
 | k+3,hc,hu=>simp at hc
theorem call32 (s:List UInt8) (c:UInt8) (h:s.length<4294967281):PureCall Tryz.prog 32 [.str s, .str [c]] [] ⟨.tup [.str (brkC c s).1, .str (brkC c s).2.1, .bool (brkC c s).2.2], [], []⟩:=
 pure_still ⟨_,Tryz.func32,rfl,rfl⟩ (args_str2 s [c]) (rep_cut _ _ _) fun w hg=>by
  obtain ⟨m,hm⟩:=some_int hg
  refine (Sh.strings_Cut ⟨s.toArray⟩ ⟨#[c]⟩ m w (by show s.toArray.size<_;rw [List.size_toArray];exact h) hm).mono ?_
  rintro ev w' ⟨he,k,hw⟩
  refine ⟨?_,by rw [hw];exact keeps_drewN w k⟩
  rw [he]
  show Ending.returned (.tuple #[.string ⟨(Lib.cut s [c]).1.toArray⟩, .string ⟨(Lib.cut s [c]).2.1.toArray⟩, .bool (Lib.cut s [c]).2.2])=_
  rw [cut_brk]
theorem splitB_C (s:List UInt8) (c:UInt8):(Lib.splitB ⟨#[c]⟩ 0 (Lib.countB ⟨s.toArray⟩ ⟨#[c]⟩) ⟨s.toArray⟩).map Value.string=(splitC c s).map strV:=by
 have h:=Lib.splitB_data ⟨#[c]⟩ 0 (Lib.countB ⟨s.toArray⟩ ⟨#[c]⟩) ⟨s.toArray⟩
 have h2:Lib.splitK [c] 0 (Lib.count s [c]) s=splitC c s:=splitK_C c s
 have h3:(Lib.splitB ⟨#[c]⟩ 0 (Lib.countB ⟨s.toArray⟩ ⟨#[c]⟩) ⟨s.toArray⟩).map (·.data.toList)=splitC c s:=h.trans h2
 rw [←h3,List.map_map]
 exact List.map_congr_left fun x _=>by
  show Value.string x=Value.string ⟨x.data.toList.toArray⟩
  simp
theorem call53 (s:List UInt8) (c:UInt8) (h:s.length<4294967281):PureCall Tryz.prog 53 [.str s, .str [c]] [] ⟨.os 1000000000, [], [.row 0 9 1 (splitC c s).length (fl eStr (splitC c s))]⟩:=by
 have h1:1≤(⟨#[c]⟩:ByteArray).size:=Nat.le_refl 1
 have hN:Lib.countB ⟨s.toArray⟩ ⟨#[c]⟩+1=(splitC c s).length:=by
  rw [←Lib.splitB_all ⟨#[c]⟩ h1 0 _ ⟨s.toArray⟩ rfl,←List.length_map (f:=Value.string),splitB_C,List.length_map]
 refine pure_new2 (vs:=(splitC c s).map strV) ⟨_,Tryz.func53,rfl,rfl⟩ (args_str2 s [c]) (fun X γ w=>strs_rows (splitC c s)) fun w hg=> ?_
 obtain ⟨m,hm⟩:=some_int hg
 refine (Sh.strings_Split ⟨s.toArray⟩ ⟨#[c]⟩ m w (by show s.toArray.size<_;rw [List.size_toArray];exact h) hm h1).mono ?_
 rintro ev w' ⟨he,hw⟩
 rw [splitB_C] at hw
 rw [hN] at he
 have hle:=(splitC_len c s).1
 have hnew:w'.heap[w.heap.size]? =some (.cells ((splitC c s).map strV).toArray 9 (0,0)):=by
  rw [hw]
  show (w.heap.push _)[w.heap.size]? =_
  simp
 refine ⟨_,he,⟨by simp, .inr ⟨w.heap.size,_,_,rfl,Nat.le_refl _,hnew,Nat.le_refl _,by unfold maxLen;omega,by simp,by simp only [Nat.mul_one];exact List.take_of_length_le (by simp)⟩⟩,by rw [hw];exact Keeps.alloc _ _ _⟩
def wStep:List UInt8:= [115,116,101,112]
def wSite:List UInt8:= [115,105,116,101]
def wCond:List UInt8:= [99,111,110,100,105,116,105,111,110]
def wBy:List UInt8:= [98,121]
def wBounds:List UInt8:= [98,111,117,110,100,115]
def wPlan:List UInt8:= [112,108,97,110]
def badW (w:List (List UInt8)):Prop:=w.length≠8∨w.getD 0 default≠wStep∨w.getD 2 default≠wSite∨w.getD 4 default≠wCond∨w.getD 6 default≠wBy
instance (w:List (List UInt8)):Decidable (badW w):=by unfold badW;infer_instance
theorem badW_iff {L:List (List UInt8)} {b:Bool} (h:(bif bif bif bif ((L.length:Int) != 8) then true else !(L.getD (Int.toNat 0) default== [115,116,101,112]) then true
   else !(L.getD (Int.toNat 2) default== [115,105,116,101]) then true else !(L.getD (Int.toNat 4) default== [99,111,110,100,105,116,105,111,110]) then true else !(L.getD (Int.toNat 6) default== [98,121]))=b):badW L↔b=true:=by
 subst h
 have e:((L.length:Int) != 8)=decide (L.length≠8):=by
  by_cases h:L.length=8
  ·rw [h];rfl
  ·rw [decide_eq_true h];exact bne_iff_ne.2 (by omega)
 rw [e,show Int.toNat 0=0 from rfl,show Int.toNat 2=2 from rfl,show Int.toNat 4=4 from rfl,show Int.toNat 6=6 from rfl]
 unfold badW wStep wSite wCond wBy
 generalize L.getD 0 default=x0
 generalize L.getD 2 default=x2
 generalize L.getD 4 default=x4
 generalize L.getD 6 default=x6
 simp only [Bool.cond_true_left,Bool.or_eq_true,Bool.not_eq_true',beq_eq_false_iff_ne,decide_eq_true_eq]
 simp only [or_assoc]
def nW (w:List (List UInt8)) (k:Nat):Int:=(numberF (w.getD k default)).getD 0
def isW (w:List (List UInt8)) (k:Nat):Bool:=(numberF (w.getD k default)).isSome
def byN (s:List UInt8):Int:=if s=wBounds then -1 else if s=wPlan then -2 else (numberF s).getD 0
def byI (s:List UInt8):Bool:=if s=wBounds then true else if s=wPlan then true else (numberF s).isSome
def lineW (w:List (List UInt8)):Vi×Bool:=if badW w then (vi0,false) else
 (⟨nW w 1,nW w 3,nW w 5,byN (w.getD 7 default)⟩,bif (bif (bif isW w 1 then isW w 3 else false) then isW w 5 else false) then byI (w.getD 7 default) else false)
def c33L1:C:=(sr [kk 48 (.bi false .lss 47 46)] (.seq (.cond 48 .skip (.exit 0)) (.seq (.block 1 (sr [km 49 47,kk 50 (.ia 1 45 47),kk 51 (.ld 1 false 50),km 7 49,km 8 51] (.block 2 (sr [km 70 7,kk 71 (.bi false .eql 70 (cn 3)),km 72 71,kg 73 72 true (.mv 5),kg 74 72 true (.ia 1 73 (cn 7)),kg 75 72 true (.ld 1 false 74),kg 76 72 true (.bi false .eql 75 (.c (.str [98,111,117,110,100,115]))),kk 77 (.pick 72 76 (.c (.bool false))),km 69 77] (.cond 69 (.reg [km 78 8,kk 79 (.nc 78),kz (.st 1 79 (cn (-1)))]) (sr [km 81 7,kk 82 (.bi false .eql 81 (cn 3)),km 83 82,kg 84 83 true (.mv 5),kg 85 83 true (.ia 1 84 (cn 7)),kg 86 83 true (.ld 1 false 85),kg 87 83 true (.bi false .eql 86 (.c (.str [112,108,97,110]))),kk 88 (.pick 83 87 (.c (.bool false))),km 80 88] (.cond 80 (.reg [km 89 8,kk 90 (.nc 89),kz (.st 1 90 (cn (-2)))]) (sr [km 53 5,km 54 7,kk 55 (.bi false .mul (cn 2) 54),kk 56 (.bi false .add 55 (cn 1)),kk 57 (.ia 1 53 56),kk 58 (.ld 1 false 57),kk 59 (cl 54 [58]),km 52 59,kk 60 (.ex 52 0),kk 61 (.ex 52 1),km 9 60,km 10 61] (.reg [km 62 8,km 63 9,km 64 6,km 65 64,kg 66 65 true (.mv 10),kk 67 (.pick 65 66 (.c (.bool false))),kk 68 (.nc 62),kz (.st 1 68 63),km 6 67]))))))))) (.reg [kk 91 (.bi false .add 47 (cn 1)),km 47 91]))))
def c33:C:=(sr [kk 2 (.al [(.int .i64 0),(.int .i64 0),(.int .i64 0),(.int .i64 0)]),kk 3 (.mv (.c (.bool false)))] (sr [kk 4 (.al [(.int .i64 0),(.int .i64 0),(.int .i64 0),(.int .i64 0)])] (sr [km 11 0,kk 12 (cl 53 [11,(.c (.str [32]))]),km 5 12] (.seq (sr [km 13 5,kk 14 (.len 13),kk 15 (.bi false .neq 14 (cn 8)),km 16 15,kg 17 16 false (.mv 5),kg 18 16 false (.ia 1 17 (cn 0)),kg 19 16 false (.ld 1 false 18),kg 20 16 false (.bi false .neq 19 (.c (.str [115,116,101,112]))),kk 21 (.pick 16 (.c (.bool true)) 20),km 22 21,kg 23 22 false (.mv 5),kg 24 22 false (.ia 1 23 (cn 2)),kg 25 22 false (.ld 1 false 24),kg 26 22 false (.bi false .neq 25 (.c (.str [115,105,116,101]))),kk 27 (.pick 22 (.c (.bool true)) 26),km 28 27,kg 29 28 false (.mv 5),kg 30 28 false (.ia 1 29 (cn 4)),kg 31 28 false (.ld 1 false 30),kg 32 28 false (.bi false .neq 31 (.c (.str [99,111,110,100,105,116,105,111,110]))),kk 33 (.pick 28 (.c (.bool true)) 32),km 34 33,kg 35 34 false (.mv 5),kg 36 34 false (.ia 1 35 (cn 6)),kg 37 34 false (.ld 1 false 36),kg 38 34 false (.bi false .neq 37 (.c (.str [98,121]))),kk 39 (.pick 34 (.c (.bool true)) 38)] (.cond 39 (sr [kk 40 (.ld 4 true 4),kz (.st 4 2 40),kk 3 (.mv (.c (.bool false)))] .ret) .skip)) (sr [kk 6 (.mv (.c (.bool true)))] (.seq (sr [kk 41 (.fa 0 4),kk 42 (.fa 1 4),kk 43 (.fa 2 4),kk 44 (.fa 3 4),kk 45 (.bsx 1 [41,42,43,44]),kk 46 (.len 45),kk 47 (.mv (cn 0))] (.block 0 (.loop c33L1))) (sr [kk 92 (.ld 4 true 4),km 93 6,kz (.st 4 2 92),km 3 93] .ret)))))))
theorem fits33:fits Tryz.prog false Tryz.f33 1 94 [(2,some (4,true)),(3,none)]=some c33.er:=by kernel_rfl
def vJ (L:List (List UInt8)):Nat→Vi
 | 0=>⟨0,0,0,0⟩
 | 1=>⟨nW L 1,0,0,0⟩
 | 2=>⟨nW L 1,nW L 3,0,0⟩
 | 3=>⟨nW L 1,nW L 3,nW L 5,0⟩
 | _=>⟨nW L 1,nW L 3,nW L 5,byN (L.getD 7 default)⟩
def okJ (L:List (List UInt8)):Nat→Bool
 | 0=>true
 | 1=>isW L 1
 | 2=>bif isW L 1 then isW L 3 else false
 | 3=>bif (bif isW L 1 then isW L 3 else false) then isW L 5 else false
 | _=>bif (bif (bif isW L 1 then isW L 3 else false) then isW L 5 else false) then byI (L.getD 7 default) else false
theorem call33 (s:List UInt8) (hs:s.length<4294967281):PureCall Tryz.prog 33 [.str s] [] ⟨.tup [.agg (eVi (lineW (splitC 32 s)).1), .bool (lineW (splitC 32 s)).2], [], []⟩:=by
 refine pure_call mix Tryz.func33 fits33 rfl ?_
 conv=>whnf
 refine ⟨_,fun _=>call53 s 32 hs, ?_⟩
 have hL1:=splitC_len 32 s
 have hLs:∀k,k<(splitC 32 s).length→((splitC 32 s).getD k default).length≤4611686018427387904:=fun k hk=>by
  have:=hL1.2 _ (getD_mem hk);omega
 clear hL1
 generalize splitC 32 s=L at hLs⊢
 conv=>whnf
 refine ⟨?_,fun hc=> ?_,fun hc=> ?_⟩
 ·(try conv=>whnf)
  (repeat' (first | exact True.intro | exact fun _ h=>h | refine inR64_of ?_ ?_ | apply And.intro | refine maxLen_ge ?_))<;>(first | omega | decide | (dsimp only;omega) | (dsimp only [List.length_cons,List.length_nil];omega) | (intro hg;rw [hg];rfl) | (intro hg hh;rw [hg,hh];rfl) | (intro hg;simp [-List.getD_eq_getElem?_getD, -Int.default_eq_zero] at hg;first | omega | (refine inR64_of ?_ ?_<;>omega) | (constructor<;>omega)) | (simp [-List.getD_eq_getElem?_getD, -Int.default_eq_zero];done))
 ·have hb:badW L:=(badW_iff hc).2 rfl
  rw [show lineW L=(vi0,false) by unfold lineW;rw [if_pos hb]]
  conv=>whnf
  refine ⟨?_, [], ?_⟩
  ·(try conv=>whnf)
   (repeat' (first | exact True.intro | exact fun _ h=>h | refine inR64_of ?_ ?_ | apply And.intro | refine maxLen_ge ?_))<;>(first | omega | (dsimp only;omega))
  conv=>whnf
  refine ⟨rfl, ?_,trivial,trivial⟩
  all_goals repeat' (first | exact True.intro | refine leF_cons rfl ?_ ?_ | refine leS_cons rfl ?_ ?_ | (show PLe _ _ _ _;conv=>whnf) | (show SLe _ _ _ _;conv=>whnf) | (show PLeL _ _ _ _;conv=>whnf) | apply And.intro | rfl | exact Nat.le_refl _ | exact fun _ _=>rfl | exact rowEq0 _ _)
 have hb:¬badW L:=fun h=>absurd ((badW_iff hc).1 h) (by decide)
 have hl:L.length=8:=Classical.byContradiction fun h=>hb (.inl h)
 rw [show lineW L=(vJ L 4,okJ L 4) by unfold lineW;rw [if_neg hb];rfl]
 clear hb hc
 have h1:=hLs 1 (by omega)
 have h3:=hLs 3 (by omega)
 have h5:=hLs 5 (by omega)
 have h7:=hLs 7 (by omega)
 conv=>whnf
 refine ⟨?_, ?_⟩
 ·(try conv=>whnf)
  (repeat' (first | exact True.intro | exact fun _ h=>h | refine inR64_of ?_ ?_ | apply And.intro | refine maxLen_ge ?_))<;>(first | omega | (dsimp only;omega))
 refine LSem.loop (n:=94) mix (α:=Nat) (fun j=>j≤4)
  (fun j=> [(2, .pt 32 0 0),(4, .pt 64 0 0),(5, .os 192),(6, .bool (okJ L j)),(45, .rf (some (1,4)) 720),(46, .int .i64 4),(47, .int .i64 j)])
  (fun j=> [(32, .box [.int .i64 0, .int .i64 0, .int .i64 0, .int .i64 0]),(64, .box (eVi (vJ L j))),(192, .row 0 9 1 L.length (fl eStr L)),(720, .box [.pt 64 0 0, .pt 64 0 1, .pt 64 0 2, .pt 64 0 3])]) (fun j=>4 - j) 0 ?_ ?_ ?_
 ·exact Nat.zero_le _
 ·refine ⟨rfl,rfl, ?_, ?_⟩
  all_goals repeat' (first | exact True.intro | refine leF_cons rfl ?_ ?_ | refine leS_cons rfl ?_ ?_ | (show PLe _ _ _ _;conv=>whnf) | (show SLe _ _ _ _;conv=>whnf) | (show PLeL _ _ _ _;conv=>whnf) | apply And.intro | rfl | exact Nat.le_refl _ | exact fun _ _=>rfl | exact rowEq0 _ _)
 ·intro j hj
  have h01234:j=0∨j=1∨j=2∨j=3∨j=4:=by omega
  rcases h01234 with rfl | rfl | rfl | rfl | rfl
  ·conv=>whnf
   refine ⟨trivial,fun hc=> ?_,fun hc=>(by cases hc)⟩
   conv=>whnf
   refine ⟨?_,fun h=>(by cases h),fun h=> ?_⟩
   ·(try conv=>whnf)
    (repeat' (first | exact True.intro | exact fun _ h=>h | refine inR64_of ?_ ?_ | apply And.intro | refine maxLen_ge ?_))<;>(first | omega | decide | (dsimp only;omega) | (dsimp only [List.length_cons,List.length_nil];omega) | (intro hg;rw [hg];rfl) | (intro hg hh;rw [hg,hh];rfl) | (intro hg;simp [-List.getD_eq_getElem?_getD, -Int.default_eq_zero] at hg;first | omega | (refine inR64_of ?_ ?_<;>omega) | (constructor<;>omega)) | (simp [-List.getD_eq_getElem?_getD, -Int.default_eq_zero];done))
   conv=>whnf
   refine ⟨?_,fun h=>(by cases h),fun h=> ?_⟩
   ·(try conv=>whnf)
    (repeat' (first | exact True.intro | exact fun _ h=>h | refine inR64_of ?_ ?_ | apply And.intro | refine maxLen_ge ?_))<;>(first | omega | decide | (dsimp only;omega) | (dsimp only [List.length_cons,List.length_nil];omega) | (intro hg;rw [hg];rfl) | (intro hg hh;rw [hg,hh];rfl) | (intro hg;simp [-List.getD_eq_getElem?_getD, -Int.default_eq_zero] at hg;first | omega | (refine inR64_of ?_ ?_<;>omega) | (constructor<;>omega)) | (simp [-List.getD_eq_getElem?_getD, -Int.default_eq_zero];done))
   conv=>whnf
   refine ⟨_,fun _=>call54 (L.getD 1 default) h1, ?_⟩
   conv=>whnf
   refine ⟨?_,1,by omega,by omega,rfl,rfl, ?_, ?_⟩
   ·(try conv=>whnf)
    (repeat' (first | exact True.intro | exact fun _ h=>h | refine inR64_of ?_ ?_ | apply And.intro | refine maxLen_ge ?_))<;>(first | omega | decide | (dsimp only;omega) | (dsimp only [List.length_cons,List.length_nil];omega) | (intro hg;rw [hg];rfl) | (intro hg hh;rw [hg,hh];rfl) | (intro hg;simp [-List.getD_eq_getElem?_getD, -Int.default_eq_zero] at hg;first | omega | (refine inR64_of ?_ ?_<;>omega) | (constructor<;>omega)) | (simp [-List.getD_eq_getElem?_getD, -Int.default_eq_zero];done))
   all_goals repeat' (first | exact True.intro | refine leF_cons rfl ?_ ?_ | refine leS_cons rfl ?_ ?_ | (show PLe _ _ _ _;conv=>whnf) | (show SLe _ _ _ _;conv=>whnf) | (show PLeL _ _ _ _;conv=>whnf) | apply And.intro | rfl | exact Nat.le_refl _ | exact fun _ _=>rfl | exact rowEq0 _ _)
   all_goals first | omega | skip
  ·conv=>whnf
   refine ⟨trivial,fun hc=> ?_,fun hc=>(by cases hc)⟩
   conv=>whnf
   refine ⟨?_,fun h=>(by cases h),fun h=> ?_⟩
   ·(try conv=>whnf)
    (repeat' (first | exact True.intro | exact fun _ h=>h | refine inR64_of ?_ ?_ | apply And.intro | refine maxLen_ge ?_))<;>(first | omega | decide | (dsimp only;omega) | (dsimp only [List.length_cons,List.length_nil];omega) | (intro hg;rw [hg];rfl) | (intro hg hh;rw [hg,hh];rfl) | (intro hg;simp [-List.getD_eq_getElem?_getD, -Int.default_eq_zero] at hg;first | omega | (refine inR64_of ?_ ?_<;>omega) | (constructor<;>omega)) | (simp [-List.getD_eq_getElem?_getD, -Int.default_eq_zero];done))
   conv=>whnf
   refine ⟨?_,fun h=>(by cases h),fun h=> ?_⟩
   ·(try conv=>whnf)
    (repeat' (first | exact True.intro | exact fun _ h=>h | refine inR64_of ?_ ?_ | apply And.intro | refine maxLen_ge ?_))<;>(first | omega | decide | (dsimp only;omega) | (dsimp only [List.length_cons,List.length_nil];omega) | (intro hg;rw [hg];rfl) | (intro hg hh;rw [hg,hh];rfl) | (intro hg;simp [-List.getD_eq_getElem?_getD, -Int.default_eq_zero] at hg;first | omega | (refine inR64_of ?_ ?_<;>omega) | (constructor<;>omega)) | (simp [-List.getD_eq_getElem?_getD, -Int.default_eq_zero];done))
   conv=>whnf
   refine ⟨_,fun _=>call54 (L.getD 3 default) h3, ?_⟩
   conv=>whnf
   refine ⟨?_,2,by omega,by omega,rfl,rfl, ?_, ?_⟩
   ·(try conv=>whnf)
    (repeat' (first | exact True.intro | exact fun _ h=>h | refine inR64_of ?_ ?_ | apply And.intro | refine maxLen_ge ?_))<;>(first | omega | decide | (dsimp only;omega) | (dsimp only [List.length_cons,List.length_nil];omega) | (intro hg;rw [hg];rfl) | (intro hg hh;rw [hg,hh];rfl) | (intro hg;simp [-List.getD_eq_getElem?_getD, -Int.default_eq_zero] at hg;first | omega | (refine inR64_of ?_ ?_<;>omega) | (constructor<;>omega)) | (simp [-List.getD_eq_getElem?_getD, -Int.default_eq_zero];done))
   all_goals repeat' (first | exact True.intro | refine leF_cons rfl ?_ ?_ | refine leS_cons rfl ?_ ?_ | (show PLe _ _ _ _;conv=>whnf) | (show SLe _ _ _ _;conv=>whnf) | (show PLeL _ _ _ _;conv=>whnf) | apply And.intro | rfl | exact Nat.le_refl _ | exact fun _ _=>rfl | exact rowEq0 _ _)
   all_goals first | omega | skip
  ·conv=>whnf
   refine ⟨trivial,fun hc=> ?_,fun hc=>(by cases hc)⟩
   conv=>whnf
   refine ⟨?_,fun h=>(by cases h),fun h=> ?_⟩
   ·(try conv=>whnf)
    (repeat' (first | exact True.intro | exact fun _ h=>h | refine inR64_of ?_ ?_ | apply And.intro | refine maxLen_ge ?_))<;>(first | omega | decide | (dsimp only;omega) | (dsimp only [List.length_cons,List.length_nil];omega) | (intro hg;rw [hg];rfl) | (intro hg hh;rw [hg,hh];rfl) | (intro hg;simp [-List.getD_eq_getElem?_getD, -Int.default_eq_zero] at hg;first | omega | (refine inR64_of ?_ ?_<;>omega) | (constructor<;>omega)) | (simp [-List.getD_eq_getElem?_getD, -Int.default_eq_zero];done))
   conv=>whnf
   refine ⟨?_,fun h=>(by cases h),fun h=> ?_⟩
   ·(try conv=>whnf)
    (repeat' (first | exact True.intro | exact fun _ h=>h | refine inR64_of ?_ ?_ | apply And.intro | refine maxLen_ge ?_))<;>(first | omega | decide | (dsimp only;omega) | (dsimp only [List.length_cons,List.length_nil];omega) | (intro hg;rw [hg];rfl) | (intro hg hh;rw [hg,hh];rfl) | (intro hg;simp [-List.getD_eq_getElem?_getD, -Int.default_eq_zero] at hg;first | omega | (refine inR64_of ?_ ?_<;>omega) | (constructor<;>omega)) | (simp [-List.getD_eq_getElem?_getD, -Int.default_eq_zero];done))
   conv=>whnf
   refine ⟨_,fun _=>call54 (L.getD 5 default) h5, ?_⟩
   conv=>whnf
   refine ⟨?_,3,by omega,by omega,rfl,rfl, ?_, ?_⟩
   ·(try conv=>whnf)
    (repeat' (first | exact True.intro | exact fun _ h=>h | refine inR64_of ?_ ?_ | apply And.intro | refine maxLen_ge ?_))<;>(first | omega | decide | (dsimp only;omega) | (dsimp only [List.length_cons,List.length_nil];omega) | (intro hg;rw [hg];rfl) | (intro hg hh;rw [hg,hh];rfl) | (intro hg;simp [-List.getD_eq_getElem?_getD, -Int.default_eq_zero] at hg;first | omega | (refine inR64_of ?_ ?_<;>omega) | (constructor<;>omega)) | (simp [-List.getD_eq_getElem?_getD, -Int.default_eq_zero];done))
   all_goals repeat' (first | exact True.intro | refine leF_cons rfl ?_ ?_ | refine leS_cons rfl ?_ ?_ | (show PLe _ _ _ _;conv=>whnf) | (show SLe _ _ _ _;conv=>whnf) | (show PLeL _ _ _ _;conv=>whnf) | apply And.intro | rfl | exact Nat.le_refl _ | exact fun _ _=>rfl | exact rowEq0 _ _)
   all_goals first | omega | skip
  ·conv=>whnf
   refine ⟨trivial,fun hc=> ?_,fun hc=>(by cases hc)⟩
   conv=>whnf
   refine ⟨?_,fun hb=> ?_,fun hb=> ?_⟩
   ·(try conv=>whnf)
    (repeat' (first | exact True.intro | exact fun _ h=>h | refine inR64_of ?_ ?_ | apply And.intro | refine maxLen_ge ?_))<;>(first | omega | decide | (dsimp only;omega) | (dsimp only [List.length_cons,List.length_nil];omega) | (intro hg;rw [hg];rfl) | (intro hg hh;rw [hg,hh];rfl) | (intro hg;simp [-List.getD_eq_getElem?_getD, -Int.default_eq_zero] at hg;first | omega | (refine inR64_of ?_ ?_<;>omega) | (constructor<;>omega)) | (simp [-List.getD_eq_getElem?_getD, -Int.default_eq_zero];done))
   ·have hb:L.getD 7 default=wBounds:=beq_iff_eq.1 hb
    have e1:byN (L.getD 7 default)= -1:=by unfold byN;rw [if_pos hb]
    have e2:byI (L.getD 7 default)=true:=by unfold byI;rw [if_pos hb]
    conv=>whnf
    refine ⟨?_,4,by omega,by omega,rfl,rfl, ?_, ?_⟩
    ·(try conv=>whnf)
     (repeat' (first | exact True.intro | exact fun _ h=>h | refine inR64_of ?_ ?_ | apply And.intro | refine maxLen_ge ?_))<;>(first | omega | (dsimp only;omega))
    all_goals repeat' (first | exact True.intro | refine leF_cons rfl ?_ ?_ | refine leS_cons rfl ?_ ?_ | (show PLe _ _ _ _;conv=>whnf) | (show SLe _ _ _ _;conv=>whnf) | (show PLeL _ _ _ _;conv=>whnf) | apply And.intro | rfl | exact Nat.le_refl _ | exact fun _ _=>rfl | exact rowEq0 _ _)
    all_goals first | (show _=byN _;rw [e1];done) | (show _=(bif okJ L 3 then byI _ else false);rw [e2];cases okJ L 3<;>rfl) | omega | skip
   have hb1:L.getD 7 default≠wBounds:=beq_eq_false_iff_ne.1 hb
   conv=>whnf
   refine ⟨?_,fun hb=> ?_,fun hb=> ?_⟩
   ·(try conv=>whnf)
    (repeat' (first | exact True.intro | exact fun _ h=>h | refine inR64_of ?_ ?_ | apply And.intro | refine maxLen_ge ?_))<;>(first | omega | decide | (dsimp only;omega) | (dsimp only [List.length_cons,List.length_nil];omega) | (intro hg;rw [hg];rfl) | (intro hg hh;rw [hg,hh];rfl) | (intro hg;simp [-List.getD_eq_getElem?_getD, -Int.default_eq_zero] at hg;first | omega | (refine inR64_of ?_ ?_<;>omega) | (constructor<;>omega)) | (simp [-List.getD_eq_getElem?_getD, -Int.default_eq_zero];done))
   ·have hb:L.getD 7 default=wPlan:=beq_iff_eq.1 hb
    have e1:byN (L.getD 7 default)= -2:=by unfold byN;rw [if_neg hb1,if_pos hb]
    have e2:byI (L.getD 7 default)=true:=by unfold byI;rw [if_neg hb1,if_pos hb]
    conv=>whnf
    refine ⟨?_,4,by omega,by omega,rfl,rfl, ?_, ?_⟩
    ·(try conv=>whnf)
     (repeat' (first | exact True.intro | exact fun _ h=>h | refine inR64_of ?_ ?_ | apply And.intro | refine maxLen_ge ?_))<;>(first | omega | (dsimp only;omega))
    all_goals repeat' (first | exact True.intro | refine leF_cons rfl ?_ ?_ | refine leS_cons rfl ?_ ?_ | (show PLe _ _ _ _;conv=>whnf) | (show SLe _ _ _ _;conv=>whnf) | (show PLeL _ _ _ _;conv=>whnf) | apply And.intro | rfl | exact Nat.le_refl _ | exact fun _ _=>rfl | exact rowEq0 _ _)
    all_goals first | (show _=byN _;rw [e1];done) | (show _=(bif okJ L 3 then byI _ else false);rw [e2];cases okJ L 3<;>rfl) | omega | skip
   have hb2:L.getD 7 default≠wPlan:=beq_eq_false_iff_ne.1 hb
   have e1:byN (L.getD 7 default)=nW L 7:=by unfold byN;rw [if_neg hb1,if_neg hb2];rfl
   have e2:byI (L.getD 7 default)=isW L 7:=by unfold byI;rw [if_neg hb1,if_neg hb2];rfl
   conv=>whnf
   refine ⟨_,fun _=>call54 (L.getD 7 default) h7, ?_⟩
   conv=>whnf
   refine ⟨?_,4,by omega,by omega,rfl,rfl, ?_, ?_⟩
   ·(try conv=>whnf)
    (repeat' (first | exact True.intro | exact fun _ h=>h | refine inR64_of ?_ ?_ | apply And.intro | refine maxLen_ge ?_))<;>(first | omega | decide | (dsimp only;omega) | (dsimp only [List.length_cons,List.length_nil];omega) | (intro hg;rw [hg];rfl) | (intro hg hh;rw [hg,hh];rfl) | (intro hg;simp [-List.getD_eq_getElem?_getD, -Int.default_eq_zero] at hg;first | omega | (refine inR64_of ?_ ?_<;>omega) | (constructor<;>omega)) | (simp [-List.getD_eq_getElem?_getD, -Int.default_eq_zero];done))
   all_goals repeat' (first | exact True.intro | refine leF_cons rfl ?_ ?_ | refine leS_cons rfl ?_ ?_ | (show PLe _ _ _ _;conv=>whnf) | (show SLe _ _ _ _;conv=>whnf) | (show PLeL _ _ _ _;conv=>whnf) | apply And.intro | rfl | exact Nat.le_refl _ | exact fun _ _=>rfl | exact rowEq0 _ _)
   all_goals first | (show _=byN _;rw [e1];rfl) | (show _=(bif okJ L 3 then byI _ else false);rw [e2];rfl) | omega | skip
  ·conv=>whnf
   refine ⟨trivial,fun hc=>(by cases hc),fun hc=> ?_⟩
   conv=>whnf
   refine ⟨?_, [], ?_⟩
   ·(try conv=>whnf)
    (repeat' (first | exact True.intro | exact fun _ h=>h | refine inR64_of ?_ ?_ | apply And.intro | refine maxLen_ge ?_))<;>(first | omega | (dsimp only;omega))
   conv=>whnf
   refine ⟨rfl, ?_,trivial,trivial⟩
   all_goals repeat' (first | exact True.intro | refine leF_cons rfl ?_ ?_ | refine leS_cons rfl ?_ ?_ | (show PLe _ _ _ _;conv=>whnf) | (show SLe _ _ _ _;conv=>whnf) | (show PLeL _ _ _ _;conv=>whnf) | apply And.intro | rfl | exact Nat.le_refl _ | exact fun _ _=>rfl | exact rowEq0 _ _)
def c17L1:C:=(.seq (sr [km 12 0,kk 13 (.bi false .neq 12 (.c (.str [])))] (.cond 13 .skip (.exit 0))) (.seq (.block 1 (sr [km 17 0,kk 18 (cl 32 [17,(.c (.str [10]))]),km 16 18,kk 19 (.ex 16 0),kk 20 (.ex 16 1),kk 21 (.ex 16 2),km 7 19,km 8 20,km 9 21] (sr [km 23 7,kk 24 (cl 33 [23]),km 22 24,kk 25 (.ex 22 0),kk 26 (.ex 22 1),kk 10 (.al [(.int .i64 0),(.int .i64 0),(.int .i64 0),(.int .i64 0)]),kz (.st 4 10 25),km 11 26] (.seq (sr [km 27 9,kk 28 (.un false .not 27),km 29 28,kg 30 29 false (.mv 11),kg 31 29 false (.un false .not 30),kk 32 (.pick 29 (.c (.bool true)) 31)] (.cond 32 (sr [km 33 6,kk 2 (.mv (.c (.nil 4))),km 3 33,kk 4 (.mv (cn 7))] .ret) .skip)) (.reg [km 34 8,km 35 5,kk 36 (.ld 4 true 10),kk 37 (.bs 56 4 [36]),kk 38 (.app 56 4 32 35 37),km 0 34,km 5 38]))))) (.reg [km 14 6,kk 15 (.bi false .add 14 (cn 1)),km 6 15])))
def c17:C:=(sr [kk 2 (.mv (.c (.nil 4))),kk 3 (.mv (cn 0)),kk 4 (.mv (cn 0))] (sr [kk 5 (.mv (.c (.nil 4)))] (.seq (sr [kk 6 (.mv (cn 1))] (.block 0 (.loop c17L1))) (sr [km 39 5,km 2 39,kk 3 (.mv (cn 0)),kk 4 (.mv (cn 0))] .ret))))
theorem fits17:fits Tryz.prog false Tryz.f17 1 40 [(2,none),(3,none),(4,none)]=some c17.er:=by kernel_rfl
def pLinesV:Nat→List (List UInt8)→List Vi→List Vi×Int×Int
 | _, [],t=>(t,0,0)
 | n, [x],t=>if x≠ [] then ([],n,7) else (t,0,0)
 | n,x::y::r,t=>if (lineW (splitC 32 x)).2=false then ([],n,7) else pLinesV (n+1) (y::r) (t++ [(lineW (splitC 32 x)).1])
def parseV (s:List UInt8):List Vi×Int×Int:=pLinesV 1 (splitC 10 s) []
theorem pLinesV_cons {n:Nat} {x:List UInt8} {r:List (List UInt8)} {t:List Vi} (h:r≠ []):pLinesV n (x::r) t=if (lineW (splitC 32 x)).2=false then ([],(n:Int),(7:Int)) else pLinesV (n+1) r (t++ [(lineW (splitC 32 x)).1]):=by
 cases r with
 | nil=>exact absurd rfl h
 | cons y r=>rfl
structure QInv (s0:List UInt8) (n:Nat) (s:List UInt8) (t:List Vi):Prop where
 h1:1≤n
 eq:pLinesV n (splitC 10 s) t=parseV s0
 ln:n+(splitC 10 s).length≤s0.length+3
 sl:s.length≤s0.length
 tl:t.length≤n
theorem call17 (s0:List UInt8) (hs:s0.length<4294967281):PureCall Tryz.prog 17 [.str s0] [] ⟨.tup [.sl 0 4 (parseV s0).1.length (fl eVi (parseV s0).1), .int .i64 (parseV s0).2.1, .int .i64 (parseV s0).2.2], [], []⟩:=by
 refine pure_call mix Tryz.func17 fits17 rfl ?_
 conv=>whnf
 refine ⟨trivial, ?_⟩
 refine LSem.adopt 5 1000000 56 4 4 rfl rfl ?_
 refine LSem.loop (n:=40) mix (α:=Nat×List UInt8×List Vi) (fun x=>QInv s0 x.1 x.2.1 x.2.2)
  (fun x=> [(0, .str x.2.1),(5, .os 1000000),(6, .int .i64 x.1)])
  (fun x=> [(1000000, .row 0 56 4 x.2.2.length (fl eVi x.2.2))])
  (fun x=>(splitC 10 x.2.1).length) (1,s0, []) ?_ ?_ ?_
 ·have:=(splitC_len 10 s0).1
  exact ⟨Nat.le_refl _,rfl,by dsimp only;omega,Nat.le_refl _,Nat.zero_le _⟩
 ·refine ⟨rfl,rfl, ?_, ?_⟩
  all_goals repeat' (first | exact True.intro | refine leF_cons rfl ?_ ?_ | refine leS_cons rfl ?_ ?_ | (show PLe _ _ _ _;conv=>whnf) | (show SLe _ _ _ _;conv=>whnf) | (show PLeL _ _ _ _;conv=>whnf) | apply And.intro | rfl | exact Nat.le_refl _ | exact fun _ _=>rfl | exact rowEq0 _ _)
 ·intro x hx
  obtain ⟨n,s,t⟩:=x
  dsimp only at hx
  have hbr:=splitC_brk 10 s
  have hlen:=brkC_len 10 s
  have hsn:=hx.sl
  have hln:=hx.ln
  have heq:=hx.eq
  have htl:=hx.tl
  conv=>whnf
  refine ⟨?_,fun hc=> ?_,fun hc=> ?_⟩
  ·(try conv=>whnf)
   (repeat' (first | exact True.intro | exact fun _ h=>h | refine inR64_of ?_ ?_ | apply And.intro | refine maxLen_ge ?_))<;>(first | omega | (dsimp only;omega))
  ·have hne:s≠ []:=by
     have h:(!(s== []))=true:=hc
     simpa using h
   conv=>whnf
   refine ⟨_,fun _=>call32 s 10 (by omega), ?_⟩
   generalize brkC 10 s=B at hbr hlen⊢
   obtain ⟨one,rest,ended⟩:=B
   dsimp only at hbr hlen
   conv=>whnf
   refine ⟨_,fun _=>call33 one (by omega), ?_⟩
   cases ended with
   | false=>
     generalize lineW (splitC 32 one)=R
     conv=>whnf
     refine ⟨?_,fun _=> ?_,fun h=>(by cases h)⟩
     ·(try conv=>whnf)
      (repeat' (first | exact True.intro | exact fun _ h=>h | refine inR64_of ?_ ?_ | apply And.intro | refine maxLen_ge ?_))<;>(first | omega | decide | (dsimp only;omega) | (dsimp only [List.length_cons,List.length_nil];omega) | (intro hg;rw [hg];rfl) | (intro hg hh;rw [hg,hh];rfl) | (intro hg;simp [-List.getD_eq_getElem?_getD, -Int.default_eq_zero] at hg;first | omega | (refine inR64_of ?_ ?_<;>omega) | (constructor<;>omega)) | (simp [-List.getD_eq_getElem?_getD, -Int.default_eq_zero];done))
     rw [if_neg (by decide)] at hbr
     have hp:parseV s0=([],(n:Int),7):=by
      rw [←heq,hbr]
      show (if s≠ [] then _ else _)=_
      rw [if_pos hne]
     rw [hp]
     conv=>whnf
     refine ⟨?_, [], ?_⟩
     ·(try conv=>whnf)
      (repeat' (first | exact True.intro | exact fun _ h=>h | refine inR64_of ?_ ?_ | apply And.intro | refine maxLen_ge ?_))<;>(first | omega | (dsimp only;omega))
     conv=>whnf
     refine ⟨rfl, ?_,trivial,trivial⟩
     all_goals repeat' (first | exact True.intro | refine leF_cons rfl ?_ ?_ | refine leS_cons rfl ?_ ?_ | (show PLe _ _ _ _;conv=>whnf) | (show SLe _ _ _ _;conv=>whnf) | (show PLeL _ _ _ _;conv=>whnf) | apply And.intro | rfl | exact Nat.le_refl _ | exact fun _ _=>rfl | exact rowEq0 _ _)
   | true=>
     rw [if_pos rfl] at hbr
     have hl1:=hlen.2.2 rfl
     have hnr:(splitC 10 rest).length+1=(splitC 10 s).length:=by rw [hbr];rfl
     have hcons:=pLinesV_cons (n:=n) (x:=one) (t:=t) (splitC_ne 10 rest)
     rw [←hbr,heq] at hcons
     generalize lineW (splitC 32 one)=R at hcons⊢
     obtain ⟨v,b⟩:=R
     dsimp only at hcons
     cases b with
     | false=>
       conv=>whnf
       refine ⟨?_,fun _=> ?_,fun h=>(by cases h)⟩
       ·(try conv=>whnf)
        (repeat' (first | exact True.intro | exact fun _ h=>h | refine inR64_of ?_ ?_ | apply And.intro | refine maxLen_ge ?_))<;>(first | omega | decide | (dsimp only;omega) | (dsimp only [List.length_cons,List.length_nil];omega) | (intro hg;rw [hg];rfl) | (intro hg hh;rw [hg,hh];rfl) | (intro hg;simp [-List.getD_eq_getElem?_getD, -Int.default_eq_zero] at hg;first | omega | (refine inR64_of ?_ ?_<;>omega) | (constructor<;>omega)) | (simp [-List.getD_eq_getElem?_getD, -Int.default_eq_zero];done))
       rw [if_pos rfl] at hcons
       rw [hcons]
       conv=>whnf
       refine ⟨?_, [], ?_⟩
       ·(try conv=>whnf)
        (repeat' (first | exact True.intro | exact fun _ h=>h | refine inR64_of ?_ ?_ | apply And.intro | refine maxLen_ge ?_))<;>(first | omega | (dsimp only;omega))
       conv=>whnf
       refine ⟨rfl, ?_,trivial,trivial⟩
       all_goals repeat' (first | exact True.intro | refine leF_cons rfl ?_ ?_ | refine leS_cons rfl ?_ ?_ | (show PLe _ _ _ _;conv=>whnf) | (show SLe _ _ _ _;conv=>whnf) | (show PLeL _ _ _ _;conv=>whnf) | apply And.intro | rfl | exact Nat.le_refl _ | exact fun _ _=>rfl | exact rowEq0 _ _)
     | true=>
       conv=>whnf
       refine ⟨?_,fun h=>(by cases h),fun _=> ?_⟩
       ·(try conv=>whnf)
        (repeat' (first | exact True.intro | exact fun _ h=>h | refine inR64_of ?_ ?_ | apply And.intro | refine maxLen_ge ?_))<;>(first | omega | decide | (dsimp only;omega) | (dsimp only [List.length_cons,List.length_nil];omega) | (intro hg;rw [hg];rfl) | (intro hg hh;rw [hg,hh];rfl) | (intro hg;simp [-List.getD_eq_getElem?_getD, -Int.default_eq_zero] at hg;first | omega | (refine inR64_of ?_ ?_<;>omega) | (constructor<;>omega)) | (simp [-List.getD_eq_getElem?_getD, -Int.default_eq_zero];done))
       rw [if_neg (by decide)] at hcons
       have q:=fl_push eVi t v
       have hxl:(t++ [v]).length=t.length+1:=by simp
       conv=>whnf
       refine ⟨?_,(n+1,rest,t++ [v]),⟨by dsimp only;omega,hcons.symm, ?_, ?_, ?_⟩, ?_,rfl,rfl, ?_, ?_⟩
       ·(try conv=>whnf)
        (repeat' (first | exact True.intro | exact fun _ h=>h | refine inR64_of ?_ ?_ | apply And.intro | refine maxLen_ge ?_))<;>(first | omega | decide | (dsimp only;omega) | (dsimp only [List.length_cons,List.length_nil];omega) | (intro hg;rw [hg];rfl) | (intro hg hh;rw [hg,hh];rfl) | (intro hg;simp [-List.getD_eq_getElem?_getD, -Int.default_eq_zero] at hg;first | omega | (refine inR64_of ?_ ?_<;>omega) | (constructor<;>omega)) | (simp [-List.getD_eq_getElem?_getD, -Int.default_eq_zero];done))
       ·dsimp only;omega
       ·dsimp only;omega
       ·dsimp only;rw [hxl];omega
       ·dsimp only;omega
       all_goals repeat' (first | exact True.intro | refine leF_cons rfl ?_ ?_ | refine leS_cons rfl ?_ ?_ | (show PLe _ _ _ _;conv=>whnf) | (show SLe _ _ _ _;conv=>whnf) | (show PLeL _ _ _ _;conv=>whnf) | apply And.intro | rfl | exact Nat.le_refl _ | exact fun _ _=>rfl | exact rowEq0 _ _)
       all_goals first | exact q | (dsimp only;rw [hxl];rfl) | (dsimp only;rw [hxl];done) | (dsimp only;omega) | skip
  ·have hs0:s= []:=by
     have h:(!(s== []))=false:=hc
     simpa using h
   subst hs0
   have hp:parseV s0=(t,0,0):=by
    rw [←heq]
    show (if ([]:List UInt8)≠ [] then _ else _)=_
    rw [if_neg (by simp)]
   rw [hp]
   conv=>whnf
   refine ⟨?_, [], ?_⟩
   ·(try conv=>whnf)
    (repeat' (first | exact True.intro | exact fun _ h=>h | refine inR64_of ?_ ?_ | apply And.intro | refine maxLen_ge ?_))<;>(first | omega | (dsimp only;omega))
   conv=>whnf
   refine ⟨rfl, ?_,trivial,trivial⟩
   all_goals repeat' (first | exact True.intro | refine leF_cons rfl ?_ ?_ | refine leS_cons rfl ?_ ?_ | (show PLe _ _ _ _;conv=>whnf) | (show SLe _ _ _ _;conv=>whnf) | (show PLeL _ _ _ _;conv=>whnf) | apply And.intro | rfl | exact Nat.le_refl _ | exact fun _ _=>rfl | exact rowEq0 _ _)
open Go.RowKit Go.Shelf
variable {P:Program} {ρ:Ren}
theorem Held.drew {T e:TypeId} {b:Nat} {p v:Value} {s:List UInt8} {w:World} (h:Held T e b p v s w):Held T e b p v s w.drew:=⟨h.cells,h.own,h.ne⟩
theorem Held.alloc0 {T e:TypeId} {b:Nat} {p v:Value} {s:List UInt8} {w:World} (h:Held T e b p v s w) (o:Obj):Held T e b p v s (w.alloc o):=by
 refine ⟨(Lib.alloc_old w o b h.lt).trans h.cells, ?_,h.ne⟩
 obtain ⟨hl,ho⟩:=h.own
 refine ⟨hl, ?_⟩
 rcases ho with ho | ⟨g,cap,cur,fz,hv,h0,hg,rest⟩
 ·exact .inl ho
 ·exact .inr ⟨g,cap,cur,fz,hv,h0,(Lib.alloc_old w o g (Array.getElem?_eq_some_iff.1 hg).1).trans hg,rest⟩
theorem held_nil (L:Lays.n169 P ρ) (X:Builder.Extra P ρ) {b:Nat} {p:Value} {w:World} (h:Held (ρ.t 72) (ρ.t 5) b p (.slice none 0 0) [] w):
  Calls P (ρ.f 169) #[.pointer (some ⟨b,0,none⟩)] w fun e w'=>e= .returned (.string ⟨[].toArray⟩)∧Held (ρ.t 72) (ρ.t 5) b p (.slice none 0 0) [] w'∧Keeps (fun k=>k=b∨(Value.slice none 0 0).ownBlock=some k) w w':=by
 have hUS:=Any.unsafeString_none L X
 have c1:w.drew.cell? ⟨b,1,none⟩=some (.slice none 0 0):=by
  have:w.drew.heap[b]? =some (.cells #[p, .slice none 0 0] (ρ.t 72) (0,0)):=h.cells
  rw [Lib.cell_of_heap this];rfl
 have hSD:(Builtin.unsafeSliceData_ #[(ρ.t 37)] (ρ.t 127) #[.slice none 0 0]).run P w.drew= .ok (.pointer none) w.drew:=rfl
 have mixed:=L.mixed
 have t72:=L.t72;have a72:=L.a72;have z72:=L.z72;have v72:=L.v72;have u72:=run_underlying L.t72
 have t70:=L.t70;have a70:=L.a70;have z70:=L.z70;have v70:=L.v70;have u70:=run_underlying L.t70
 have t37:=L.t37;have a37:=L.a37;have z37:=L.z37;have v37:=L.v37;have u37:=run_underlying L.t37
 have t127:=L.t127;have a127:=L.a127;have z127:=L.z127;have v127:=L.v127;have u127:=run_underlying L.t127
 have t3:=L.t3;have a3:=L.a3;have z3:=L.z3;have v3:=L.v3;have u3:=run_underlying L.t3
 have t9:=L.t9;have a9:=L.a9;have z9:=L.z9;have v9:=L.v9;have u9:=run_underlying L.t9
 have t5:=X.t5;have a5:=X.a5;have z5:=X.z5;have v5:=X.v5;have u5:=run_underlying X.t5
 go_enter L.f169,Body.n169_ntmps ρ
 go_wp2
 go_region_o
 all_goals (go_wp2;go_ret;exact ⟨rfl,h.drew,Keeps.drew _ w⟩)
theorem held_noroom (L:Lays.n169 P ρ) (X:Builder.Extra P ρ) {b g:Nat} {p:Value} {cur:Array Value} {fz:Nat×Nat} {w:World} (h:Held (ρ.t 72) (ρ.t 5) b p (.slice (some ⟨g,0,none⟩) 0 0) [] w) (hg:w.heap[g]? =some (.cells cur (ρ.t 5) fz)):
  Calls P (ρ.f 169) #[.pointer (some ⟨b,0,none⟩)] w fun e w'=>e= .returned (.string ⟨[].toArray⟩)∧Held (ρ.t 72) (ρ.t 5) b p (.slice (some ⟨g,0,none⟩) 0 0) [] w'∧Keeps (fun k=>k=b∨(Value.slice (some ⟨g,0,none⟩) 0 0).ownBlock=some k) w w':=by
 have hUS:=Any.unsafeString_none L X
 have hlt:=h.lt
 have c1:w.drew.cell? ⟨b,1,none⟩=some (.slice (some ⟨g,0,none⟩) 0 0):=by
  have:w.drew.heap[b]? =some (.cells #[p, .slice (some ⟨g,0,none⟩) 0 0] (ρ.t 72) (0,0)):=h.cells
  rw [Lib.cell_of_heap this];rfl
 have hSD:(Builtin.unsafeSliceData_ #[(ρ.t 37)] (ρ.t 127) #[.slice (some ⟨g,0,none⟩) 0 0]).run P w.drew= .ok (.pointer (some ⟨w.drew.heap.size,0,none⟩)) (w.drew.alloc (.view ⟨g,0,none⟩ (ρ.t 5))):=
  Lib.run_unsafeSliceData_zero w.drew _ _ (ρ.t 5) L.t127 ⟨g,0,none⟩ 0 ((ρ.t 5),cur.size) (by have hg':w.drew.heap[g]? =some (.cells cur (ρ.t 5) fz):=hg;simp [World.shape?,hg'])
 have c2:(w.drew.alloc (.view ⟨g,0,none⟩ (ρ.t 5))).cell? ⟨b,1,none⟩=some (.slice (some ⟨g,0,none⟩) 0 0):=by
  have:(w.drew.alloc (.view ⟨g,0,none⟩ (ρ.t 5))).heap[b]? =_:=(Lib.alloc_old w.drew _ b hlt).trans h.cells
  rw [Lib.cell_of_heap this];rfl
 have c3:(w.alloc (.view ⟨g,0,none⟩ (ρ.t 5))).drew.cell? ⟨b,1,none⟩=some (.slice (some ⟨g,0,none⟩) 0 0):=c2
 have c0:w.cell? ⟨b,1,none⟩=some (.slice (some ⟨g,0,none⟩) 0 0):=c1
 have mixed:=L.mixed
 have t72:=L.t72;have a72:=L.a72;have z72:=L.z72;have v72:=L.v72;have u72:=run_underlying L.t72
 have t70:=L.t70;have a70:=L.a70;have z70:=L.z70;have v70:=L.v70;have u70:=run_underlying L.t70
 have t37:=L.t37;have a37:=L.a37;have z37:=L.z37;have v37:=L.v37;have u37:=run_underlying L.t37
 have t127:=L.t127;have a127:=L.a127;have z127:=L.z127;have v127:=L.v127;have u127:=run_underlying L.t127
 have t3:=L.t3;have a3:=L.a3;have z3:=L.z3;have v3:=L.v3;have u3:=run_underlying L.t3
 have t9:=L.t9;have a9:=L.a9;have z9:=L.z9;have v9:=L.v9;have u9:=run_underlying L.t9
 have t5:=X.t5;have a5:=X.a5;have z5:=X.z5;have v5:=X.v5;have u5:=run_underlying X.t5
 go_enter L.f169,Body.n169_ntmps ρ
 go_wp2
 go_region_o
 all_goals (go_wp2;go_ret;exact ⟨rfl,h.drew.alloc0 _,(Keeps.drew _ w).trans (Keeps.alloc _ w.drew _)⟩)
theorem held_room (L:Lays.n169 P ρ) (X:Builder.Extra P ρ) {b g cap:Nat} {p:Value} {w:World} (hc0:cap≠0) (h:Held (ρ.t 72) (ρ.t 5) b p (.slice (some ⟨g,0,none⟩) 0 cap) [] w):
  Calls P (ρ.f 169) #[.pointer (some ⟨b,0,none⟩)] w fun e w'=>e= .returned (.string ⟨[].toArray⟩)∧Held (ρ.t 72) (ρ.t 5) b p (.slice (some ⟨g,0,none⟩) 0 cap) [] w'∧Keeps (fun k=>k=b∨(Value.slice (some ⟨g,0,none⟩) 0 cap).ownBlock=some k) w w':=by
 have hUS:=Any.unsafeString_none L X
 have c1:w.drew.cell? ⟨b,1,none⟩=some (.slice (some ⟨g,0,none⟩) 0 cap):=by
  have:w.drew.heap[b]? =some (.cells #[p, .slice (some ⟨g,0,none⟩) 0 cap] (ρ.t 72) (0,0)):=h.cells
  rw [Lib.cell_of_heap this];rfl
 have hSD:(Builtin.unsafeSliceData_ #[(ρ.t 37)] (ρ.t 127) #[.slice (some ⟨g,0,none⟩) 0 cap]).run P w.drew= .ok (.pointer (some ⟨g,0,none⟩)) w.drew:=
  Lib.run_unsafeSliceData_row _ _ _ _ _ _ hc0
 clear hc0
 have mixed:=L.mixed
 have t72:=L.t72;have a72:=L.a72;have z72:=L.z72;have v72:=L.v72;have u72:=run_underlying L.t72
 have t70:=L.t70;have a70:=L.a70;have z70:=L.z70;have v70:=L.v70;have u70:=run_underlying L.t70
 have t37:=L.t37;have a37:=L.a37;have z37:=L.z37;have v37:=L.v37;have u37:=run_underlying L.t37
 have t127:=L.t127;have a127:=L.a127;have z127:=L.z127;have v127:=L.v127;have u127:=run_underlying L.t127
 have t3:=L.t3;have a3:=L.a3;have z3:=L.z3;have v3:=L.v3;have u3:=run_underlying L.t3
 have t9:=L.t9;have a9:=L.a9;have z9:=L.z9;have v9:=L.v9;have u9:=run_underlying L.t9
 have t5:=X.t5;have a5:=X.a5;have z5:=X.z5;have v5:=X.v5;have u5:=run_underlying X.t5
 go_enter L.f169,Body.n169_ntmps ρ
 go_wp2
 go_region_o
 all_goals (go_wp2;go_ret;exact ⟨rfl,h.drew,Keeps.drew _ w⟩)
theorem held_empty (L:Lays.n169 P ρ) (X:Builder.Extra P ρ) {b:Nat} {p v:Value} {w:World} (h:Held (ρ.t 72) (ρ.t 5) b p v [] w):
  Calls P (ρ.f 169) #[.pointer (some ⟨b,0,none⟩)] w fun e w'=>e= .returned (.string ⟨[].toArray⟩)∧Held (ρ.t 72) (ρ.t 5) b p v [] w'∧Keeps (fun k=>k=b∨v.ownBlock=some k) w w':=by
 rcases h.own.2 with ⟨rfl,_⟩ | ⟨g,cap,cur,fz,rfl,_,hg,_⟩
 ·exact held_nil L X h
 ·by_cases hc0:cap=0
  ·subst hc0;exact held_noroom L X h hg
  ·exact held_room L X hc0 h
theorem call31z (s:List UInt8):PureCall Tryz.prog 31 [.pt 0 0 0] [.bld 119 5 s] ⟨.str s, [.bld 119 5 s], []⟩:=by
 cases s with
 | nil=>exact pure_bld ⟨_,Tryz.func31,rfl,rfl⟩ args_nil (fun _ _ _=> .str []) fun w b p v hp hH=>
   (held_empty Sh.lays169 Sh.bX_169 hH).mono fun ev w' ⟨he,h1,h2⟩=>⟨he,p,v,hp,h1,h2,fun g hg=> .inl hg⟩
 | cons x r=>exact call31 (x::r) (by simp)
def c16L2:C:=(sr [kk 28 (.bi true .lss 27 26)] (.seq (.cond 28 .skip (.exit 2)) (.seq (.block 3 (sr [kk 29 (.ia 1 25 27),kk 30 (.ld 1 false 29),km 8 30] (sr [km 31 8,kk 32 (.bi true .lss 31 (cn 0))] (.cond 32 (sr [kk 2 (.mv (.c (.str []))),kk 3 (.mv (cn 3))] .ret) .skip)))) (.reg [kk 33 (.bi true .add 27 (cn 1)),km 27 33]))))
def c16L1:C:=(sr [kk 13 (.bi true .lss 12 11)] (.seq (.cond 13 .skip (.exit 0)) (.seq (.block 1 (sr [kk 14 (.ia 4 10 12),kk 15 (.ld 4 true 14),kk 6 (.al [(.int .i64 0),(.int .i64 0),(.int .i64 0),(.int .i64 0)]),kz (.st 4 6 15)] (.seq (sr [kk 16 (.fa 0 6),kk 17 (.ld 1 false 16),kk 18 (.fa 1 6),kk 19 (.ld 1 false 18),kk 20 (.fa 2 6),kk 21 (.ld 1 false 20),kk 22 (.fa 3 6),kk 23 (.ld 1 false 22),kk 24 (.bi true .add 23 (cn 2)),kk 25 (.bs 3 1 [17,19,21,24]),kk 26 (.len 25),kk 27 (.mv (cn 0))] (.block 2 (.loop c16L2))) (.seq (sr [kk 34 (.fa 0 6),kk 35 (.ld 1 false 34),kk 36 (.fa 1 6),kk 37 (.ld 1 false 36),kk 38 (.fa 2 6),kk 39 (.ld 1 false 38),kk 40 (.fa 3 6),kk 41 (.ld 1 false 40),kk 42 (.mx [35,37,39,41]),kk 43 (.bi true .gtr 42 (cn 99999999))] (.cond 43 (sr [kk 2 (.mv (.c (.str []))),kk 3 (.mv (cn 3))] .ret) .skip)) (sr [kk 44 (.fa 3 6),kk 45 (.ld 1 false 44),kk 46 (cl 29 [45]),km 9 46] (.seq (sr [kk 47 (.fa 3 6),kk 48 (.ld 1 false 47)] (.block 4 (sr [kk 50 (.bi true .eql 48 (cn (-1))),km 49 50] (.cond 49 (.reg [kk 9 (.mv (.c (.str [98,111,117,110,100,115])))]) (sr [kk 52 (.bi true .eql 48 (cn (-2))),km 51 52] (.cond 51 (.reg [kk 9 (.mv (.c (.str [112,108,97,110])))]) .skip)))))) (.drw [kk 53 (.fa 0 6),kk 54 (.ld 1 false 53),kk 55 (cl 29 [54]),kk 56 (.bi true .add (.c (.str [115,116,101,112,32])) 55),kk 57 (.bi true .add 56 (.c (.str [32,115,105,116,101,32]))),kk 58 (.fa 1 6),kk 59 (.ld 1 false 58),kk 60 (cl 29 [59]),kk 61 (.bi true .add 57 60),kk 62 (.bi true .add 61 (.c (.str [32,99,111,110,100,105,116,105,111,110,32]))),kk 63 (.fa 2 6),kk 64 (.ld 1 false 63),kk 65 (cl 29 [64]),kk 66 (.bi true .add 62 65),kk 67 (.bi true .add 66 (.c (.str [32,98,121,32]))),km 68 9,kk 69 (.bi true .add 67 68),kk 70 (.bi true .add 69 (.c (.str [10]))),kk 71 (cl 30 [4,70])] (pl [(0,[5,6,10,11,15],53),(1,[5,6,10,11,15],54),(2,[5,6,10,11,15],55),(3,[5,6,7,10,11,12,15],56),(4,[5,6,7,10,11,12,15],57),(5,[10,11,15],58),(6,[10,11,15],59),(7,[10,11,15],60),(8,[10,11,12,15],61),(9,[10,11,12,15],62),(10,[15],63),(11,[15],64),(12,[15],65),(13,[15],66),(14,[15],67)])))))))) (.reg [kk 72 (.bi true .add 12 (cn 1)),km 12 72]))))
def c16:C:=(sr [kk 2 (.mv (.c (.str []))),kk 3 (.mv (cn 0))] (sr [kk 4 (.alb 119 5)] (.seq (sr [km 10 0,kk 11 (.len 10),kk 12 (.mv (cn 0))] (.block 0 (.loop c16L1))) (sr [kk 73 (cl 31 [4]),km 2 73,kk 3 (.mv (cn 0))] .ret))))
theorem fits16:fits Tryz.prog true Tryz.f16 1 74 [(2,none),(3,none)]=some c16.er:=by kernel_rfl
theorem wrap64 (n:Int):IntKind.wrap .i64 n=(n+9223372036854775808) % 18446744073709551616 - 9223372036854775808:=by
 simp [IntKind.wrap,IntKind.signed,IntKind.bits]
 omega
def badV (v:Vi):Prop:=v.t<0∨v.s<0∨v.c<0∨v.b< -2∨99999999<v.t∨99999999<v.s∨99999999<v.c∨99999999<v.b
instance (v:Vi):Decidable (badV v):=by unfold badV;infer_instance
def tSite:List UInt8:= [32,115,105,116,101,32]
def tCond:List UInt8:= [32,99,111,110,100,105,116,105,111,110,32]
def tBy:List UInt8:= [32,98,121,32]
def byT (b:Int):List UInt8:=if b= -1 then wBounds else if b= -2 then wPlan else Lib.itoa b
def lineVT (v:Vi):List UInt8:= [115,116,101,112,32]++Lib.itoa v.t++tSite++Lib.itoa v.s++tCond++Lib.itoa v.c++tBy++byT v.b++ [10]
def textV (l:List Vi):List UInt8:=l.flatMap lineVT
def formatV (l:List Vi):List UInt8×Int:=if l.any (fun v=>decide (badV v))=true then ([],3) else (textV l,0)
def V64 (v:Vi):Prop:=(-9223372036854775808≤v.t∧v.t≤9223372036854775807)∧(-9223372036854775808≤v.s∧v.s≤9223372036854775807)∧(-9223372036854775808≤v.c∧v.c≤9223372036854775807)∧(-9223372036854775808≤v.b∧v.b≤9223372036854775807)
theorem textV_take {l:List Vi} {i:Nat} (h:i<l.length):textV (l.take (i+1))=textV (l.take i)++lineVT (l.getD i default):=by
 rw [take_pushV h];simp [textV]
theorem byT_len {b:Int} (h1: -9223372036854775808≤b) (h2:b≤9223372036854775807):(byT b).length≤22:=by
 unfold byT wBounds wPlan
 split
 ·simp
 split
 ·simp
 ·have:=Lib.itoa_length_le b h1 h2;omega
theorem lineVT_len {v:Vi} (h:V64 v):(lineVT v).length≤120:=by
 obtain ⟨⟨a1,a2⟩,⟨b1,b2⟩,⟨c1,c2⟩,⟨d1,d2⟩⟩:=h
 have h1:=Lib.itoa_length_le v.t a1 a2
 have h2:=Lib.itoa_length_le v.s b1 b2
 have h3:=Lib.itoa_length_le v.c c1 c2
 have h4:=byT_len d1 d2
 simp only [lineVT,tSite,tCond,tBy,List.length_append,List.length_cons,List.length_nil]
 omega
theorem textV_len {l:List Vi} (hV:∀i,i<l.length→V64 (l.getD i default)):∀i,i≤l.length→(textV (l.take i)).length≤120*i
 | 0,_=>by simp [textV]
 | i+1,hi=>by
   have ih:=textV_len hV i (by omega)
   have h1:=lineVT_len (hV i (by omega))
   rw [textV_take hi,List.length_append]
   omega
theorem any_bad {l:List Vi} {i:Nat} (h:i<l.length) (hb:badV (l.getD i default)):formatV l=([],3):=by
 unfold formatV
 rw [if_pos]
 exact List.any_eq_true.2 ⟨_,getD_mem h,decide_eq_true hb⟩
theorem none_bad {l:List Vi} (h:∀i,i<l.length→¬badV (l.getD i default)):formatV l=(textV l,0):=by
 unfold formatV
 rw [if_neg]
 intro ha
 obtain ⟨v,hv,hb⟩:=List.any_eq_true.1 ha
 obtain ⟨i,hi,rfl⟩:=List.mem_iff_getElem.1 hv
 have:=h i hi
 simp only [List.getD,List.getElem?_eq_getElem hi,Option.getD_some] at this
 exact this (of_decide_eq_true hb)
theorem rows4 (a b c d:Int):RowEq 4 (fun i=> [[PV.int .i64 a], [PV.int .i64 b], [PV.int .i64 c], [PV.int .i64 d]].getD i []) (fl eInt [a,b,c,d]):=fun i hi=>by
 match i,hi with
 | 0,_=>rfl
 | 1,_=>rfl
 | 2,_=>rfl
 | 3,_=>rfl
theorem call16 (τ:Nat) (l:List Vi) (hl:l.length≤1000000000) (hV:∀i,i<l.length→V64 (l.getD i default)):PureCall Tryz.prog 16 [.sl τ 4 l.length (fl eVi l)] [] ⟨.tup [.str (formatV l).1, .int .i64 (formatV l).2], [], []⟩:=by
 refine pure_call mix Tryz.func16 fits16 rfl ?_
 conv=>whnf
 refine ⟨trivial, ?_⟩
 refine LSem.loop (n:=74) mix (α:=Nat) (fun i=>i≤l.length∧∀k,k<i→¬badV (l.getD k default))
  (fun i=> [(4, .pt 64 0 0),(10, .sl τ 4 l.length (fl eVi l)),(11, .int .i64 l.length),(12, .int .i64 i)])
  (fun i=> [(64, .bld 119 5 (textV (l.take i)))]) (fun i=>l.length - i) 0 ?_ ?_ ?_
 ·exact ⟨Nat.zero_le _,fun k hk=>absurd hk (Nat.not_lt_zero _)⟩
 ·refine ⟨rfl,rfl, ?_, ?_⟩
  all_goals repeat' (first | exact True.intro | refine leF_cons rfl ?_ ?_ | refine leS_cons rfl ?_ ?_ | (show PLe _ _ _ _;conv=>whnf) | (show SLe _ _ _ _;conv=>whnf) | (show PLeL _ _ _ _;conv=>whnf) | apply And.intro | rfl | exact Nat.le_refl _ | exact fun _ _=>rfl | exact rowEq0 _ _)
 ·intro i hi
  obtain ⟨hi,hall⟩:=hi
  have hj:((i:Int)).toNat=i:=by omega
  conv=>whnf
  refine ⟨trivial,fun hc=> ?_,fun hc=> ?_⟩
  ·replace hc:=of_decide_eq_true hc
   have hlt:i<l.length:=by
    have h:(i:Int)<l.length:=hc
    omega
   have hwi:IntKind.wrap .i64 ((i:Int)+1)=((i+1:Nat):Int):=by rw [wrap64];omega
   have hpl:=textV_len hV i hi
   have hpt:=textV_take hlt
   have hr:=hV i hlt
   have hll:=lineVT_len hr
   have hbad:=any_bad hlt
   have hok:∀k,k<i→¬badV (l.getD k default):=hall
   have hok2:¬badV (l.getD i default)→∀k,k<i+1→¬badV (l.getD k default):=fun h k hk=>by
    rcases Nat.lt_or_ge k i with h2 | h2
    ·exact hall k h2
    ·rw [show k=i by omega];exact h
   conv=>whnf
   rw [hj]
   generalize l.getD i default=r at hpt hr hll hbad hok2⊢
   obtain ⟨⟨a1,a2⟩,⟨b1,b2⟩,⟨c1,c2⟩,⟨d1,d2⟩⟩:=hr
   have hw:=wrap64 (r.b+2)
   generalize IntKind.wrap .i64 (r.b+2)=B at hw⊢
   refine ⟨?_, ?_⟩
   ·(try conv=>whnf)
    (repeat' (first | exact True.intro | exact fun _ h=>h | refine inR64_of ?_ ?_ | apply And.intro | refine maxLen_ge ?_))<;>(first | omega | (dsimp only;omega))
   refine LSem.loop (n:=74) mix (α:=Nat) (fun j=>j≤4∧∀k,k<j→0≤ [r.t,r.s,r.c,B].getD k default)
    (fun j=> [(4, .pt 64 0 0),(6, .pt 96 0 0),(10, .sl τ 4 l.length (fl eVi l)),(11, .int .i64 l.length),(12, .int .i64 i),(25, .os 400),(26, .int .i64 4),(27, .int .i64 j)])
    (fun j=> [(64, .bld 119 5 (textV (l.take i))),(96, .box (eVi r)),(400, .row 0 3 1 4 (fl eInt [r.t,r.s,r.c,B]))]) (fun j=>4 - j) 0 ?_ ?_ ?_
   ·exact ⟨Nat.zero_le _,fun k hk=>absurd hk (Nat.not_lt_zero _)⟩
   ·refine ⟨rfl,rfl, ?_, ?_⟩
    all_goals repeat' (first | exact True.intro | refine leF_cons rfl ?_ ?_ | refine leS_cons rfl ?_ ?_ | (show PLe _ _ _ _;conv=>whnf) | (show SLe _ _ _ _;conv=>whnf) | (show PLeL _ _ _ _;conv=>whnf) | apply And.intro | rfl | exact Nat.le_refl _ | exact fun _ _=>rfl | exact rowEq0 _ _)
    all_goals first | exact rows4 _ _ _ _ | skip
   ·intro j hj4
    obtain ⟨hj4,hp⟩:=hj4
    have hjj:((j:Int)).toNat=j:=by omega
    conv=>whnf
    refine ⟨trivial,fun hc=> ?_,fun hc=> ?_⟩
    ·replace hc:=of_decide_eq_true hc
     have hjlt:j<4:=by
      have h:(j:Int)<4:=hc
      omega
     have hwj:IntKind.wrap .i64 ((j:Int)+1)=((j+1:Nat):Int):=by rw [wrap64];omega
     conv=>whnf
     refine ⟨?_,fun hn=> ?_,fun hn=> ?_⟩
     ·(try conv=>whnf)
      (repeat' (first | exact True.intro | exact fun _ h=>h | refine inR64_of ?_ ?_ | apply And.intro | refine maxLen_ge ?_))<;>(first | omega | (dsimp only;omega))
     ·have hb:badV r:=by
        have h:=of_decide_eq_true hn
        rw [hjj] at h
        have h0123:j=0∨j=1∨j=2∨j=3:=by omega
        unfold badV
        rcases h0123 with rfl | rfl | rfl | rfl
        ·have h:r.t<0:=h
         omega
        ·have h:r.s<0:=h
         omega
        ·have h:r.c<0:=h
         omega
        ·have h:B<0:=h
         omega
      rw [hbad hb]
      conv=>whnf
      refine ⟨?_, [], ?_⟩
      ·(try conv=>whnf)
       (repeat' (first | exact True.intro | exact fun _ h=>h | refine inR64_of ?_ ?_ | apply And.intro | refine maxLen_ge ?_))<;>(first | omega | (dsimp only;omega))
      conv=>whnf
      refine ⟨rfl, ?_,trivial,trivial⟩
      all_goals repeat' (first | exact True.intro | refine leF_cons rfl ?_ ?_ | refine leS_cons rfl ?_ ?_ | (show PLe _ _ _ _;conv=>whnf) | (show SLe _ _ _ _;conv=>whnf) | (show PLeL _ _ _ _;conv=>whnf) | apply And.intro | rfl | exact Nat.le_refl _ | exact fun _ _=>rfl | exact rowEq0 _ _)
     ·have hnn:0≤ [r.t,r.s,r.c,B].getD j default:=by
        have h:=of_decide_eq_false hn
        rw [hjj] at h
        have h:¬ [r.t,r.s,r.c,B].getD j default<0:=h
        omega
      conv=>whnf
      refine ⟨?_,j+1,⟨by omega,fun k hk=> ?_⟩,by omega,rfl,rfl, ?_, ?_⟩
      ·(try conv=>whnf)
       (repeat' (first | exact True.intro | exact fun _ h=>h | refine inR64_of ?_ ?_ | apply And.intro | refine maxLen_ge ?_))<;>(first | omega | (dsimp only;omega))
      ·rcases Nat.lt_or_ge k j with h2 | h2
       ·exact hp k h2
       ·rw [show k=j by omega];exact hnn
      all_goals repeat' (first | exact True.intro | refine leF_cons rfl ?_ ?_ | refine leS_cons rfl ?_ ?_ | (show PLe _ _ _ _;conv=>whnf) | (show SLe _ _ _ _;conv=>whnf) | (show PLeL _ _ _ _;conv=>whnf) | apply And.intro | rfl | exact Nat.le_refl _ | exact fun _ _=>rfl | exact rowEq0 _ _)
      all_goals first | exact hwj | skip
    ·replace hc:=of_decide_eq_false hc
     have hk:j=4:=by
      have h:¬(j:Int)<4:=hc
      omega
     subst hk
     have p0:0≤r.t:=hp 0 (by omega)
     have p1:0≤r.s:=hp 1 (by omega)
     have p2:0≤r.c:=hp 2 (by omega)
     have p3:0≤B:=hp 3 (by omega)
     conv=>whnf
     refine ⟨?_,fun hm=> ?_,fun hm=> ?_⟩
     ·(try conv=>whnf)
      (repeat' (first | exact True.intro | exact fun _ h=>h | refine inR64_of ?_ ?_ | apply And.intro | refine maxLen_ge ?_))<;>(first | omega | (dsimp only;omega))
     ·have hm:99999999<mx (mx (mx r.t r.s) r.c) r.b:=of_decide_eq_true hm
      rw [mx_eq,mx_eq,mx_eq] at hm
      have hb:badV r:=by unfold badV;omega
      rw [hbad hb]
      conv=>whnf
      refine ⟨?_, [], ?_⟩
      ·(try conv=>whnf)
       (repeat' (first | exact True.intro | exact fun _ h=>h | refine inR64_of ?_ ?_ | apply And.intro | refine maxLen_ge ?_))<;>(first | omega | (dsimp only;omega))
      conv=>whnf
      refine ⟨rfl, ?_,trivial,trivial⟩
      all_goals repeat' (first | exact True.intro | refine leF_cons rfl ?_ ?_ | refine leS_cons rfl ?_ ?_ | (show PLe _ _ _ _;conv=>whnf) | (show SLe _ _ _ _;conv=>whnf) | (show PLeL _ _ _ _;conv=>whnf) | apply And.intro | rfl | exact Nat.le_refl _ | exact fun _ _=>rfl | exact rowEq0 _ _)
     ·have hm:¬99999999<mx (mx (mx r.t r.s) r.c) r.b:=of_decide_eq_false hm
      rw [mx_eq,mx_eq,mx_eq] at hm
      have hnb:¬badV r:=by unfold badV;omega
      have hok3:=hok2 hnb
      have x1:=Lib.itoa_length_le r.t a1 a2
      have x2:=Lib.itoa_length_le r.s b1 b2
      have x3:=Lib.itoa_length_le r.c c1 c2
      have x4:=byT_len d1 d2
      have hbd:∀(T:List UInt8),T=byT r.b→textV (l.take i)++([115,116,101,112,32]++Lib.itoa r.t++ [32,115,105,116,101,32]++Lib.itoa r.s++ [32,99,111,110,100,105,116,105,111,110,32]++Lib.itoa r.c++ [32,98,121,32]++T++ [10])=textV (l.take (i+1)):=fun T hT=>by
       rw [hT,hpt];rfl
      conv=>whnf
      refine ⟨_,fun _=>call29 r.b d1 d2, ?_⟩
      conv=>whnf
      refine ⟨?_,fun hb=> ?_,fun hb=> ?_⟩
      ·(try conv=>whnf)
       (repeat' (first | exact True.intro | exact fun _ h=>h | refine inR64_of ?_ ?_ | apply And.intro | refine maxLen_ge ?_))<;>(first | omega | (dsimp only;omega))
      ·have hb:r.b= -1:=by
         have h:(r.b== -1)=true:=hb
         simpa using h
       have hT:wBounds=byT r.b:=by unfold byT;rw [if_pos hb]
       unfold wBounds at hT
       conv=>whnf
       refine ⟨_,fun _=>call29 r.t a1 a2, ?_⟩
       conv=>whnf
       refine ⟨_,fun _=>call29 r.s b1 b2, ?_⟩
       conv=>whnf
       refine ⟨_,fun _=>call29 r.c c1 c2, ?_⟩
       conv=>whnf
       refine ⟨_,fun _=>call30 (textV (l.take i)) ([115,116,101,112,32]++Lib.itoa r.t++ [32,115,105,116,101,32]++Lib.itoa r.s++ [32,99,111,110,100,105,116,105,111,110,32]++Lib.itoa r.c++ [32,98,121,32]++ [98,111,117,110,100,115]++ [10]) (by rw [←hT] at x4;simp only [List.length_append,List.length_cons,List.length_nil] at x4⊢;omega), ?_⟩
       have hbT:=hbd _ hT
       rw [←hT] at x4
       conv=>whnf
       refine ⟨rfl, ?_⟩
       conv=>whnf
       refine ⟨?_,i+1,⟨hlt,hok3⟩,by omega,rfl,rfl, ?_, ?_⟩
       ·(try conv=>whnf)
        repeat' (first | exact True.intro | exact fun _ h=>h | apply And.intro)
        all_goals (simp only [List.length_append,List.length_cons,List.length_nil] at x4⊢;omega)
       all_goals repeat' (first | exact True.intro | refine leF_cons rfl ?_ ?_ | refine leS_cons rfl ?_ ?_ | (show PLe _ _ _ _;conv=>whnf) | (show SLe _ _ _ _;conv=>whnf) | (show PLeL _ _ _ _;conv=>whnf) | apply And.intro | rfl | exact Nat.le_refl _ | exact fun _ _=>rfl | exact rowEq0 _ _)
       all_goals first | exact hwi | exact hbT | skip
      have hb1:¬r.b= -1:=by
       have h:(r.b== -1)=false:=hb
       simpa using h
      conv=>whnf
      refine ⟨trivial,fun hb=> ?_,fun hb=> ?_⟩
      ·have hb:r.b= -2:=by
         have h:(r.b== -2)=true:=hb
         simpa using h
       have hT:wPlan=byT r.b:=by unfold byT;rw [if_neg hb1,if_pos hb]
       unfold wPlan at hT
       conv=>whnf
       refine ⟨_,fun _=>call29 r.t a1 a2, ?_⟩
       conv=>whnf
       refine ⟨_,fun _=>call29 r.s b1 b2, ?_⟩
       conv=>whnf
       refine ⟨_,fun _=>call29 r.c c1 c2, ?_⟩
       conv=>whnf
       refine ⟨_,fun _=>call30 (textV (l.take i)) ([115,116,101,112,32]++Lib.itoa r.t++ [32,115,105,116,101,32]++Lib.itoa r.s++ [32,99,111,110,100,105,116,105,111,110,32]++Lib.itoa r.c++ [32,98,121,32]++ [112,108,97,110]++ [10]) (by rw [←hT] at x4;simp only [List.length_append,List.length_cons,List.length_nil] at x4⊢;omega), ?_⟩
       have hbT:=hbd _ hT
       rw [←hT] at x4
       conv=>whnf
       refine ⟨rfl, ?_⟩
       conv=>whnf
       refine ⟨?_,i+1,⟨hlt,hok3⟩,by omega,rfl,rfl, ?_, ?_⟩
       ·(try conv=>whnf)
        repeat' (first | exact True.intro | exact fun _ h=>h | apply And.intro)
        all_goals (simp only [List.length_append,List.length_cons,List.length_nil] at x4⊢;omega)
       all_goals repeat' (first | exact True.intro | refine leF_cons rfl ?_ ?_ | refine leS_cons rfl ?_ ?_ | (show PLe _ _ _ _;conv=>whnf) | (show SLe _ _ _ _;conv=>whnf) | (show PLeL _ _ _ _;conv=>whnf) | apply And.intro | rfl | exact Nat.le_refl _ | exact fun _ _=>rfl | exact rowEq0 _ _)
       all_goals first | exact hwi | exact hbT | skip
      have hb2:¬r.b= -2:=by
       have h:(r.b== -2)=false:=hb
       simpa using h
      have hT:Lib.itoa r.b=byT r.b:=by unfold byT;rw [if_neg hb1,if_neg hb2]
      conv=>whnf
      refine ⟨_,fun _=>call29 r.t a1 a2, ?_⟩
      conv=>whnf
      refine ⟨_,fun _=>call29 r.s b1 b2, ?_⟩
      conv=>whnf
      refine ⟨_,fun _=>call29 r.c c1 c2, ?_⟩
      conv=>whnf
      refine ⟨_,fun _=>call30 (textV (l.take i)) ([115,116,101,112,32]++Lib.itoa r.t++ [32,115,105,116,101,32]++Lib.itoa r.s++ [32,99,111,110,100,105,116,105,111,110,32]++Lib.itoa r.c++ [32,98,121,32]++Lib.itoa r.b++ [10]) (by rw [←hT] at x4;simp only [List.length_append,List.length_cons,List.length_nil] at x4⊢;omega), ?_⟩
      have hbT:=hbd _ hT
      rw [←hT] at x4
      conv=>whnf
      refine ⟨rfl, ?_⟩
      conv=>whnf
      refine ⟨?_,i+1,⟨hlt,hok3⟩,by omega,rfl,rfl, ?_, ?_⟩
      ·(try conv=>whnf)
       repeat' (first | exact True.intro | exact fun _ h=>h | apply And.intro)
       all_goals (simp only [List.length_append,List.length_cons,List.length_nil] at x4⊢;omega)
      all_goals repeat' (first | exact True.intro | refine leF_cons rfl ?_ ?_ | refine leS_cons rfl ?_ ?_ | (show PLe _ _ _ _;conv=>whnf) | (show SLe _ _ _ _;conv=>whnf) | (show PLeL _ _ _ _;conv=>whnf) | apply And.intro | rfl | exact Nat.le_refl _ | exact fun _ _=>rfl | exact rowEq0 _ _)
      all_goals first | exact hwi | exact hbT | skip
  ·replace hc:=of_decide_eq_false hc
   have hk:i=l.length:=by
    have h:¬(i:Int)<l.length:=hc
    omega
   subst hk
   rw [List.take_length,none_bad hall]
   conv=>whnf
   refine ⟨_,fun _=>call31z (textV l), ?_⟩
   conv=>whnf
   refine ⟨?_, [], ?_⟩
   ·(try conv=>whnf)
    (repeat' (first | exact True.intro | exact fun _ h=>h | refine inR64_of ?_ ?_ | apply And.intro | refine maxLen_ge ?_))<;>(first | omega | (dsimp only;omega))
   conv=>whnf
   refine ⟨rfl, ?_,trivial,trivial⟩
   all_goals repeat' (first | exact True.intro | refine leF_cons rfl ?_ ?_ | refine leS_cons rfl ?_ ?_ | (show PLe _ _ _ _;conv=>whnf) | (show SLe _ _ _ _;conv=>whnf) | (show PLeL _ _ _ _;conv=>whnf) | apply And.intro | rfl | exact Nat.le_refl _ | exact fun _ _=>rfl | exact rowEq0 _ _)
def c4:C:=(sr [kk 0 (.mv (.c (.bool false)))] (sr [kk 13 (.bd [(.int .i64 0),(.int .i64 0),(.int .i64 0),(.int .i64 0)] [(0,1,(cn 3)),(2,1,(cn 1)),(3,1,(cn (-1)))]),kk 14 (.bd [(.int .i64 0),(.int .i64 0),(.int .i64 0),(.int .i64 0)] [(0,1,(cn 4)),(2,1,(cn 1))]),kk 15 (.bd [(.int .i64 0),(.int .i64 0),(.int .i64 0),(.int .i64 0)] [(0,1,(cn 5)),(2,1,(cn 1)),(3,1,(cn (-2)))]),kk 16 (.bs 56 4 [13,14,15]),km 1 16] (sr [km 18 1,kk 19 (cl 15 [18]),km 17 19,kk 20 (.ex 17 0),kk 21 (.ex 17 1),kk 22 (.ex 17 2),kk 2 (.al [(.int .i64 0),(.int .i64 0),(.int .i64 0),(.int .i64 0)]),kz (.st 4 2 20),km 3 21,km 4 22] (sr [km 24 1,kk 25 (.slc 4 24 none (some (cn 2))),kk 26 (cl 16 [25]),km 23 26,kk 27 (.ex 23 0),kk 28 (.ex 23 1),km 5 27,km 6 28] (sr [km 30 5,kk 31 (cl 17 [30]),km 29 31,kk 32 (.ex 29 0),kk 33 (.ex 29 1),kk 34 (.ex 29 2),km 7 32,km 8 33,km 9 34] (sr [kk 36 (cl 17 [(.c (.str [115,116,101,112,32,49,32,115,105,116,101,32,48,32,99,111,110,100,105,116,105,111,110,32,50,32,98,121,32,120,10]))]),km 35 36,kk 37 (.ex 35 0),kk 38 (.ex 35 1),kk 39 (.ex 35 2),km 10 37,km 11 38,km 12 39] (.seq (.drw [km 40 4,km 41 40,kg 42 41 true (.mv 3),kg 43 41 true (.bi false .eql 42 (cn 3)),kk 44 (.pick 41 43 (.c (.bool false))),km 45 44,kg 46 45 true (.ld 4 true 2),kg 47 45 true (.mv 1),kg 48 45 true (.ia 4 47 (cn 0)),kg 49 45 true (.ld 4 true 48),kg 50 45 true (.eqa false [0,0,0,0] 46 49),kk 51 (.pick 45 50 (.c (.bool false))),km 52 51,kg 53 52 true (.mv 6),kg 54 52 true (.bi false .eql 53 (cn 0)),kk 55 (.pick 52 54 (.c (.bool false))),km 56 55,kg 57 56 true (.mv 9),kg 58 56 true (.bi false .eql 57 (cn 0)),kk 59 (.pick 56 58 (.c (.bool false))),km 60 59,kg 61 60 true (.mv 8),kg 62 60 true (.bi false .eql 61 (cn 0)),kk 63 (.pick 60 62 (.c (.bool false))),km 64 63,kg 65 64 true (.mv 7),kg 66 64 true (.len 65),kg 67 64 true (.bi false .eql 66 (cn 2)),kk 68 (.pick 64 67 (.c (.bool false))),km 69 68,kg 70 69 true (.mv 7),kg 71 69 true (.ia 4 70 (cn 0)),kg 72 69 true (.ld 4 true 71),kg 73 69 true (.mv 1),kg 74 69 true (.ia 4 73 (cn 0)),kg 75 69 true (.ld 4 true 74),kg 76 69 true (.eqa false [0,0,0,0] 72 75),kk 77 (.pick 69 76 (.c (.bool false))),km 78 77,kg 79 78 true (.mv 12),kg 80 78 true (.bi false .eql 79 (cn 7)),kk 81 (.pick 78 80 (.c (.bool false))),km 82 81,kg 83 82 true (.mv 11),kg 84 82 true (.bi false .eql 83 (cn 1)),kk 85 (.pick 82 84 (.c (.bool false))),km 86 85,kg 87 86 true (.mv 5),kg 88 86 true (.bi false .eql 87 (.c (.str [115,116,101,112,32,51,32,115,105,116,101,32,48,32,99,111,110,100,105,116,105,111,110,32,49,32,98,121,32,98,111,117,110,100,115,10,115,116,101,112,32,52,32,115,105,116,101,32,48,32,99,111,110,100,105,116,105,111,110,32,49,32,98,121,32,48,10]))),kk 89 (.pick 86 88 (.c (.bool false))),km 0 89] (pl [(6,[7,8,9],46),(30,[33,34,35],70),(31,[33,34,35],71),(32,[33,34,35],72)])) .ret)))))))
theorem fits4:fits Tryz.prog false Tryz.f4 0 90 [(0,none)]=some c4.er:=by kernel_rfl
def s3:List Vi:= [⟨3,0,1, -1⟩,⟨4,0,1,0⟩,⟨5,0,1, -2⟩]
def s2:List Vi:= [⟨3,0,1, -1⟩,⟨4,0,1,0⟩]
def snT:List UInt8:= [115,116,101,112,32,51,32,115,105,116,101,32,48,32,99,111,110,100,105,116,105,111,110,32,49,32,98,121,32,98,111,117,110,100,115,10,115,116,101,112,32,52,32,115,105,116,101,32,48,32,99,111,110,100,105,116,105,111,110,32,49,32,98,121,32,48,10]
def snB:List UInt8:= [115,116,101,112,32,49,32,115,105,116,101,32,48,32,99,111,110,100,105,116,105,111,110,32,50,32,98,121,32,120,10]
theorem s3_best:bestF s3 3=(⟨3,0,1, -1⟩,3):=by
 have h1:(bestF s3 3).1=⟨3,0,1, -1⟩:=by decide +kernel
 have h2:(bestF s3 3).2=3:=by decide +kernel
 rw [←h1,←h2]
theorem s2_fmt:formatV s2=(snT,0):=by decide +kernel
theorem s2_parse:parseV snT=(s2,0,0):=by decide +kernel
theorem sB_parse:parseV snB=([],1,7):=by decide +kernel
theorem s3_rows:RowEq 3 (fun i=> [eVi ⟨3,0,1, -1⟩,eVi ⟨4,0,1,0⟩,eVi ⟨5,0,1, -2⟩].getD i []) (fl eVi s3):=fun i hi=>by
 match i,hi with
 | 0,_=>rfl
 | 1,_=>rfl
 | 2,_=>rfl
theorem s3_V:∀i,i<s3.length→ -9223372036854775808≤(s3.getD i default).t∧(s3.getD i default).t≤9223372036854775807:=fun i hi=>by
 match i,hi with
 | 0,_=>decide
 | 1,_=>decide
 | 2,_=>decide
theorem s2_V:∀i,i<s2.length→V64 (s2.getD i default):=fun i hi=>by
 match i,hi with
 | 0,_=>unfold V64 s2;decide
 | 1,_=>unfold V64 s2;decide
theorem call4:PureCall Tryz.prog 4 [] [] ⟨.bool true, [], []⟩:=by
 refine pure_call mix Tryz.func4 fits4 rfl ?_
 conv=>whnf
 refine ⟨_,fun _=>PureCall.arg_le (call15 2 s3 (by decide) s3_V) rfl (by
  all_goals repeat' (first | exact True.intro | refine leF_cons rfl ?_ ?_ | refine leS_cons rfl ?_ ?_ | (show PLe _ _ _ _;conv=>whnf) | (show SLe _ _ _ _;conv=>whnf) | (show PLeL _ _ _ _;conv=>whnf) | apply And.intro | rfl | exact Nat.le_refl _ | exact fun _ _=>rfl | exact rowEq0 _ _)
  all_goals first | exact s3_rows | skip), ?_⟩
 rw [show s3.length=3 from rfl,s3_best]
 conv=>whnf
 refine ⟨_,fun _=>PureCall.arg_le (call16 2 s2 (by decide) s2_V) rfl (by
  all_goals repeat' (first | exact True.intro | refine leF_cons rfl ?_ ?_ | refine leS_cons rfl ?_ ?_ | (show PLe _ _ _ _;conv=>whnf) | (show SLe _ _ _ _;conv=>whnf) | (show PLeL _ _ _ _;conv=>whnf) | apply And.intro | rfl | exact Nat.le_refl _ | exact fun _ _=>rfl | exact rowEq0 _ _)
  all_goals first | (intro i hi;match i,hi with | 0,_=>rfl | 1,_=>rfl) | skip), ?_⟩
 rw [s2_fmt]
 conv=>whnf
 refine ⟨_,fun _=>call17 snT (by decide), ?_⟩
 rw [s2_parse]
 conv=>whnf
 refine ⟨_,fun _=>call17 snB (by decide), ?_⟩
 rw [sB_parse]
 conv=>whnf
 refine ⟨rfl, ?_⟩
 conv=>whnf
 refine ⟨?_, [], ?_⟩
 ·(try conv=>whnf)
  (repeat' (first | exact True.intro | exact fun _ h=>h | refine inR64_of ?_ ?_ | apply And.intro | refine maxLen_ge ?_))<;>(first | omega | decide | (dsimp only;omega) | (dsimp only [List.length_cons,List.length_nil];omega) | (intro hg;rw [hg];rfl) | (intro hg hh;rw [hg,hh];rfl) | (intro hg;simp [-List.getD_eq_getElem?_getD, -Int.default_eq_zero] at hg;first | omega | (refine inR64_of ?_ ?_<;>omega) | (constructor<;>omega)) | (simp [-List.getD_eq_getElem?_getD, -Int.default_eq_zero];done))
 conv=>whnf
 refine ⟨rfl, ?_,trivial,trivial⟩
 all_goals repeat' (first | exact True.intro | refine leF_cons rfl ?_ ?_ | refine leS_cons rfl ?_ ?_ | (show PLe _ _ _ _;conv=>whnf) | (show SLe _ _ _ _;conv=>whnf) | (show PLeL _ _ _ _;conv=>whnf) | apply And.intro | rfl | exact Nat.le_refl _ | exact fun _ _=>rfl | exact rowEq0 _ _)
def c3L1:C:=(sr [kk 66 (.bi false .lss 65 64)] (.seq (.cond 66 .skip (.exit 0)) (.seq (.block 1 (sr [kk 67 (.ia 1 63 65),kk 68 (.ld 1 false 67),km 17 68] (.reg [km 69 15,km 70 17,kk 71 (.bi false .add 69 70),km 15 71]))) (.reg [kk 72 (.bi false .add 65 (cn 1)),km 65 72]))))
def c3:C:=(sr [kk 4 (.mv (.c (.bool false)))] (.seq (sr [kk 20 (cl 4 []),kk 21 (.un false .not 20)] (.cond 21 (sr [kk 4 (.mv (.c (.bool false)))] .ret) .skip)) (.seq (sr [km 22 0,kk 23 (cl 5 [22]),kk 24 (.un false .not 23)] (.cond 24 (sr [kk 4 (.mv (.c (.bool true)))] .ret) .skip)) (sr [km 25 0,kk 26 (cl 6 [25]),km 5 26] (.seq (.cut (.reg [km 28 5,kk 29 (cl 7 [28]),km 27 29,kk 30 (.ex 27 0),kk 31 (.ex 27 1),kk 6 (.al [(.int .i64 0),(.nil 4),(.nil 10)]),kk 7 (.al [(.int .i64 0),(.nil 4),(.nil 1)]),kz (.st 3 6 30),kz (.st 3 7 31)])) (sr [km 32 5,kk 33 (cl 8 [32,(cn 6)]),km 8 33] (sr [km 34 5,kk 35 (.ld 3 true 6),kk 36 (cl 9 [34,35]),km 9 36] (.seq (.cut (.drw [kk 38 (.ld 3 true 6),kk 39 (.ld 3 true 7),km 40 9,km 41 5,kk 42 (.ld 3 true 6),kk 43 (.fa 0 7),kk 44 (.ld 1 false 43),km 45 8,kk 46 (cl 11 [41,42,44,45]),km 47 5,kk 48 (.ld 3 true 6),km 49 8,kk 50 (cl 12 [47,48,49]),kk 51 (cl 10 [38,39,40,46,50]),km 37 51,kk 52 (.ex 37 0),kk 53 (.ex 37 1),kk 54 (.ex 37 2),kk 10 (.al [(.int .i64 0),(.nil 1)]),kz (.st 2 10 52),km 11 53,km 12 54] (pl [(0,[1,2,3,4,5,6,7,8,9,10,11,12,18],38),(1,[2,3,4,5,6,7,8,9,10,11,12,18],39),(2,[3,4,5,6,7,8,9,10,11,12,18],40),(3,[4,5,6,7,9,10,11,18],41),(4,[5,6,7,9,10,11,18],42),(5,[7,9,10,11,18],43),(6,[7,9,10,11,18],44),(7,[9,10,11,18],45),(8,[9,10,11,18],46),(9,[10,11,18],47),(10,[11,18],48),(11,[18],49),(12,[18],50),(13,[18],51),(14,[18],37),(15,[16,17,18],52),(16,[17,18,19],53),(17,[18,19,20],54)]))) (.seq (sr [km 55 12,kk 56 (.bi false .neq 55 (cn 0))] (.cond 56 (sr [kk 4 (.mv (.c (.bool true)))] .ret) .skip)) (sr [km 58 9,km 59 11,kk 60 (cl 13 [58,59]),km 57 60,kk 61 (.ex 57 0),kk 62 (.ex 57 1),km 13 61,km 14 62] (sr [kk 15 (.mv (cn 0))] (.seq (sr [km 63 13,kk 64 (.len 63),kk 65 (.mv (cn 0))] (.block 0 (.loop c3L1))) (.seq (sr [km 73 14,kk 74 (.bi false .neq 73 (cn 0)),km 75 74,kg 76 75 false (.mv 13),kg 77 75 false (.len 76),kg 78 75 false (.bi false .neq 77 (cn 9)),kk 79 (.pick 75 (.c (.bool true)) 78),km 80 79,kg 81 80 false (.mv 15),kg 82 80 false (.mv 11),kg 83 80 false (.len 82),kg 84 80 false (.bi false .neq 81 83),kk 85 (.pick 80 (.c (.bool true)) 84),km 86 85,kg 87 86 false (.mv 9),kg 88 86 false (.mv 11),kg 89 86 false (cl 14 [87,88]),kg 90 86 false (.un false .not 89),kk 91 (.pick 86 (.c (.bool true)) 90)] (.cond 91 (sr [kk 4 (.mv (.c (.bool false)))] .ret) .skip)) (.seq (sr [km 92 11,kk 93 (.len 92),kk 94 (.bi false .eql 93 (cn 0))] (.cond 94 (sr [kk 4 (.mv (.c (.bool true)))] .ret) .skip)) (sr [km 95 1,kk 96 (.cv false .i64 95),km 97 11,kk 98 (.len 97),kk 99 (.bi false .rem 96 98),km 18 99] (sr [km 100 11,kk 101 (.app 56 4 32 (.c (.nil 4)) 100),km 19 101] (sr [km 102 19,km 103 18,km 104 19,km 105 18,kk 106 (.ia 4 104 105),kk 107 (.fa 2 106),kk 108 (.ld 1 false 107),kk 109 (.ia 4 102 103),kk 110 (.fa 3 109),kz (.st 1 110 108)] (.cut (sr [km 111 9,km 112 19,kk 113 (cl 14 [111,112]),kk 114 (.un false .not 113),km 4 114] .ret)))))))))))))))))))
theorem fits3:fits Tryz.prog false Tryz.f3 2 115 [(4,none)]=some c3.er:=by kernel_rfl
theorem PureCallQ.one {f:FuncId} {args:List PV} {bs:List SE} {c:CallRes} (h:PureCallQ Tryz.prog f args bs (fun r=>r=c)):PureCall Tryz.prog f args bs c:=
 ⟨h.1,fun w γ aas ls vals h1 h2 h3=>(h.2 w γ aas ls vals h1 h2 h3).mono fun _ _ ⟨c',e,hp⟩=>by subst e;exact hp⟩
theorem call3 (l:List Int) (b:Int) (hb:0≤b∧b≤255):PureCall Tryz.prog 3 [.sl 1 1 l.length (fl eInt l), .int .u8 b] [] ⟨.bool true, [], []⟩:=by
 refine PureCallQ.one ?_
 refine pure_callQ mix Tryz.func3 fits3 rfl ?_
 conv=>whnf
 refine ⟨_,fun _=>call4, ?_⟩
 conv=>whnf
 refine ⟨by exact g0,fun h=>absurd h (by decide),fun _=> ?_⟩
 conv=>whnf
 refine ⟨_,fun _=>call5 _ l, ?_⟩
 conv=>whnf
 refine ⟨by exact g0,fun h=> ?_,fun h=> ?_⟩
 ·exact retQ _ rfl
 conv=>whnf
 refine ⟨_,fun _=>call_new _ l, ?_⟩
 conv=>whnf
 refine ⟨by exact g0,LSem.regQ ?_⟩
 conv=>whnf
 refine ⟨_,q7 ⟨l,0⟩ (by dsimp only;omega),⟨by exact g0,by exact g0⟩, ?_⟩
 obtain ⟨hc,_⟩:=casc_rg ⟨l,0⟩
 have hW:=cascF_ok ⟨l,0⟩
 unfold QRiv
 generalize cascF ⟨l,0⟩=W at hc hW⊢
 obtain ⟨⟨N,lk,ss⟩,ds,d1⟩:=W
 dsimp only at hc hW⊢
 obtain ⟨N,rfl⟩:∃m:Nat,N=m:=⟨N.toNat,by omega⟩
 rintro _ ⟨F,d2,rfl,hF,hat2⟩
 have hss:ss.length≤3:=hW.2.2.1
 have hN6:N≤6:=by omega
 clear hW d1
 conv=>whnf
 refine ⟨by exact g0, ?_⟩
 conv=>whnf
 refine ⟨_,fun _=>call_next 1 d2 6 (by omega) (by omega), ?_⟩
 have r1:=nxt_lt d2 (n:=6) (by omega)
 have a1:=nxtD_at d2 6
 generalize nxt d2 6=m at r1⊢
 generalize nxtD d2 6=d3 at a1⊢
 obtain ⟨m,rfl⟩:∃k:Nat,m=k:=⟨m.toNat,by omega⟩
 conv=>whnf
 refine ⟨_,fun _=>call9 d3 _ _ _ _ ss.length _ _ (by omega) (by omega), ?_⟩
 have hL:=lists_lis hss d3
 have hL2:=(listsF_ok ss.length d3).2.2
 generalize listsF ss.length d3=W at hL hL2⊢
 obtain ⟨C,d4⟩:=W
 dsimp only at hL hL2⊢
 have hCl:=hL.len
 have hC6:=hL.six
 conv=>whnf
 refine ⟨by exact g0,LSem.drwE 10 mix ?_⟩
 conv=>whnf
 refine ⟨_,call11 _ ⟨N,lk,ss⟩ N m _ d4 rfl (by omega) hss (by omega) (by omega),rfl, ?_⟩
 have hP:=plnS_ok N ss.length m ([],d4) fun i hi=>absurd hi (Nat.not_lt_zero _)
 dsimp only at hP⊢
 generalize plnS N ss.length m ([],d4)=W at hP⊢
 obtain ⟨T,d5⟩:=W
 dsimp only [List.length_nil] at hP⊢
 have hb1:(N+2*ss.length)*m≤12*5:=Nat.mul_le_mul (by omega) (by omega)
 conv=>whnf
 refine ⟨_,call12 _ ⟨N,lk,ss⟩ N m d5 rfl (by omega) hss (by omega) (by omega),rfl, ?_⟩
 have hS:=spsS_ok N ss.length m ([],d5) fun i hi=>absurd hi (Nat.not_lt_zero _)
 dsimp only at hS⊢
 generalize spsS N ss.length m ([],d5)=W at hS⊢
 obtain ⟨S,d6⟩:=W
 dsimp only [List.length_nil] at hS⊢
 conv=>whnf
 refine ⟨_,q10 _ _ _ _ ⟨N,lk,ss⟩ F C _ T S hc hF hss (by omega) (fun i hi=>by have:=hC6 i hi;omega) (by omega) (fun i hi=>by have:=hP.2.2 i hi;omega) (by omega) (fun i hi=>by have:=hS.2.2 i hi;exact ⟨by omega,by omega,by omega⟩),⟨_,0, [], [],1,rfl,fun i hi=>absurd hi (Nat.not_lt_zero _),Nat.zero_le _⟩,rfl, ?_⟩
 rintro _ ⟨t,O,B,e,rfl,hB,hBl⟩
 conv=>whnf
 refine ⟨by exact g0,rfl, ?_⟩
 conv=>whnf
 refine ⟨by exact g0,fun h=> ?_,fun h=> ?_⟩
 ·exact retQ _ rfl
 conv=>whnf
 refine ⟨_,fun _=>call13 _ _ _ C B (by omega) (fun i hi=>by have:=hC6 i hi;omega) (by omega), ?_⟩
 obtain ⟨o,ho1,ho2,ho3,ho4⟩:=count_ok hL hB
 rw [ho1]
 dsimp only
 conv=>whnf
 refine ⟨by exact g0, ?_⟩
 refine LSem.loop (n:=115) mix (α:=Nat×Int) (fun s=>s.1≤9∧0≤s.2∧s.2+(o.drop s.1).sum=B.length)
  (fun s=> [(1, .int .u8 b),(9, .sl 0 1 C.length (fl (eCs 0) C)),(11, .sl 0 4 B.length (fl eVi B)),(13, .sl 0 1 o.length (fl eInt o)),(14, .int .i64 0),(15, .int .i64 s.2),(63, .sl 0 1 o.length (fl eInt o)),(64, .int .i64 o.length),(65, .int .i64 s.1)])
  (fun s=> []) (fun s=>9 - s.1) (0,0) ⟨by dsimp only;omega,Int.le_refl _,by dsimp only;rw [List.drop_zero];omega⟩ ?_ ?_
 ·refine ⟨rfl,rfl, ?_, ?_⟩<;>exact ent
 rintro ⟨i,A⟩ ⟨hi,hA,hA2⟩
 dsimp only at hi hA hA2⊢
 have hnn:=drop_nn ho3 i
 conv=>whnf
 refine ⟨trivial,fun hc1=> ?_,fun hc1=> ?_⟩
 ·replace hc1:=of_decide_eq_true hc1
  have hlt:i<o.length:=by
   have h:(i:Int)<o.length:=hc1
   omega
  have hj:((i:Int)).toNat=i:=by omega
  have hsd:=sum_drop hlt
  have hnn2:=drop_nn ho3 (i+1)
  have hx:=ho3 i hlt
  conv=>whnf
  rw [hj]
  refine ⟨by exact g0,(i+1,A+o.getD i default),⟨by dsimp only;omega,by dsimp only;omega,by dsimp only;omega⟩,by dsimp only;omega,rfl,rfl, ?_, ?_⟩<;>exact ent
 have hk:i=9:=by
  have h:¬(i:Int)<o.length:=of_decide_eq_false hc1
  omega
 subst hk
 have hAB:A=B.length:=by
  rw [List.drop_eq_nil_of_le (by omega)] at hA2
  simpa using hA2
 subst hAB
 have hprv:=prv_all hB
 conv=>whnf
 refine ⟨_,fun _=>call14 _ _ _ C B (by omega) (fun i hi=>by have:=hC6 i hi;omega) (by omega), ?_⟩
 rw [hprv]
 conv=>whnf
 refine ⟨by exact g0,fun h=>(by simp at h;omega),fun _=> ?_⟩
 conv=>whnf
 refine ⟨by exact g0,fun h=> ?_,fun h=> ?_⟩
 ·exact retQ _ rfl
 have hB0:0<B.length:=by
  have h:=beq_eq_false_iff_ne.1 h
  omega
 obtain ⟨b,rfl⟩:∃k:Nat,b=k:=⟨b.toNat,by omega⟩
 have ht:((b:Int)).tmod (B.length:Int)=((b % B.length:Nat):Int):=by
  rw [Int.tmod_eq_emod_of_nonneg (by omega)];omega
 have hlt:b % B.length<B.length:=Nat.mod_lt _ hB0
 generalize b % B.length=k at ht hlt
 have hm:B.length≤maxLen:=maxLen_ge (by omega)
 have hk1:((k:Int)).toNat=k:=by omega
 conv=>whnf
 rw [ht,hk1]
 refine ⟨by exact g2, ?_⟩
 have hq:RowEq B.length (fun i=>if i=k then setAt (fl eVi B k) 3 [.int .i64 (B.getD k default).c] else fl eVi B i) (fl eVi (B.set k { B.getD k default with b:=(B.getD k default).c })):=fun i hi=>by
  by_cases e:i=k
  ·subst e
   simp only [if_pos rfl,fl]
   rw [show (B.set i { B.getD i default with b:=(B.getD i default).c }).getD i default={ B.getD i default with b:=(B.getD i default).c } by simp [List.getD,List.getElem?_set,hi]]
   rfl
  ·simp only [if_neg e,fl]
   rw [show (B.set k { B.getD k default with b:=(B.getD k default).c }).getD i default=B.getD i default by simp [List.getD,List.getElem?_set,Ne.symm e]]
 have hnp:=not_prv hlt (hB k hlt)
 have hBs:(B.set k { B.getD k default with b:=(B.getD k default).c }).length=B.length:=by simp
 generalize B.set k { B.getD k default with b:=(B.getD k default).c }=B' at hq hnp hBs
 refine LSem.cut mix (n:=115) (fl:= [(9, .sl 0 1 C.length (fl (eCs 0) C)),(19, .os 1616)]) (sl:= [(1616, .row 0 56 4 B.length (fl eVi B'))]) ?_ ?_
 ·refine ⟨rfl,rfl, ?_, ?_⟩<;>exact ent
 rw [←hBs]
 conv=>whnf
 refine ⟨_,fun _=>call14 _ _ _ C B' (by omega) (fun i hi=>by have:=hC6 i hi;omega) (by omega), ?_⟩
 rw [hnp]
 exact retQ _ rfl
end Pv
open Go.ChangeShapes Go.WideShapes Go.ChangeAt Go.RowKit
theorem Tryz.own:ownKnob Tryz.prog.godebug=none:=by kernel_rfl
theorem Tryz.laidOut:laidOutB Tryz.prog=true:=by kernel_rfl
def lists:List (String×DataW Unit):= [("math/bits.deBruijn32tab",Rows.laid_math_bits_deBruijn32tab),("math/bits.deBruijn64tab",Rows.laid_math_bits_deBruijn64tab),("internal/strconv.uint64pow10",Rows.laid_internal_strconv_uint64pow10),("unicode/utf8.acceptRanges",Rows.laid_unicode_utf8_acceptRanges),("unicode/utf8.first",Rows.laid_unicode_utf8_first)]
theorem returns_door {H:Type} {enc:TypeId×Value→H} {a:Assume} {C:Checked} {os:Os} {f:FuncId} {fn:Func} {s:ChangeSpec} {conds:List PathCond} {apart fresh handsOn again:Bool} {X:World→Array Value→Prop}
  (hX:∀(w w':World) (args:Array Value),w.heap=w'.heap→X w args→X w' args)
  (own:ownKnob C.prog.godebug=none) (started:os.Started) (noInit:C.prog.inits.idxOf? f=none) (hfn:C.prog.funcs[f]? =some fn)
  (witness:∃(w:World) (tape:Tape) (i:Input),w.os=os∧(w.forCall tape i).Shaped C.prog∧i.vars= []∧Input.okWide C.prog (w.forCall tape i) .any w.heap.size f i∧
   ((s.pre enc C.prog fn conds apart (w.forCall tape i).memory i.args∧X (w.forCall tape i).memory i.args)∧sizedMet enc C.prog fn (OpenSpec.ofChange s) apart (w.forCall tape i).memory i.args)∧a.holds C.prog (lone (Frame.enter C.prog f i.args .normal) [] (w.forCall tape i)))
  (law:∀(W:World) (base:Nat) (args:Array Value) (ds gs:List (DataW H)) (before:List MemPlace),(∀(j:Nat) t v,fn.params[j]? =some t→args[j]? =some v→Value.okWide C.prog W .any base t v)→
   DataW.Whole enc C.prog fn.params.toList s.vars apart W args.toList ds gs before→(DataW.weightsEach C.prog (fn.params.toList++s.plain.varTypes C.prog) (ds++gs)).all (· ≤reachBytes)=true→X W args→W.ShapedOpen C.prog→
   Calls C.prog f args W fun e W'=>∃v,e= .returned v∧s.post enc C.prog fn apart fresh handsOn again W args v W'):
  ReturnsInHanded a C os f .any (fun w args=>(s.pre enc C.prog fn conds apart w args∧X w args)∧sizedMet enc C.prog fn (OpenSpec.ofChange s) apart w args) (s.post enc C.prog fn apart fresh handsOn again):=by
 refine returnsInHanded_of_calls own started noInit witness fun w tape i _ hsh _ hok hpre _=> ?_
 obtain ⟨_,_,_,g,hg,_,_,_,_,hval⟩:=hok
 cases Option.some.inj (hg.symm.trans hfn)
 obtain ⟨⟨⟨ds,gs,before,hw,_⟩,hx⟩,hz⟩:=hpre
 refine (law (w.forCall tape i) w.heap.size i.args ds gs before hval (DataW.Whole.of_heap (w':=w.forCall tape i) (by rfl) hw) (hz.weights hw) (hX _ _ _ (by rfl) hx) hsh).mono ?_
 rintro e W' ⟨v,rfl,hp⟩
 exact ChangeSpec.post_blind hp
theorem tab_of {W:World} (h:laidMetH Tryz.prog lists W):Lib.TabIs Tryz.prog W "internal/strconv.uint64pow10" .u64 Lib.pow10Tab:=by
 have h1:=(laidMetH_iff.1 h).1
 have h2:=h1.filter fun x=>x.1== "internal/strconv.uint64pow10"
 have e:((lists.filter fun x=>x.2.handleName?.isNone).filter fun x=>x.1== "internal/strconv.uint64pow10")= [("internal/strconv.uint64pow10",Lib.tabData .u64 Lib.pow10Tab)]:=by kernel_rfl
 rw [e] at h2
 exact Lib.tabIs_of_head (g:=1) (t:=267) (e:=242) (n:=20) (by kernel_rfl) (by kernel_rfl) (by kernel_rfl) (by kernel_rfl) (by kernel_rfl) (by kernel_rfl) h2
theorem glob_of {W:World} (h:laidMetH Tryz.prog lists W) (hs:W.ShapedOpen Tryz.prog):Pv.GlobOK W:=fun b p hb=>by
 match b,hb with
 | 0,hb=>
   injection hb with hb;subst hb
   obtain ⟨m,hm⟩:=cell_of_shapedOpen_int (P:=Tryz.prog) (w:=W) (g:=0) (t:=3) (zero:= #[.int .i64 0]) (k:= .i64) hs (of_decide_eq_true (by kernel_rfl)) (by kernel_rfl) rfl (by kernel_rfl) (by kernel_rfl) (by kernel_rfl)
   unfold World.cell? at hm
   split at hm
   ·rename_i cs T fz hc
    exact ⟨_,hc,cs,T,fz,m,rfl,by simpa using hm⟩
   ·cases hm
 | 1,hb=>
   injection hb with hb;subst hb
   have ht:=tab_of h
   unfold Lib.TabIs World.var? at ht
   rw [show Tryz.prog.globalNamed "internal/strconv.uint64pow10"=some 1 from by kernel_rfl] at ht
   simp only [Option.bind_some] at ht
   split at ht
   ·rename_i cs T fz hc
    simp only [Option.some.injEq] at ht
    subst ht
    exact ⟨_,hc,T,fz,rfl⟩
   ·cases ht
 | b+2,hb=>cases hb
open Go.ChangeShapes Go.WideShapes Go.ChangeAt Go.RowKit
namespace Pv
theorem dec_int:∀ps,ShL [.int .i64] ps→∃x:Int,ps=eInt x∧inR .i64 x:=fun ps h=>by
 obtain ⟨p,qs,rfl,h1,h⟩:=shl_cons h
 cases shl_nil h
 obtain ⟨a,rfl,ha⟩:=sh_int h1
 exact ⟨a,rfl,ha⟩
theorem of_wfk {k:IntKind} {n:Int} (h:(Lit.int k n).wf=true):inR k n:=by
 simp only [Lit.wf,Bool.and_eq_true,decide_eq_true_eq] at h;exact h
theorem u8_of {n:Int} (h:inR .u8 n):0≤n∧n≤255:=h
end Pv
theorem liftedReportPlans (os:Os) (started:os.Started) (H:Type) (enc:TypeId×Value→H):
  ReturnsInHanded {} Tryz.checked os 3 .any (fun w args=>(Rows.reportPlansSpec.pre enc Tryz.prog Tryz.f3 Rows.reportPlansRow.domain false w args∧laidMetH Tryz.prog lists w)∧sizedMet enc Tryz.prog Tryz.f3 (OpenSpec.ofChange Rows.reportPlansSpec) false w args) (Rows.reportPlansSpec.post enc Tryz.prog Tryz.f3 false true false false):=by
 refine returns_door (C:=Tryz.checked) (X:=fun w _=>laidMetH Tryz.prog lists w) (fun _ _ _ hh h=>h.of_heap hh) Tryz.own started (by kernel_rfl) Tryz.func3
  (ChangeSpec.witness_shaped (enc:=enc) (C:=Tryz.checked) (os:=os) (X:=fun w _=>laidMetH Tryz.prog lists w) false (World.laidAll Tryz.prog os lists) #[.slice none 0 0, .int .u8 0] 8 (World.laidAll_os _ _ _)
   (World.shaped_of_ZipB (by kernel_rfl) (by kernel_rfl)) (by kernel_rfl) (by kernel_rfl) (by kernel_rfl)
   (by rw [MakeChecks.laidMetH_plain _ _ _ (by kernel_rfl)];exact laidMet_laidAll _ (by kernel_rfl) (by kernel_rfl))) ?_
 intro W base args ds gs before hval0 hW hsz0 hL hS
 have hval:∀(j:Nat) t v,Tryz.f3.params[j]? =some t→args[j]? =some v→Value.okWide Tryz.prog W .any base t v:=hval0
 have hW':=hW
 obtain ⟨p,q,hA0,hV,rfl,hfz,hnd⟩:=hW
 have hA:DataW.TrodAll enc Tryz.prog W 0 (fun _=>true) true Tryz.f3.params.toList args.toList ds p:=hA0
 rw [Tryz.params3] at hA hval
 have hgl:Pv.GlobOK W:=glob_of hL hS
 have hsz:(DataW.weightsEach Tryz.prog (Tryz.f3.params.toList++(Rows.reportPlansSpec).plain.varTypes Tryz.prog) (ds++gs)).all (· ≤reachBytes)=true:=hsz0
 rw [Tryz.params3] at hsz
 obtain ⟨v0,vs0,d0,ds0,p0,q0,hargs,rfl,rfl,h0,r0⟩:=trodAll_cons hA
 obtain ⟨v1,vs1,d1,ds1,p1,q1,rfl,rfl,rfl,h1,r1⟩:=trodAll_cons r0
 obtain ⟨rfl,rfl,rfl⟩:=trodAll_nil r1
 obtain rfl:args= #[v0,v1]:=by cases args;simp_all
 obtain ⟨rfl,rfl⟩:=trodVars_none hV
 have k0:=h0
 have lt0:∀x∈p0,x.block<W.heap.size:=by obtain ⟨m,hm⟩:=k0;exact DataW.trod_lt m _ _ _ hm
 obtain ⟨a0,len0,cap0,rfl⟩:=okWide_slice Tryz.underlying22 (hval 0 22 v0 rfl rfl)
 obtain ⟨_,s0,g0⟩:=Pv.arg_one (m:=9) (s:= .sl [.int .i64]) (by kernel_rfl) rfl k0
 obtain ⟨l0,e0,_,i0⟩:=Pv.sh_list hgl Pv.eInt (Pv.inR .i64) Pv.dec_int s0 g0
 obtain ⟨l1,rfl,rfl,rfl,w1⟩:=open_int Tryz.underlying5 (hval 1 5 v1 rfl rfl) h1
 have i1:=Pv.of_wfk w1
 have e1:Pv.Rep (Pv.cx0 W) Pv.gh0 W (.int .u8 l1) (.int .u8 l1):= .int _ _
 clear hA0 hval0
 refine (Pv.law_calls hgl (Pv.call3 l0 l1 (Pv.u8_of i1)) (Pv.RepL.cons_ e0 (Pv.RepL.cons_ e1 Pv.RepL.nil_))).mono fun e W' ⟨he,bel⟩=> ?_
 subst he
 exact ⟨_,rfl,_,_,_, [],_, [],hW',trodAll_mk1 (shut_bool Tryz.underlying4 _),(trodAll_cons_mk (Below.trod Tryz.laidOut (by kernel_rfl) (of_decide_eq_true (by kernel_rfl)) k0 bel lt0) (trodAll_cons_mk (shut_int Tryz.underlying5 w1) trodAll_mk0)),rfl,bel.frame _,fun h=>by cases h⟩
theorem ReportPlans_row:Rows.ReportPlansSaid:=
 OpenClaim.holds_of_wide 3 Tryz.f3 rfl rfl rfl rfl rfl rfl rfl ⟨rfl,rfl,rfl,rfl,rfl⟩ rfl rfl rfl rfl rfl (by kernel_rfl) Tryz.func3 (by kernel_rfl)
  (of_decide_eq_true (by kernel_rfl)) (by unfold Func.isWrapper;first | (rw [if_pos (by decide +kernel)];kernel_rfl) | (rw [if_neg (by decide +kernel)];exact ⟨rfl,rfl⟩))
  (fun os started H enc _=>liftedReportPlans os started H enc)
theorem ReportPlans_holds:Rows.ReportPlansCardSaid:=
 Claim7.holds_tied_plain_at .later [] [.data, .data, .data, .data, .pinned] true (true, "2c985d31bd4b5717c313b79f692f7865bd4d87748164a4f5c22b462ed53e59a1") false ReportPlans_row (fun _ h=>by cases h) (by kernel_rfl) (fun _ h=>by cases h) reportPlans_row_tie rfl ⟨rfl,rfl⟩ (by kernel_rfl) rfl
  (fun f fn hf hfn=>by
   obtain rfl:f=3:=Option.some.inj ((show Tryz.prog.funcNamed "hydrocascade/hydrocascadelaw42.ReportPlans"=some 3 by kernel_rfl).symm.trans hf) |>.symm
   obtain rfl:fn=Tryz.f3:=(Option.some.inj (Tryz.func3.symm.trans hfn)).symm
   exact ⟨by kernel_rfl,fun j t ht=>by
    rw [Tryz.params3] at ht
    have hm:t∈ [22,5]:=by simpa using Array.mem_of_getElem? ht
    have hall:([22,5].all fun u=> !Tryz.prog.wantsStandIn u)=true:=by kernel_rfl
    exact (show Tryz.prog.wantsStandIn t=false by simpa using List.all_eq_true.1 hall t hm)⟩)
  (by kernel_rfl)
end Go.Proofs.YtaleokjjkjngkaaGreatDoor
