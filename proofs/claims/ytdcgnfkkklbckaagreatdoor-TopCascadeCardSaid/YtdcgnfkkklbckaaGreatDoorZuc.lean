/- FROM THE TRANSLATION'S CODE TO THE COMPACT FORM. A function that the kernel runs; nothing is claimed here. -/
import Derived.Test.YtdcgnfkkklbckaaGreatDoorZub
import Derived.Lib.FrozenHead
set_option linter.unusedSimpArgs false
set_option linter.unusedVariables false
namespace Go.Proofs.YtdcgnfkkklbckaaGreatDoor
namespace Pv
open Go.RowKit
structure GE where
 blk:Option Nat
 hdr:Value
 z:Nat
abbrev Gh:=Nat→Option GE
structure Cx where
 lo:Nat
 as:Nat→Prop
 ls:Nat→Prop
 np:Nat
 g0:Nat→Option GE
 df:List Deferred
def GE.has (ge:GE) (b:Nat):Prop:=ge.blk=some b∨ge.hdr.ownBlock=some b
def GE.le (ge ge':GE):Prop:=ge'.blk=ge.blk∧ge'.z=ge.z∧(ge.blk=ge.hdr.ownBlock→ge'=ge)
theorem GE.has_row {ge:GE} (h:ge.blk=ge.hdr.ownBlock) {b:Nat}:ge.has b↔ge.blk=some b:=⟨fun hb=>hb.elim id (fun h2=>h.trans h2), .inl⟩
def Cx.my (X:Cx) (b:Nat):Prop:=X.lo≤b∨∃r ge,X.g0 r=some ge∧ge.blk=some b∧ge.hdr.ownBlock=some b
def Gh.own (γ:Gh) (b:Nat):Prop:=∃r ge,γ r=some ge∧ge.has b
def mayLie (X:Cx) (γ:Gh) (τ b:Nat):Prop:=
 ¬γ.own b∧(X.my b∨(1≤τ∧X.as b)∨(2≤τ∧X.ls b))
theorem mayLie.mono {X:Cx} {γ:Gh} {τ τ' b:Nat} (h:mayLie X γ τ b) (ht:τ≤τ'):mayLie X γ τ' b:=
 ⟨h.1,h.2.imp id (Or.imp (And.imp (fun h=>Nat.le_trans h ht) id) (And.imp (fun h=>Nat.le_trans h ht) id))⟩
theorem mayLie.two {X:Cx} {γ:Gh} {τ τ' b:Nat} (h:mayLie X γ τ b) (ht:2≤τ'):mayLie X γ τ' b:=
 ⟨h.1,h.2.imp id (Or.imp (fun h=>⟨by omega,h.2⟩) (fun h=>⟨ht,h.2⟩))⟩
def cellT (τ:Nat) (w:World) (a:Addr):Option Value:=if τ=0∧w.frozen? a=true then none else w.cell? a
theorem cellT_cell {τ:Nat} {w:World} {a:Addr} {v:Value} (h:cellT τ w a=some v):w.cell? a=some v:=by
 unfold cellT at h;split at h
 ·cases h
 ·exact h
theorem cellT_pos {τ:Nat} {w:World} {a:Addr} {v:Value} (ht:0<τ) (h:w.cell? a=some v):cellT τ w a=some v:=by
 unfold cellT;rw [if_neg (by omega)];exact h
theorem cellT_off {τ:Nat} {w:World} {a:Addr} {v:Value} (hf:w.frozen? a=false) (h:w.cell? a=some v):cellT τ w a=some v:=by
 unfold cellT;rw [if_neg (by rw [hf];simp)];exact h
theorem cellT_up {τ τ':Nat} {w:World} {a:Addr} {v:Value} (ht:τ≤τ') (h:cellT τ w a=some v):cellT τ' w a=some v:=by
 unfold cellT at h⊢
 split at h
 ·cases h
 ·rename_i hn;rw [if_neg (fun h2=>hn ⟨by omega,h2.2⟩)];exact h
theorem cellT_of_block {τ:Nat} {w w':World} {a:Addr} (h:w'.heap[a.block]? =w.heap[a.block]?):cellT τ w' a=cellT τ w a:=by
 unfold cellT
 rw [World.cell?_of_block (w:=w) h]
 have:w'.frozen? a=w.frozen? a:=by unfold World.frozen?;rw [h]
 rw [this]
inductive Rep (X:Cx) (γ:Gh) (w:World):PV→Value→Prop where
 | int (k:IntKind) (n:Int):Rep X γ w (.int k n) (.int k n)
 | bool (b:Bool):Rep X γ w (.bool b) (.bool b)
 | str (s:List UInt8):Rep X γ w (.str s) (.string ⟨s.toArray⟩)
 | agg (cs:List PV) (vs:List Value) (hl:vs.length=cs.length) (hc:∀u∈vs,u.oneCell'=true)
  (h:∀(k:Nat) (c:PV) (u:Value),cs[k]? =some c→vs[k]? =some u→Rep X γ w c u):Rep X γ w (.agg cs) (.agg vs.toArray)
 | tup (cs:List PV) (vs:List Value) (hl:vs.length=cs.length)
  (h:∀(k:Nat) (c:PV) (u:Value),cs[k]? =some c→vs[k]? =some u→Rep X γ w c u):Rep X γ w (.tup cs) (.tuple vs.toArray)
 | sl (τ z n:Nat) (f:Nat→List PV) (ad:Option Addr) (cap:Nat) (vs:Nat→Value) (hcap:n≤cap) (hz:∀i,i<n→(f i).length=z)
  (hf:∀i,i<n→∀c∈f i,c.flat=true)
  (hb:0<n→∃a,ad=some a∧mayLie X γ τ a.block∧a.block<w.heap.size∧∀k,k<n*z→cellT τ w (a.add k)=some (vs k))
  (h:∀(i j:Nat) (c:PV),i<n→(f i)[j]? =some c→Rep X γ w (c.mark τ) (vs (i*z+j))):Rep X γ w (.sl τ z n f) (.slice ad n cap)
 | nil (z:Nat):Rep X γ w (.nil z) (.slice none 0 0)
 | os (r:Nat) (ge:GE) (hg:γ r=some ge) (h1:ge.hdr.oneCell'=true) (h2:ge.blk=ge.hdr.ownBlock):Rep X γ w (.os r) ge.hdr
 | vw (h:Bool) (r lo n:Nat) (ge:GE) (ad:Option Addr) (m cap:Nat) (hg:γ r=some ge) (hh:ge.hdr= .slice ad m cap) (hle:lo+n≤m) (h0:h=true→lo=0) (h2:ge.blk=ge.hdr.ownBlock):
  Rep X γ w (.vw h r lo n) (.slice (if cap=lo then ad else ad.map (·.add (lo*ge.z))) n (cap - lo))
 | pt (r i j:Nat) (ge:GE) (b:Nat) (hg:γ r=some ge) (hb:ge.blk=some b):Rep X γ w (.pt r i j) (.pointer (some ⟨b,i*ge.z+j,none⟩))
 | rf (r:Nat) (ge:GE) (b:Nat) (hg:γ r=some ge) (hb:ge.blk=some b):Rep X γ w (.rf none r) (.map (some b))
 | rfs (z n r:Nat) (ge:GE) (b:Nat) (hg:γ r=some ge) (hb:ge.blk=some b):Rep X γ w (.rf (some (z,n)) r) (.slice (some ⟨b,0,none⟩) n n)
 | rp (τ:Nat) (cs:List PV) (a:Addr) (vs:Nat→Value) (hf:∀c∈cs,c.flat=true)
  (hb:cs≠ []→mayLie X γ τ a.block∧a.block<w.heap.size) (hc:∀k,k<cs.length→cellT τ w (a.add k)=some (vs k))
  (h:∀(k:Nat) (c:PV),cs[k]? =some c→Rep X γ w (c.mark τ) (vs k)):Rep X γ w (.rp τ cs) (.pointer (some a))
 | fn (f:Fn) (first caps:List PV) (vs us:List Value) (hl:vs.length=first.length) (hl':us.length=caps.length)
  (h:∀(k:Nat) (c:PV) (u:Value),first[k]? =some c→vs[k]? =some u→Rep X γ w c u)
  (h':∀(k:Nat) (c:PV) (u:Value),caps[k]? =some c→us[k]? =some u→Rep X γ w c u):Rep X γ w (.fn f first caps) (.func f vs.toArray us.toArray)
 | raw (v:Value) (h1:v.oneCell'=true):Rep X γ w (.raw v) v
 | cnd (g:Bool) (p:PV) (v:Value) (h:g=true→Rep X γ w p v) (hu:g=false→v=undef):Rep X γ w (.cnd g p) v
 | junk (v:Value):Rep X γ w .junk v
def RepL (X:Cx) (γ:Gh) (w:World) (cs:List PV) (vs:List Value):Prop:=
 vs.length=cs.length∧∀(k:Nat) (c:PV) (u:Value),cs[k]? =some c→vs[k]? =some u→Rep X γ w c u
def bytesV (s:List UInt8):List Value:=s.map fun x=> .int .u8 (x.toNat:Int)
def fzOff (n:Nat) (fz:Nat×Nat):Prop:=fz.2=0∨n≤fz.1
def OwnsG (w:World) (e:TypeId) (size:Nat) (v:Value) (n:Nat) (xs:List Value):Prop:=
 xs.length=n*size∧
 ((v= .slice none 0 0∧n=0)∨
  ∃g cap cur fz,v= .slice (some ⟨g,0,none⟩) n cap∧w.heap[g]? =some (.cells cur e fz)∧fzOff cur.size fz∧n≤cap∧cap≤maxLen∧cur.size=cap*size∧cur.toList.take (n*size)=xs)
section
variable {w:World} {base:Nat} {e:TypeId} {size:Nat} {v:Value} {n:Nat} {xs:List Value}
theorem OwnsG_of (h:w.ownsRow base e size v n xs):OwnsG w e size v n xs:=by
 refine ⟨h.1, ?_⟩
 rcases h.2 with hn | ⟨g,cap,cur,hv,hb,hg,rest⟩
 ·exact .inl hn
 ·exact .inr ⟨g,cap,cur,(0,0),hv,hg, .inl rfl,rest⟩
theorem OwnsG_nil (w:World) (e:TypeId) (size:Nat):OwnsG w e size (.slice none 0 0) 0 []:=⟨by simp, .inl ⟨rfl,rfl⟩⟩
theorem OwnsG.lt (h:OwnsG w e size v n xs):∀k,v.ownBlock=some k→k<w.heap.size:=by
 intro k hk
 rcases h.2 with ⟨rfl,_⟩ | ⟨g,cap,cur,fz,rfl,hg,_⟩
 ·simp [Value.ownBlock] at hk
 ·simp [Value.ownBlock] at hk
  subst hk
  exact (Array.getElem?_eq_some_iff.1 hg).1
theorem OwnsG.cells (h:OwnsG w e size v n xs) {g:Nat} (hg:v.ownBlock=some g):∀j u,xs[j]? =some u→w.cell? ((⟨g,0,none⟩:Addr).add j)=some u:=by
 intro j u hu
 rcases h.2 with ⟨rfl,_⟩ | ⟨g',cap,cur,fz,rfl,hgg,_,_,_,_,htake⟩
 ·simp [Value.ownBlock] at hg
 ·simp [Value.ownBlock] at hg
  subst hg
  have hadd:(⟨g',0,none⟩:Addr).add j=⟨g',j,none⟩:=by unfold Addr.add;split<;>simp_all
  rw [hadd,cell_of_row w g' j cur e fz hgg]
  rw [←htake,List.getElem?_take] at hu
  split at hu
  ·simpa using hu
  ·cases hu
theorem OwnsG.free (h:OwnsG w e size v n xs) {g:Nat} (hg:v.ownBlock=some g):∀j,j<xs.length→w.frozen? ((⟨g,0,none⟩:Addr).add j)=false:=by
 intro j hj
 rcases h.2 with ⟨rfl,_⟩ | ⟨g',cap,cur,fz,rfl,hgg,hfz,_,_,_,htake⟩
 ·simp [Value.ownBlock] at hg
 ·simp [Value.ownBlock] at hg
  subst hg
  have hadd:(⟨g',0,none⟩:Addr).add j=⟨g',j,none⟩:=by unfold Addr.add;split<;>simp_all
  have hjc:j<cur.size:=by
   have:=congrArg List.length htake
   rw [List.length_take] at this
   simp at this;omega
  obtain ⟨lo,hi⟩:=fz
  unfold fzOff at hfz
  rw [hadd]
  unfold World.frozen?
  simp only [hgg,Bool.and_eq_false_iff,decide_eq_false_iff_not]
  simp only at hfz
  omega
end
def cv:KK→PC→Value
 | .i k,c=> .int k (intP c)
 | .b,c=> .bool (boolP c)
 | .s,c=> .string ⟨(strP c).toArray⟩
def cvs:List KK→List PC→List Value
 | k::ks,c::cs=>cv k c::cvs ks cs
 | _,_=> []
def kv (ks:List KK) (a:Bool) (l:List PC):Value:=if a then .agg (cvs ks l).toArray else (cvs ks l).headD undef
structure MapRel (ks vks:List KK) (ka va:Bool) (h:List PC→Bool) (f:List PC→List PC) (es:List MapEntry):Prop where
 ent:∀e∈es,∃kl,okK ks kl=true∧e.key=kv ks ka kl∧h kl=true∧e.val=kv vks va (f kl)
 has:∀kl,okK ks kl=true→h kl=true→∃e∈es,e.key=kv ks ka kl
 val:∀kl,okK ks kl=true→okK vks (f kl)=true
 zero:∀kl,okK ks kl=true→h kl=false→f kl=zeroKs vks
 dis:es.Pairwise fun a b=>a.key≠b.key
 one:(ka=false→ks.length=1)∧(va=false→vks.length=1)
def BoxAt (X:Cx) (γ:Gh) (w:World) (b:Nat) (cells:List PV):Prop:=
 (∃T vs,w.heap[b]? =some (.cells vs T (0,0))∧(∀u∈vs.toList,u.oneCell'=true)∧RepL X γ w cells vs.toList)∨
 ∃ks vks ka va h f es clock,cells= [.mpv ks vks ka va h f]∧w.heap[b]? =some (.map es clock)∧MapRel ks vks ka va h f es.toList
def RepS (X:Cx) (γ:Gh) (w:World) (ge:GE):SE→Prop
 | .box cells=>∃b,(ge.blk=some b∧ge.hdr.ownBlock=none)∧BoxAt X γ w b cells
 | .row τ e z n f=>∃vs:List Value,ge.z=z∧ge.blk=ge.hdr.ownBlock∧ge.hdr.oneCell'=true∧OwnsG w e z ge.hdr n vs∧(∀u∈vs,u.oneCell'=true)∧(∀i,i<n→(f i).length=z)∧
  (∀i,i<n→∀c∈f i,c.flat=true)∧∀(i j:Nat) (c:PV) (u:Value),i<n→(f i)[j]? =some c→vs[i*z+j]? =some u→Rep X γ w (c.mark τ) u
 | .bld T e s=>∃b p v,ge.blk=some b∧ge.hdr.ownBlock=v.ownBlock∧(p= .pointer none∨p= .pointer (some ⟨b,0,none⟩))∧w.heap[b]? =some (.cells #[p,v] T (0,0))∧
  w.ownsRowF 0 e 1 v s.length (bytesV s)∧v.ownBlock≠some b
structure RepSt (X:Cx) (γ:Gh) (w:World) (st:Nat→Option SE):Prop where
 dom:∀r,(γ r).isSome=(st r).isSome
 at_:∀r ge e,γ r=some ge→st r=some e→RepS X γ w ge e
 inj:∀r r' ge ge' b,γ r=some ge→γ r'=some ge'→ge.has b→ge'.has b→r=r'
 asOff:∀b,γ.own b→¬X.as b∧¬X.ls b
 lt:∀b,γ.own b→b<w.heap.size
 glob:∀b p,glob b=some p→(∃o,w.heap[b]? =some o∧p o)∧¬γ.own b∧X.as b
theorem glob_keep {γ γ':Gh} {w w':World} {A:Nat→Prop} (h:∀b p,Pv.glob b=some p→(∃o,w.heap[b]? =some o∧p o)∧¬γ.own b∧A b) (hk:∀b,b<w.heap.size→¬γ.own b→w'.heap[b]? =w.heap[b]?) (ho:∀b,γ'.own b→γ.own b∨w.heap.size≤b):
  ∀b p,Pv.glob b=some p→(∃o,w'.heap[b]? =some o∧p o)∧¬γ'.own b∧A b:=fun b p hb=>by
 obtain ⟨⟨o,h1,h2⟩,h3,h6⟩:=h b p hb
 have hlt:b<w.heap.size:=(Array.getElem?_eq_some_iff.1 h1).1
 refine ⟨⟨o,by rw [hk b hlt h3];exact h1,h2⟩,fun h4=> ?_,h6⟩
 rcases ho b h4 with h5 | h5
 ·exact h3 h5
 ·omega
structure Keeps (may:Nat→Prop) (w w':World):Prop where
 os:w'.os=w.os
 tape:w'.tape=w.tape
 output:w'.output=w.output
 size:w.heap.size≤w'.heap.size
 block:∀b,b<w.heap.size→¬may b→w'.heap[b]? =w.heap[b]?
theorem Keeps.refl (may:Nat→Prop) (w:World):Keeps may w w:=⟨rfl,rfl,rfl,Nat.le_refl _,fun _ _ _=>rfl⟩
theorem Keeps.trans {may:Nat→Prop} {a b c:World} (h:Keeps may a b) (k:Keeps may b c):Keeps may a c:=
 ⟨k.os.trans h.os,k.tape.trans h.tape,k.output.trans h.output,Nat.le_trans h.size k.size,fun i hi hm=>(k.block i (Nat.lt_of_lt_of_le hi h.size) hm).trans (h.block i hi hm)⟩
theorem Keeps.mono {may may':Nat→Prop} {a b:World} (h:Keeps may a b) (hm:∀i,i<a.heap.size→may i→may' i):Keeps may' a b:=
 ⟨h.os,h.tape,h.output,h.size,fun i hi hn=>h.block i hi (fun hh=>hn (hm i hi hh))⟩
theorem Keeps.drew (may:Nat→Prop) (w:World):Keeps may w w.drew:=⟨rfl,rfl,rfl,Nat.le_refl _,fun _ _ _=>rfl⟩
theorem Keeps.alloc (may:Nat→Prop) (w:World) (o:Obj):Keeps may w (w.alloc o):=⟨rfl,rfl,rfl,by simp,fun k hk _=>Below.heap_alloc w o k hk⟩
def ParOK (g g0:Option GE):Option SE→Prop
 | some (.box _)=>g=g0
 | some (.bld _ _ _)=>∃ge ge0,g=some ge∧g0=some ge0∧ge.blk=ge0.blk∧ge.z=ge0.z
 | some (.row ..)=>∃ge ge0,g=some ge∧g0=some ge0∧ge.blk=ge0.blk∧ge.hdr=ge0.hdr
 | none=>False
structure Rel (X:Cx) (w0:World) (may:Nat→Prop) (a:Act) (w:World) (s:PS) (γ:Gh):Prop where
 size:a.tmps.size=s.n
 defers:a.defers=X.df
 fr:∀t p,s.fr t=some p→t<s.n∧Rep X γ w p (a.tmps.getD t undef)
 st:RepSt X γ w s.st
 keeps:Keeps may w0 w
 lo:X.lo=w0.heap.size
 own:∀r ge b,γ r=some ge→ge.has b→X.my b∨(r<X.np∧∃ge0,X.g0 r=some ge0∧ge0.has b)
 asLt:∀b,X.as b∨X.ls b→b<X.lo∧¬may b
 par:∀r,r<X.np→ParOK (γ r) (X.g0 r) (s.st r)
 mayP:∀r ge b,X.g0 r=some ge→ge.has b→may b
 fx:∀r e,s.st r=some e→fixR e=true→∃ge ge0,γ r=some ge∧X.g0 r=some ge0∧ge.hdr=ge0.hdr
 pr:∀r τ e z n f,r<X.np→s.st r=some (.row τ e z n f)→1≤r∧r<16
theorem voidL_get (k:List Nat):∀(cs:List PV) (i:Nat),(PV.voidL k cs)[i]? =(cs[i]?).map (PV.void k)
 | [],i=>by simp [PV.voidL]
 | c::cs,0=>by simp [PV.voidL]
 | c::cs,i+1=>by simpa [PV.voidL] using voidL_get k cs i
theorem voidL_length (k:List Nat):∀(cs:List PV),(PV.voidL k cs).length=cs.length
 | []=>rfl
 | c::cs=>by simp [PV.voidL,voidL_length k cs]
theorem flat_fn {f:Fn} {a b:List PV} (h:(PV.fn f a b).flat=true):a= []∧allRp b=true:=by
 cases a with
 | nil=>exact ⟨rfl,h⟩
 | cons _ _=>simp [PV.flat] at h
theorem allRp_get:∀{l:List PV},allRp l=true→∀(k:Nat) (c:PV),l[k]? =some c→∃τ cs,c= .rp τ cs
 | [],_,k,c,hk=>by simp at hk
 | p::l,h,k,c,hk=>by
   cases p<;>simp only [allRp,Bool.false_eq_true] at h
   cases k with
   | zero=>simp only [List.getElem?_cons_zero,Option.some.injEq] at hk;exact ⟨_,_,hk.symm⟩
   | succ k=>exact allRp_get h k c (by simpa using hk)
theorem rpMarks_len (τ:Nat):∀l:List PV,(rpMarks τ l).length=l.length
 | []=>rfl
 | p::l=>by simp [rpMarks,rpMarks_len τ l]
theorem rpMarks_get (τ:Nat):∀(l:List PV) (k:Nat),(rpMarks τ l)[k]? =(l[k]?).map (rpMark τ)
 | [],k=>by simp [rpMarks]
 | p::l,0=>by simp [rpMarks]
 | p::l,k+1=>by simpa [rpMarks] using rpMarks_get τ l k
theorem rpMark_mark (p:PV) (τ τ':Nat):rpMark τ' (rpMark τ p)=rpMark τ' p:=by cases p<;>rfl
theorem rpMarks_marks (τ τ':Nat):∀l:List PV,rpMarks τ' (rpMarks τ l)=rpMarks τ' l
 | []=>rfl
 | p::l=>by simp [rpMarks,rpMark_mark,rpMarks_marks τ τ' l]
theorem rpTau_marks (τ:Nat):∀l:List PV,rpTau (rpMarks τ l)≤τ
 | []=>Nat.zero_le _
 | p::l=>by
   have:=rpTau_marks τ l
   cases p<;>simp only [rpMarks,rpMark,rpTau]<;>omega
theorem rpTau_le:∀{l:List PV} {k τ:Nat} {cs:List PV},l[k]? =some (.rp τ cs)→τ≤rpTau l
 | [],k,τ,cs,h=>by simp at h
 | p::l,0,τ,cs,h=>by
   simp only [List.getElem?_cons_zero,Option.some.injEq] at h
   subst h;simp only [rpTau];omega
 | p::l,k+1,τ,cs,h=>by
   have:=rpTau_le (l:=l) (k:=k) (by simpa using h)
   cases p<;>simp only [rpTau]<;>omega
theorem allRp_marks (τ:Nat):∀l:List PV,allRp (rpMarks τ l)=allRp l
 | []=>rfl
 | p::l=>by cases p<;>simp only [rpMarks,rpMark,allRp,allRp_marks τ l]
theorem voidL_rp (k:List Nat):∀{l:List PV},allRp l=true→PV.voidL k l=l
 | [],_=>rfl
 | p::l,h=>by
   cases p<;>simp only [allRp,Bool.false_eq_true] at h
   simp only [PV.voidL,PV.void,voidL_rp k h]
theorem Rep.fn_nil {X X':Cx} {γ γ':Gh} {w w':World} {f:Fn} {v:Value} (h:Rep X γ w (.fn f [] []) v):Rep X' γ' w' (.fn f [] []) v:=by
 cases h with
 | fn f first caps vs us hl hl' h h'=>
   exact .fn f [] [] vs us hl hl' (fun k c u hk=>by simp at hk) (fun k c u hk=>by simp at hk)
theorem flat_void {c:PV} (h:c.flat=true) (k:List Nat) (τ:Nat):(c.mark τ).void k=c.mark τ:=by
 cases c with
 | fn f a b=>
   obtain ⟨rfl,hb⟩:=flat_fn h
   simp only [PV.mark,PV.void,PV.voidL]
   rw [voidL_rp k (by rw [allRp_marks];exact hb)]
 | _=>simp_all [PV.flat,PV.mark,PV.void]
section
variable {X:Cx} {γ γ':Gh} {w w':World}
theorem Rep.move {k:List Nat} {p:PV} {v:Value} (h:Rep X γ w p v) (hγ:∀r ge,r∉k→γ r=some ge→γ' r=some ge)
  (hown:∀b,γ'.own b→γ.own b∨w.heap.size≤b) (hsz:w.heap.size≤w'.heap.size)
  (hw:∀b,¬γ.own b→b<w.heap.size→w'.heap[b]? =w.heap[b]?):Rep X γ' w' (p.void k) v:=by
 have hlie:∀τ b,b<w.heap.size→mayLie X γ τ b→mayLie X γ' τ b:=fun τ b hb hm=>⟨fun ho=>(hown b ho).elim hm.1 (fun h=>absurd hb (by omega)),hm.2⟩
 have hcell:∀(a:Addr) (τ:Nat),mayLie X γ τ a.block→a.block<w.heap.size→∀j u,cellT τ w (a.add j)=some u→cellT τ w' (a.add j)=some u:=by
  intro a τ hm hlt j u hu
  have e:(a.add j).block=a.block:=by unfold Addr.add;split<;>rfl
  rw [cellT_of_block (w:=w) (by rw [e];exact hw _ hm.1 hlt)]
  exact hu
 induction h with
 | int k n=>exact .int k n
 | bool b=>exact .bool b
 | str s=>exact .str s
 | agg cs vs hl hc h ih=>
   refine .agg _ _ (by rw [voidL_length];exact hl) hc fun i c u hi hu=> ?_
   rw [voidL_get] at hi
   obtain ⟨c0,h0,rfl⟩:=Option.map_eq_some_iff.1 hi
   exact ih i c0 u h0 hu
 | tup cs vs hl h ih=>
   refine .tup _ _ (by rw [voidL_length];exact hl) fun i c u hi hu=> ?_
   rw [voidL_get] at hi
   obtain ⟨c0,h0,rfl⟩:=Option.map_eq_some_iff.1 hi
   exact ih i c0 u h0 hu
 | sl τ z n f ad cap vs hcap hz hf hb h ih=>
   refine .sl τ z n f ad cap vs hcap hz hf (fun hn=> ?_) (fun i j c hi hc=> ?_)
   ·obtain ⟨a,rfl,hm,hlt,hc⟩:=hb hn
    exact ⟨a,rfl,hlie _ _ hlt hm,Nat.lt_of_lt_of_le hlt hsz,fun k hk=>hcell a τ hm hlt k _ (hc k hk)⟩
   ·have:=ih i j c hi hc
    rwa [flat_void (hf i hi c (List.mem_of_getElem? hc))] at this
 | nil z=>exact .nil z
 | os r ge hg h1 h2=>
   simp only [PV.void]
   split
   ·exact .junk _
   ·rename_i hne;exact .os r ge (hγ r ge hne hg) h1 h2
 | vw h r lo n ge ad m cap hg hh hle h0 h2=>
   simp only [PV.void]
   split
   ·exact .junk _
   ·rename_i hne;exact .vw h r lo n ge ad m cap (hγ r ge hne hg) hh hle h0 h2
 | pt r i j ge b hg hb=>
   simp only [PV.void]
   split
   ·exact .junk _
   ·rename_i hne;exact .pt r i j ge b (hγ r ge hne hg) hb
 | rf r ge b hg hb=>
   simp only [PV.void]
   split
   ·exact .junk _
   ·rename_i hne;exact .rf r ge b (hγ r ge hne hg) hb
 | rfs z n r ge b hg hb=>
   simp only [PV.void]
   split
   ·exact .junk _
   ·rename_i hne;exact .rfs z n r ge b (hγ r ge hne hg) hb
 | rp τ cs a vs hf hb hc h ih=>
   refine .rp τ cs a vs hf (fun hn=> ?_) (fun k hk=> ?_) (fun k c hk=> ?_)
   ·obtain ⟨hm,hlt⟩:=hb hn
    exact ⟨hlie _ _ hlt hm,Nat.lt_of_lt_of_le hlt hsz⟩
   ·obtain ⟨hm,hlt⟩:=hb (by intro e;subst e;simp at hk)
    exact hcell a τ hm hlt k _ (hc k hk)
   ·have:=ih k c hk
    rwa [flat_void (hf c (List.mem_of_getElem? hk))] at this
 | fn f first caps vs us hl hl' h h' ih ih'=>
   refine .fn _ _ _ _ _ (by rw [voidL_length];exact hl) (by rw [voidL_length];exact hl') (fun i c u hi hu=> ?_) (fun i c u hi hu=> ?_)
   ·rw [voidL_get] at hi
    obtain ⟨c0,h0,rfl⟩:=Option.map_eq_some_iff.1 hi
    exact ih i c0 u h0 hu
   ·rw [voidL_get] at hi
    obtain ⟨c0,h0,rfl⟩:=Option.map_eq_some_iff.1 hi
    exact ih' i c0 u h0 hu
 | raw v h1=>exact .raw v h1
 | cnd g p v h hu ih=>exact .cnd g _ v ih hu
 | junk v=>exact .junk v
theorem Rep.monoG {p:PV} {v:Value} (h:Rep X γ w p v) (hγ:∀r ge,γ r=some ge→∃ge',γ' r=some ge'∧ge.le ge')
  (hown:∀b,γ'.own b→γ.own b∨w.heap.size≤b) (hsz:w.heap.size≤w'.heap.size)
  (hw:∀b,¬γ.own b→b<w.heap.size→w'.heap[b]? =w.heap[b]?):Rep X γ' w' p v:=by
 have hlie:∀τ b,b<w.heap.size→mayLie X γ τ b→mayLie X γ' τ b:=fun τ b hb hm=>⟨fun ho=>(hown b ho).elim hm.1 (fun h=>absurd hb (by omega)),hm.2⟩
 have hcell:∀(a:Addr) (τ:Nat),mayLie X γ τ a.block→a.block<w.heap.size→∀j u,cellT τ w (a.add j)=some u→cellT τ w' (a.add j)=some u:=by
  intro a τ hm hlt j u hu
  have e:(a.add j).block=a.block:=by unfold Addr.add;split<;>rfl
  rw [cellT_of_block (w:=w) (by rw [e];exact hw _ hm.1 hlt)]
  exact hu
 induction h with
 | int k n=>exact .int k n
 | bool b=>exact .bool b
 | str s=>exact .str s
 | agg cs vs hl hc h ih=>exact .agg _ _ hl hc ih
 | tup cs vs hl h ih=>exact .tup _ _ hl ih
 | sl τ z n f ad cap vs hcap hz hf hb h ih=>
   refine .sl τ z n f ad cap vs hcap hz hf (fun hn=> ?_) ih
   obtain ⟨a,rfl,hm,hlt,hc⟩:=hb hn
   exact ⟨a,rfl,hlie _ _ hlt hm,Nat.lt_of_lt_of_le hlt hsz,fun k hk=>hcell a τ hm hlt k _ (hc k hk)⟩
 | nil z=>exact .nil z
 | os r ge hg h1 h2=>
   obtain ⟨ge',e1,_,_,e2⟩:=hγ r ge hg
   rw [e2 h2] at e1
   exact .os r ge e1 h1 h2
 | vw h r lo n ge ad m cap hg hh hle h0 h2=>
   obtain ⟨ge',e1,_,_,e2⟩:=hγ r ge hg
   rw [e2 h2] at e1
   exact .vw h r lo n ge ad m cap e1 hh hle h0 h2
 | pt r i j ge b hg hb=>
   obtain ⟨ge',e1,e2,e3,_⟩:=hγ r ge hg
   rw [←e3]
   exact .pt r i j ge' b e1 (e2.trans hb)
 | rf r ge b hg hb=>
   obtain ⟨ge',e1,e2,e3,_⟩:=hγ r ge hg
   exact .rf r ge' b e1 (e2.trans hb)
 | rfs z n r ge b hg hb=>
   obtain ⟨ge',e1,e2,e3,_⟩:=hγ r ge hg
   exact .rfs z n r ge' b e1 (e2.trans hb)
 | rp τ cs a vs hf hb hc h ih=>
   refine .rp τ cs a vs hf (fun hn=> ?_) (fun k hk=> ?_) ih
   ·obtain ⟨hm,hlt⟩:=hb hn
    exact ⟨hlie _ _ hlt hm,Nat.lt_of_lt_of_le hlt hsz⟩
   ·obtain ⟨hm,hlt⟩:=hb (by intro e;subst e;simp at hk)
    exact hcell a τ hm hlt k _ (hc k hk)
 | fn f first caps vs us hl hl' h h' ih ih'=>exact .fn _ _ _ _ _ hl hl' ih ih'
 | raw v h1=>exact .raw v h1
 | cnd g p v h hu ih=>exact .cnd g _ v ih hu
 | junk v=>exact .junk v
theorem Rep.mono {p:PV} {v:Value} (h:Rep X γ w p v) (hγ:∀r ge,γ r=some ge→γ' r=some ge)
  (hown:∀b,γ'.own b→γ.own b∨w.heap.size≤b) (hsz:w.heap.size≤w'.heap.size)
  (hw:∀b,¬γ.own b→b<w.heap.size→w'.heap[b]? =w.heap[b]?):Rep X γ' w' p v:=
 h.monoG (fun r ge hr=>⟨ge,hγ r ge hr,rfl,rfl,fun _=>rfl⟩) hown hsz hw
end
mutual
theorem norm_some:∀(p:PV),p.norm=some p
 | .agg cs=>by simp [PV.norm,norm_someL cs]
 | .tup cs=>by simp [PV.norm,norm_someL cs]
 | .rp τ cs=>by simp [PV.norm,norm_someL cs]
 | .fn f a b=>by simp [PV.norm,norm_someL a,norm_someL b]
 | .cnd g p=>by simp [PV.norm,norm_some p]
 | .int k n=>rfl
 | .bool b=>rfl
 | .str s=>rfl
 | .sl o z n f=>rfl
 | .nil z=>rfl
 | .os r=>rfl
 | .vw h r lo n=>rfl
 | .rf m r=>rfl
 | .mpv ks vks ka va h f=>rfl
 | .pt r i j=>rfl
 | .raw v=>rfl
 | .junk=>rfl
theorem norm_someL:∀(l:List PV),PV.normL l=some l
 | []=>rfl
 | p::ps=>by simp [PV.normL,norm_some p,norm_someL ps]
end
theorem snorm_some (e:SE):e.norm=some e:=by cases e<;>simp [SE.norm,norm_someL]
theorem snorm_someL:∀(l:List SE),SE.normL l=some l
 | []=>rfl
 | p::ps=>by simp [SE.normL,snorm_some p,snorm_someL ps]
mutual
theorem void_nil:∀(p:PV),p.void []=p
 | .agg cs=>by simp [PV.void,void_nilL cs]
 | .tup cs=>by simp [PV.void,void_nilL cs]
 | .rp τ cs=>rfl
 | .fn f a b=>by simp [PV.void,void_nilL a,void_nilL b]
 | .cnd g p=>by simp [PV.void,void_nil p]
 | .int k n=>rfl
 | .bool b=>rfl
 | .str s=>rfl
 | .sl o z n f=>rfl
 | .nil z=>rfl
 | .os r=>by simp [PV.void]
 | .vw h r lo n=>by simp [PV.void]
 | .rf m r=>by simp [PV.void]
 | .mpv ks vks ka va h f=>rfl
 | .pt r i j=>by simp [PV.void]
 | .raw v=>rfl
 | .junk=>rfl
theorem void_nilL:∀(l:List PV),PV.voidL [] l=l
 | []=>rfl
 | p::ps=>by simp [PV.voidL,void_nil p,void_nilL ps]
end
section
variable {X:Cx} {γ γ':Gh} {w w':World}
theorem Rep.int_inv {k:IntKind} {n:Int} {v:Value} (h:Rep X γ w (.int k n) v):v= .int k n:=by cases h;rfl
theorem Rep.bool_inv {b:Bool} {v:Value} (h:Rep X γ w (.bool b) v):v= .bool b:=by cases h;rfl
theorem Rep.str_inv {s:List UInt8} {v:Value} (h:Rep X γ w (.str s) v):v= .string ⟨s.toArray⟩:=by cases h;rfl
theorem Rep.nil_inv {z:Nat} {v:Value} (h:Rep X γ w (.nil z) v):v= .slice none 0 0:=by cases h;rfl
theorem Rep.agg_inv {cs:List PV} {v:Value} (h:Rep X γ w (.agg cs) v):∃vs:List Value,v= .agg vs.toArray∧RepL X γ w cs vs∧∀u∈vs,u.oneCell'=true:=by
 cases h with | agg _ vs hl hc h=>exact ⟨vs,rfl,⟨hl,h⟩,hc⟩
theorem Rep.tup_inv {cs:List PV} {v:Value} (h:Rep X γ w (.tup cs) v):∃vs:List Value,v= .tuple vs.toArray∧RepL X γ w cs vs:=by
 cases h with | tup _ vs hl h=>exact ⟨vs,rfl,⟨hl,h⟩⟩
theorem Rep.cnd_inv {g:Bool} {p:PV} {v:Value} (h:Rep X γ w (.cnd g p) v) (hg:g=true):Rep X γ w p v:=by
 cases h with | cnd _ _ _ h _=>exact h hg
theorem RepL.nil_:RepL X γ w [] []:=⟨rfl,fun k c u h=>by simp at h⟩
theorem RepL.cons_ {c:PV} {u:Value} {cs:List PV} {us:List Value} (h:Rep X γ w c u) (hs:RepL X γ w cs us):RepL X γ w (c::cs) (u::us):=
 ⟨by simp [hs.1],fun k c' u' hc hu=>by
  cases k with
  | zero=>simp at hc hu;subst hc;subst hu;exact h
  | succ k=>exact hs.2 k c' u' (by simpa using hc) (by simpa using hu)⟩
theorem RepL.cons_inv {c:PV} {cs:List PV} {us:List Value} (h:RepL X γ w (c::cs) us):∃u us',us=u::us'∧Rep X γ w c u∧RepL X γ w cs us':=by
 obtain ⟨hl,h⟩:=h
 cases us with
 | nil=>simp at hl
 | cons u us'=>exact ⟨u,us',rfl,h 0 c u rfl rfl,by simpa using hl,fun k c' u' hc hu=>h (k+1) c' u' (by simpa using hc) (by simpa using hu)⟩
theorem RepL.nil_inv {us:List Value} (h:RepL X γ w [] us):us= []:=List.eq_nil_of_length_eq_zero h.1
theorem RepL.at {cs:List PV} {us:List Value} (h:RepL X γ w cs us) {k:Nat} {c:PV} (hc:cs[k]? =some c):∃u,us[k]? =some u∧Rep X γ w c u:=by
 have hk:k<us.length:=by rw [h.1];exact (List.getElem?_eq_some_iff.1 hc).1
 exact ⟨us[k],List.getElem?_eq_getElem hk,h.2 k c _ hc (List.getElem?_eq_getElem hk)⟩
theorem RepL.drop {cs:List PV} {us:List Value} (h:RepL X γ w cs us) (n:Nat):RepL X γ w (cs.drop n) (us.drop n):=
 ⟨by simp [h.1],fun k c u hc hu=>h.2 (n+k) c u (by simpa using hc) (by simpa using hu)⟩
theorem RepL.take {cs:List PV} {us:List Value} (h:RepL X γ w cs us) (n:Nat):RepL X γ w (cs.take n) (us.take n):=
 ⟨by simp [h.1],fun k c u hc hu=>by
  rw [List.getElem?_take] at hc hu
  split at hc
  ·rename_i hk;simp only [hk,if_true] at hu;exact h.2 k c u hc hu
  ·cases hc⟩
theorem RepL.append {cs ds:List PV} {us vs:List Value} (h:RepL X γ w cs us) (h':RepL X γ w ds vs):RepL X γ w (cs++ds) (us++vs):=
 ⟨by simp [h.1,h'.1],fun k c u hc hu=>by
  rw [List.getElem?_append] at hc hu
  rw [h.1] at hu
  split at hc
  ·rename_i hk;simp only [hk,if_true] at hu;exact h.2 k c u hc hu
  ·rename_i hk;simp only [hk,if_false] at hu;exact h'.2 _ c u hc hu⟩
theorem mpB_not {cells:List PV} (h:mpB cells=false) {ks vks:List KK} {ka va:Bool} {hh:List PC→Bool} {f:List PC→List PC}:cells≠ [.mpv ks vks ka va hh f]:=fun e=>by subst e;cases h
theorem RepS.plain {ge:GE} {cells:List PV} (h:RepS X γ w ge (.box cells)) (hm:mpB cells=false):
  ∃b T vs,(ge.blk=some b∧ge.hdr.ownBlock=none)∧w.heap[b]? =some (.cells vs T (0,0))∧(∀u∈vs.toList,u.oneCell'=true)∧RepL X γ w cells vs.toList:=by
 obtain ⟨b,h1,⟨T,vs,h2⟩ | ⟨ks,vks,ka,va,hh,f,es,clock,h2,_⟩⟩:=h
 ·exact ⟨b,T,vs,h1,h2⟩
 ·exact absurd h2 (mpB_not hm)
theorem BoxAt.map_ {X':Cx} {b:Nat} {cells cells':List PV} (h:BoxAt X γ w b cells) (hb:w'.heap[b]? =w.heap[b]?) (hr:∀us,RepL X γ w cells us→RepL X' γ' w' cells' us)
  (hm:∀ks vks ka va hh f,cells= [.mpv ks vks ka va hh f]→cells'= [.mpv ks vks ka va hh f]):BoxAt X' γ' w' b cells':=by
 rcases h with ⟨T,vs,h2,h3,h4⟩ | ⟨ks,vks,ka,va,hh,f,es,clock,h2,h3,h4⟩
 ·exact .inl ⟨T,vs,by rw [hb];exact h2,h3,hr _ h4⟩
 ·exact .inr ⟨ks,vks,ka,va,hh,f,es,clock,hm _ _ _ _ _ _ h2,by rw [hb];exact h3,h4⟩
theorem Rep.one_ {p:PV} {v:Value} (h:Rep X γ w p v) (hp:p.one=true):v.oneCell'=true:=by
 cases h<;>first | rfl | assumption | simp [PV.one] at hp
theorem cells_one {v:Value} (h:v.oneCell'=true):v.cells= #[v]:=by cases v<;>first | rfl | simp [Value.oneCell'] at h
theorem PV.cells_one {p:PV} (h:p.one=true):p.cells= [p]:=by cases p<;>first | rfl | simp [PV.one] at h
theorem Rep.cells_ {p:PV} {v:Value} (h:Rep X γ w p v) (hp:p.okCell=true):RepL X γ w p.cells v.cells.toList∧∀u∈v.cells.toList,u.oneCell'=true:=by
 by_cases ho:p.one=true
 ·have h1:=h.one_ ho
  rw [cells_one h1,PV.cells_one ho]
  exact ⟨RepL.cons_ h RepL.nil_,by simpa using h1⟩
 ·cases h with
  | agg cs vs hl hc h=>exact ⟨⟨by simpa [Value.cells,PV.cells] using hl,by simpa [Value.cells,PV.cells] using h⟩,by simpa [Value.cells] using hc⟩
  | _=>simp [PV.one,PV.okCell] at ho hp
theorem mark_mark (p:PV) (τ τ':Nat):(p.mark τ).mark τ'=p.mark τ':=by
 cases p with
 | fn f a b=>simp only [PV.mark,rpMarks_marks]
 | _=>rfl
theorem tau_mark (p:PV) (τ:Nat):(p.mark τ).tau≤τ:=by
 cases p with
 | fn f a b=>exact rpTau_marks τ b
 | _=>simp [PV.mark,PV.tau]
theorem Rep.mark_up {p:PV} {v:Value} (h:Rep X γ w p v):∀τ',p.tau≤τ'→Rep X γ w (p.mark τ') v:=by
 induction h with
 | sl τ z n f ad cap vs hcap hz hf hb h ih=>
   intro τ' ht
   simp only [PV.tau] at ht
   refine .sl τ' z n f ad cap vs hcap hz hf (fun hn=> ?_) (fun i j c hi hc=> ?_)
   ·obtain ⟨a,rfl,hm,hlt,hc⟩:=hb hn
    exact ⟨a,rfl,hm.mono ht,hlt,fun k hk=>cellT_up ht (hc k hk)⟩
   ·have:=ih i j c hi hc τ' (Nat.le_trans (tau_mark c τ) ht)
    rwa [mark_mark] at this
 | rp τ cs a vs hf hb hc h ih=>
   intro τ' ht
   simp only [PV.tau] at ht
   refine .rp τ' cs a vs hf (fun hn=> ?_) (fun k hk=>cellT_up ht (hc k hk)) (fun k c hk=> ?_)
   ·obtain ⟨hm,hlt⟩:=hb hn
    exact ⟨hm.mono ht,hlt⟩
   ·have:=ih k c hk τ' (Nat.le_trans (tau_mark c τ) ht)
    rwa [mark_mark] at this
 | int k n=>intro _ _;exact .int k n
 | bool b=>intro _ _;exact .bool b
 | str s=>intro _ _;exact .str s
 | agg cs vs hl hc h _=>intro _ _;exact .agg cs vs hl hc h
 | tup cs vs hl h _=>intro _ _;exact .tup cs vs hl h
 | nil z=>intro _ _;exact .nil z
 | os r ge hg h1 h2=>intro _ _;exact .os r ge hg h1 h2
 | vw h r lo n ge ad m cap hg hh hle h0 h2=>intro _ _;exact .vw h r lo n ge ad m cap hg hh hle h0 h2
 | rf r ge b hg hb=>intro _ _;exact .rf r ge b hg hb
 | rfs z n r ge b hg hb=>intro _ _;exact .rfs z n r ge b hg hb
 | pt r i j ge b hg hb=>intro _ _;exact .pt r i j ge b hg hb
 | fn f first caps vs us hl hl' h h' _ ih'=>
   intro τ' ht
   refine .fn f first _ vs us hl (by rw [rpMarks_len];exact hl') h fun k c u hk hu=> ?_
   rw [rpMarks_get] at hk
   obtain ⟨c0,h0,rfl⟩:=Option.map_eq_some_iff.1 hk
   cases c0 with
   | rp τ0 cs0=>exact ih' k _ u h0 hu τ' (Nat.le_trans (rpTau_le h0) ht)
   | _=>exact h' k _ u h0 hu
 | raw v h1=>intro _ _;exact .raw v h1
 | cnd g p v h hu _=>intro _ _;exact .cnd g p v h hu
 | junk v=>intro _ _;exact .junk v
theorem Rep.mark_two {p:PV} {v:Value} (h:Rep X γ w p v):∀τ',2≤τ'→Rep X γ w (p.mark τ') v:=by
 induction h with
 | sl τ z n f ad cap vs hcap hz hf hb h ih=>
   intro τ' ht
   refine .sl τ' z n f ad cap vs hcap hz hf (fun hn=> ?_) (fun i j c hi hc=> ?_)
   ·obtain ⟨a,rfl,hm,hlt,hc⟩:=hb hn
    exact ⟨a,rfl,hm.two ht,hlt,fun k hk=>cellT_pos (by omega) (cellT_cell (hc k hk))⟩
   ·have:=ih i j c hi hc τ' ht
    rwa [mark_mark] at this
 | rp τ cs a vs hf hb hc h ih=>
   intro τ' ht
   refine .rp τ' cs a vs hf (fun hn=> ?_) (fun k hk=>cellT_pos (by omega) (cellT_cell (hc k hk))) (fun k c hk=> ?_)
   ·obtain ⟨hm,hlt⟩:=hb hn
    exact ⟨hm.two ht,hlt⟩
   ·have:=ih k c hk τ' ht
    rwa [mark_mark] at this
 | int k n=>intro _ _;exact .int k n
 | bool b=>intro _ _;exact .bool b
 | str s=>intro _ _;exact .str s
 | agg cs vs hl hc h _=>intro _ _;exact .agg cs vs hl hc h
 | tup cs vs hl h _=>intro _ _;exact .tup cs vs hl h
 | nil z=>intro _ _;exact .nil z
 | os r ge hg h1 h2=>intro _ _;exact .os r ge hg h1 h2
 | vw h r lo n ge ad m cap hg hh hle h0 h2=>intro _ _;exact .vw h r lo n ge ad m cap hg hh hle h0 h2
 | rf r ge b hg hb=>intro _ _;exact .rf r ge b hg hb
 | rfs z n r ge b hg hb=>intro _ _;exact .rfs z n r ge b hg hb
 | pt r i j ge b hg hb=>intro _ _;exact .pt r i j ge b hg hb
 | fn f first caps vs us hl hl' h h' _ ih'=>
   intro τ' ht
   refine .fn f first _ vs us hl (by rw [rpMarks_len];exact hl') h fun k c u hk hu=> ?_
   rw [rpMarks_get] at hk
   obtain ⟨c0,h0,rfl⟩:=Option.map_eq_some_iff.1 hk
   cases c0 with
   | rp τ0 cs0=>exact ih' k _ u h0 hu τ' ht
   | _=>exact h' k _ u h0 hu
 | raw v h1=>intro _ _;exact .raw v h1
 | cnd g p v h hu _=>intro _ _;exact .cnd g p v h hu
 | junk v=>intro _ _;exact .junk v
theorem asV_rep {n:Nat} {agg:Bool} {cs:List PV} {us:List Value} {p:PV} (h:RepL X γ w cs us) (h1:∀u∈us,u.oneCell'=true) (hp:asV n agg cs=some p):
  us.length=n∧Rep X γ w p (if agg then .agg us.toArray else us.getD 0 undef):=by
 unfold asV at hp
 split at hp
 ·rename_i hn
  refine ⟨by rw [h.1];exact hn, ?_⟩
  cases agg with
  | true=>
    simp only [if_true,Option.some.injEq] at hp⊢
    subst hp
    exact .agg _ _ h.1 h1 h.2
  | false=>
    simp only [Bool.false_eq_true,if_false] at hp⊢
    split at hp
    ·rename_i c
     injection hp with hp;subst hp
     obtain ⟨u,us',rfl,hu,_⟩:=h.cons_inv
     exact hu
    ·cases hp
 ·cases hp
end
def isAggB (P:Program) (t:TypeId):Bool:=match P.underlying t with
 | some (.struct _)=>true
 | some (.array _ _)=>true
 | _=>false
def isAggO (P:Program) (t:TypeId):Option Bool:=match P.underlying t with
 | some (.struct _)=>some true
 | some (.array _ _)=>some true
 | some _=>some false
 | none=>none
def constPV:Value→Option PV
 | .int k n=>some (.int k n)
 | .bool b=>some (.bool b)
 | .string s=>some (.str s.data.toList)
 | .slice none 0 0=>some (.nil 0)
 | .pointer none=>some (.raw (.pointer none))
 | .nilFunc=>some (.raw .nilFunc)
 | .map none=>some (.raw (.map none))
 | _=>none
def mapO {α β:Type} (f:α→Option β):List α→Option (List β)
 | []=>some []
 | a::r=>match f a,mapO f r with
   | some b,some bs=>some (b::bs)
   | _,_=>none
def arg:Operand→Option A
 | .tmp t=>some (.t t)
 | .const v=>(constPV v).map A.c
 | .func f=>some (.c (.fn (.func f) [] []))
 | .global g=>match globV g with
   | some vs=>match mapO constPV vs with
     | some cs=>if cs.all PV.flat then some (.c (.rp 1 cs)) else none
     | none=>none
   | none=>none
def elemSize (P:Program) (t:TypeId):Nat:=match P.underlying t with
 | some (.slice e)=>P.cellsOf e
 | _=>0
def argT (P:Program) (t:TypeId):Operand→Option A
 | .const (.slice none 0 0)=>some (.c (.nil (elemSize P t)))
 | x=>arg x
def zeroCells (P:Program):Nat→TypeId→Option (List PV)
 | 0,_=>none
 | n+1,t=>match P.underlying t with
   | some .bool=>some [.bool false]
   | some (.int k)=>some [.int k 0]
   | some .string=>some [.str []]
   | some (.slice e)=>some [.nil (P.cellsOf e)]
   | some (.pointer _)=>some [.raw (.pointer none)]
   | some (.func _ _ _)=>some [.raw .nilFunc]
   | some (.map _ _)=>some [.raw (.map none)]
   | some (.struct fs)=>(mapO (fun f=>zeroCells P n f.type) fs.toList).map List.flatten
   | some (.array k e)=>(zeroCells P n e).map fun c=>(List.replicate k c).flatten
   | _=>none
def sameCells:List PV→List Value→Bool
 | [], []=>true
 | .bool false::ps, .bool false::vs=>sameCells ps vs
 | .int k 0::ps, .int k' 0::vs=>k==k'&&sameCells ps vs
 | .str []::ps, .string s::vs=>s.data.toList.isEmpty&&sameCells ps vs
 | .nil _::ps, .slice none 0 0::vs=>sameCells ps vs
 | .raw (.pointer none)::ps, .pointer none::vs=>sameCells ps vs
 | .raw .nilFunc::ps, .nilFunc::vs=>sameCells ps vs
 | .raw (.map none)::ps, .map none::vs=>sameCells ps vs
 | _,_=>false
def zeroFits (P:Program) (t:TypeId):Bool:=match P.info? t with
 | some i=>match i.zero with
   | some z=>z.cells.size==P.cellsOf t
   | none=>false
 | none=>false
def zeroOf (P:Program) (t:TypeId):Option (List PV):=match zeroCells P 50 t,(P.info? t).map (·.zero) with
 | some cs,some (some z)=>if sameCells cs z.cells.toList&&(z.cells.size==P.cellsOf t) then some cs else none
 | _,_=>none
def bldOf (P:Program) (t:TypeId):Option TypeId:=match P.underlying t with
 | some (.struct fs)=>match fs.toList with
   | [f0,f1]=>match P.underlying f0.type,P.underlying f1.type with
     | some (.pointer q),some (.slice e)=>match P.underlying e,zeroOf P t with
       | some (.int .u8),some [.raw (.pointer none), .nil 1]=>if q==t then some e else none
       | _,_=>none
     | _,_=>none
   | _=>none
 | _=>none
def parts (P:Program) (places:List (Nat×Nat×TypeId)):List (Nat×Operand)→Option (List (Nat×Nat×A))
 | []=>some []
 | (i,x)::r=>match places[i]?,parts P places r with
   | some (off,n,t),some r'=>(argT P t x).map fun a=>(off,n,a)::r'
   | _,_=>none
def inOrder:Nat→List (Nat×Operand)→Bool
 | _, []=>true
 | k,(i,_)::r=>i==k&&inOrder (k+1) r
def eqKind (P:Program) (t:TypeId):Option Nat:=match P.underlying t with
 | some (.int _)=>some 0
 | some .bool=>some 1
 | some .string=>some 2
 | _=>none
def eqKinds (P:Program):Nat→List Field→Option (List Nat)
 | _, []=>some []
 | i,f::fs=>if f.name != "_"&&f.offset==i then match eqKind P f.type,eqKinds P (i+1) fs with
   | some k,some ks=>some (k::ks)
   | _,_=>none
   else none
def eqKinds2 (P:Program):Nat→List Field→Option (List Nat)
 | _, []=>some []
 | i,f::fs=>if f.name != "_"&&f.offset==i then match eqKind P f.type with
   | some k=>(eqKinds2 P (i+1) fs).map (k:: ·)
   | none=>match P.underlying f.type with
     | some (.struct gs)=>match eqKinds P 0 gs.toList,eqKinds2 P (i+P.cellsOf f.type) fs with
       | some a,some b=>if !(P.stoodInHeld f.type)&&(P.cellsOf f.type==a.length)&&(P.info? f.type).isSome then some (a++b) else none
       | _,_=>none
     | _=>none
   else none
def kkOf (P:Program) (t:TypeId):Option KK:=match P.underlying t with
 | some (.int k)=>some (.i k)
 | some .bool=>some .b
 | some .string=>some .s
 | _=>none
def kksOf (P:Program):Nat→List Field→Option (List KK)
 | _, []=>some []
 | i,f::fs=>if f.name != "_"&&f.offset==i then match kkOf P f.type,kksOf P (i+1) fs with
   | some k,some ks=>some (k::ks)
   | _,_=>none
   else none
def plainT (P:Program) (t:TypeId):Option (List KK×Bool):=match kkOf P t with
 | some k=>some ([k],false)
 | none=>match P.underlying t with
   | some (.struct fs)=>match kksOf P 0 fs.toList with
     | some ks=>some (ks,true)
     | none=>none
   | some (.array n e)=>match kkOf P e with
     | some k=>if n==2&&(P.cellsOf e==1&&(P.info? e).isSome) then some ([k,k],true) else none
     | none=>none
   | _=>none
def kksF (P:Program):List Field→Option (List KK)
 | []=>some []
 | f::fs=>match kkOf P f.type,kksF P fs with
   | some k,some ks=>some (k::ks)
   | none,some ks=>match P.underlying f.type with
     | some (.array n e)=>match kkOf P e with
       | some k=>some (List.replicate n k++ks)
       | none=>none
     | _=>none
   | _,none=>none
def plainE (P:Program) (t:TypeId):Option (List KK×Bool):=match plainT P t with
 | some x=>some x
 | none=>match P.underlying t with
   | some (.struct fs)=>(kksF P fs.toList).map fun ks=>(ks,true)
   | _=>none
def keyTOk (P:Program) (t:TypeId):Bool:=match P.underlying t with
 | some (.struct _)=> !(P.eqGuardType P.depth t)&& !(P.stoodInHeld t)
 | _=>true
def zeroCB:List KK→List Value→Bool
 | [], []=>true
 | .i k::ks, .int k' n::vs=>decide (k=k')&&(n==0&&zeroCB ks vs)
 | .b::ks, .bool b::vs=> !b&&zeroCB ks vs
 | .s::ks, .string s::vs=>s.data.toList.isEmpty&&zeroCB ks vs
 | _,_=>false
def zeroIs (ks:List KK):Bool→Value→Bool
 | true, .agg cs=>zeroCB ks cs.toList
 | true,_=>false
 | false,v=>zeroCB ks [v]
def mapT (P:Program) (t:TypeId):Option ((List KK×Bool)×(List KK×Bool)):=match P.underlying t with
 | some (.map k e)=>match plainT P k,plainE P e,(P.info? e).map (·.zero) with
   | some a,some b,some (some z)=>if keyTOk P k&&zeroIs b.1 b.2 z then some (a,b) else none
   | _,_,_=>none
 | _=>none
def compI (P:Program) (w:Bool) (o:Oper):Option I:=
 match o.op with
 | .move x=>(argT P o.type x).map I.mv
 | .assign x=>(argT P o.type x).map I.mv
 | .pick c a b=>match arg c,arg a,arg b with
   | some c,some a,some b=>some (.pick c a b)
   | _,_,_=>none
 | .alloc t=>match bldOf P t with
   | some e=>some (.alb t e)
   | none=>(zeroOf P t).map I.al
 | .box t x=>if 0<P.cellsOf t then (arg x).map fun x=> .bx (P.cellsOf t) x else none
 | .build t ps=>match P.underlying t with
   | some (.struct fs)=>match zeroOf P t,parts P (fs.toList.map fun f=>(f.offset,P.cellsOf f.type,f.type)) ps.toList with
     | some z,some ps=>if fs.toList.all (fun f=>(P.info? f.type).isSome) then some (.bd z ps) else none
     | _,_=>none
   | some (.array n e)=>match zeroOf P t,parts P ((List.range n).map fun i=>(i*P.cellsOf e,P.cellsOf e,e)) ps.toList with
     | some z,some ps=>if (P.info? e).isSome then some (.bd z ps) else none
     | _,_=>none
   | _=>none
 | .buildSlice t n ps=>match P.underlying t with
   | some (.slice e)=>match P.underlying e with
    | some (.pointer _)=>if inOrder 0 ps.toList&&(ps.size==n)&&decide (n*P.cellsOf e≤16777216)&&(P.cellsOf e==1)&&zeroFits P e&&decide (0<n) then (mapO (fun (_,x)=>argT P e x) ps.toList).map fun xs=> .bsx 1 xs else none
    | _=>if inOrder 0 ps.toList&&(ps.size==n)&&decide (n*P.cellsOf e≤16777216)&&decide (0<P.cellsOf e)&&zeroFits P e then (mapO (fun (_,x)=>argT P e x) ps.toList).map fun xs=> .bs e (P.cellsOf e) xs else none
   | _=>none
 | .load t x=>match isAggO P t,arg x with
   | some g,some x=>some (.ld (P.cellsOf t) g x)
   | _,_=>none
 | .store t x v=>match arg x,argT P t v with
   | some x,some v=>if 0<P.cellsOf t then some (.st (P.cellsOf t) x v) else none
   | _,_=>none
 | .nilCheck x=>(arg x).map I.nc
 | .binOp op t x y _=>match arg x,arg y with
   | some x,some y=>if isAggB P t then
     (match P.underlying t with
     | some (.struct fs)=>match eqKinds2 P 0 fs.toList with
       | some ks=>if !(P.eqGuardType P.depth t)&& !(P.stoodInHeld t) then match op with
         | .eql=>some (.eqa false ks x y)
         | .neq=>some (.eqa true ks x y)
         | _=>none
         else none
       | none=>none
     | some (.array n e)=>match eqKind P e with
       | some k=>if !(P.eqGuardType P.depth t)&&(P.cellsOf e==1)&&(P.info? e).isSome then match op with
         | .eql=>some (.eqa false (List.replicate n k) x y)
         | .neq=>some (.eqa true (List.replicate n k) x y)
         | _=>none
         else none
       | none=>none
     | _=>none)
     else match P.underlying t with
      | some .bool=>match op with
        | .eql=>some (.bib false x y)
        | .neq=>some (.bib true x y)
        | _=>none
      | some (.int _)=>some (.bi w op x y)
      | some .string=>some (.bi w op x y)
      | some (.slice _)=>match op,y with
        | .eql, .c (.nil 0)=>some (.isn false x)
        | .neq, .c (.nil 0)=>some (.isn true x)
        | _,_=>none
      | _=>none
   | _,_=>none
 | .unOp op _ x=>(arg x).map fun x=> .un w op x
 | .convert s d x=>match P.underlying s,P.underlying d with
   | some (.int k1),some (.int k)=>(arg x).map fun x=> .cv (w || (!k.signed&&decide (k.bits<k1.bits))) k x
   | some .string,some (.slice e)=>match P.underlying e with
     | some (.int .u8)=>(arg x).map fun x=> .cvb e x
     | _=>none
   | some (.slice e),some .string=>match P.underlying e with
     | some (.int .u8)=>(argT P s x).map fun x=> .cvs x
     | _=>none
   | _,_=>none
 | .fieldAddr s x f=>match P.underlying s with
   | some (.struct fs)=>match fs[f]? with
     | some f=>if 0<P.cellsOf f.type then (arg x).map fun x=> .fa f.offset x else none
     | none=>none
   | _=>none
 | .field s x f=>match P.underlying s with
   | some (.struct fs)=>match fs[f]? with
     | some f=>match isAggO P f.type,arg x with
       | some g,some x=>some (.fd f.offset (P.cellsOf f.type) g x)
       | _,_=>none
     | none=>none
   | _=>none
 | .indexAddr t x i=>match P.underlying t,arg x,arg i with
   | some (.slice e),some x,some i=>if 0<P.cellsOf e then some (.ia (P.cellsOf e) x i) else none
   | some (.array n e),some x,some i=>if 1<n&&decide (0<P.cellsOf e) then some (.iaa n (P.cellsOf e) x i) else none
   | _,_,_=>none
 | .index t x i=>match P.underlying t,arg x,arg i with
   | some (.array n e),some x,some i=>match isAggO P e with
     | some g=>some (.ixa n (P.cellsOf e) g x i)
     | none=>none
   | some .string,some x,some i=>some (.ixs x i)
   | _,_,_=>none
 | .slice t x lo hi none=>match P.underlying t,arg x with
   | some (.slice e),some x=>if 0<P.cellsOf e then match lo,hi with
     | none,none=>some (.slc (P.cellsOf e) x none none)
     | some l,none=>(arg l).map fun l=> .slc (P.cellsOf e) x (some l) none
     | none,some h=>(arg h).map fun h=> .slc (P.cellsOf e) x none (some h)
     | some l,some h=>match arg l,arg h with
       | some l,some h=>some (.slc (P.cellsOf e) x (some l) (some h))
       | _,_=>none
     else none
   | some .string,some x=>match lo,hi with
     | none,none=>some (.slcs x none none)
     | some l,none=>(arg l).map fun l=> .slcs x (some l) none
     | none,some h=>(arg h).map fun h=> .slcs x none (some h)
     | some l,some h=>match arg l,arg h with
       | some l,some h=>some (.slcs x (some l) (some h))
       | _,_=>none
   | _,_=>none
 | .makeSlice t n c=>match P.underlying t,arg n,arg c with
   | some (.slice e),some n,some c=>match zeroOf P e with
     | some z=>if 0<P.cellsOf e then some (.mks e (P.cellsOf e) (P.bytesOf e) (z.map PV.unnil) n c) else none
     | none=>none
   | _,_,_=>none
 | .extract x i=>(arg x).map fun x=> .ex x i
 | .makeFunc f first caps=>match mapO arg first.toList,mapO arg caps.toList with
   | some a,some b=>some (.mf f a b)
   | _,_=>none
 | .makeMap t none=>match mapT P t with
   | some ((ks,ka),(vks,va))=>some (.mkm ks vks ka va)
   | none=>none
 | .lookup t x i ok=>match mapT P t,arg x,arg i with
   | some ((ks,ka),(vks,va)),some x,some i=>some (.mpg ks vks ka va ok x i)
   | _,_,_=>none
 | .mapUpdate t m k v=>match mapT P t,arg m,arg k,arg v with
   | some ((ks,ka),(vks,va)),some m,some k,some v=>some (.mpu ks vks ka va m k v)
   | _,_,_,_=>none
 | .call c=>match c.callee with
   | .builtin .len=>match c.args.toList,c.argTypes.toList with
     | [x], [t]=>match P.underlying t with
       | some (.slice _)=>(arg x).map I.len
       | some .string=>(arg x).map I.lens
       | _=>none
     | _,_=>none
   | .builtin .max=>match mapO arg c.args.toList with
     | some (x::xs)=>some (.mx (x::xs))
     | _=>none
   | .builtin .min=>match mapO arg c.args.toList with
     | some (x::xs)=>some (.mn (x::xs))
     | _=>none
   | .builtin .append=>match c.args.toList,c.argTypes.toList with
     | [x,y], [t,u]=>if t==u then match P.underlying t,argT P t x,argT P t y with
       | some (.slice e),some x,some y=>if 0<P.cellsOf e&&zeroFits P e then some (.app e (P.cellsOf e) (P.bytesOf e) x y) else none
       | _,_,_=>none
       else none
     | _,_=>none
   | .builtin .clear=>match c.args.toList,c.argTypes.toList with
     | [x], [t]=>match P.underlying t,arg x with
       | some (.slice e),some x=>match zeroOf P e with
         | some z=>if 0<P.cellsOf e then some (.clr (z.map PV.unnil) x) else none
         | none=>none
       | _,_=>none
     | _,_=>none
   | .builtin .copy=>match c.args.toList,c.argTypes.toList with
     | [x,y], [t,u]=>if t==u then match P.underlying t,arg x,argT P t y with
       | some (.slice e),some x,some y=>if 0<P.cellsOf e then some (.cpy (P.cellsOf e) x y) else none
       | _,_,_=>none
       else none
     | _,_=>none
   | .builtin _=>none
   | .value f=>match arg f,mapO (fun (x,t)=>argT P t x) (c.args.toList.zip c.argTypes.toList) with
     | some f,some xs=>if c.args.size==c.argTypes.size then some (.call f xs) else none
     | _,_=>none
   | .invoke _ _=>none
 | _=>none
def guardS (ops:Array Oper):Option (Nat×Bool)→Option (Option (Nat×Bool))
 | none=>some none
 | some (j,want)=>match (ops[j]?).bind (·.dst) with
   | some d=>some (some (d,want))
   | none=>none
def compO (P:Program) (w:Bool) (ops:Array Oper) (o:Oper):Option Ins:=
 match guardS ops o.guard,compI P w o with
 | some g,some i=>some ⟨o.dst,16*o.dst.getD 0,g,i⟩
 | _,_=>none
def A.slots:A→List Nat
 | .t n=> [n]
 | .c _=> []
def Ins.reads (o:Ins):List Nat:=o.i.opr.flatMap A.slots++(match o.g with | some (t,_)=> [t] | none=> [])
def bit (b:Array Nat) (i j:Nat):Bool:=(b.getD j 0).testBit i
def slotsApart (x y:Ins):Bool:=
 (match x.d with | some d=> !(y.reads.contains d)&&y.d != some d | none=>true)&&
 (match y.d with | some d=> !(x.reads.contains d) | none=>true)
def pairs (b:Array Nat) (ins:List Ins):Option (List (Nat×Nat×Nat)):=
 mapO (fun (p:(Ins×Nat)×(Ins×Nat))=>if slotsApart p.1.1 p.2.1 then some (p.1.2,p.2.2,p.1.1.d.getD 0) else none)
  ((ins.zipIdx.flatMap fun x=>ins.zipIdx.map fun y=>(x,y)).filter fun (x,y)=>decide (x.2<y.2)&& !bit b x.2 y.2)
def edgesOk (ops:List Oper):Bool:=ops.zipIdx.all fun (o,i)=>o.after.all fun e=> !(Region.binds .any e) || decide (e.on<i)
def comp (P:Program) (w:Bool):Code→Option C
 | .skip=>some .skip
 | .region id ops false=>match mapO (compO P w ops) ops.toList with
   | some ins=>some (.reg ins)
   | none=>some (.raw (.region id ops false))
 | .region _ ops true=>match mapO (compO P w ops) ops.toList with
   | some ins=>match pairs (Region.before ops) ins with
     | some ps=>if edgesOk ops.toList then some (.drw ins ps) else some .bad
     | none=>some .bad
   | none=>some .bad
 | .seq a b=>match comp P w a,comp P w b with
   | some a,some b=>some (.seq a b)
   | _,_=>none
 | .cond c x y=>match arg c,comp P w x,comp P w y with
   | some c,some x,some y=>some (.cond c x y)
   | _,_,_=>none
 | .block id b=>match Nat.ble 1000000 id with
   | true=>some .bad
   | false=>(comp P w b).map (C.block id)
 | .loop b=>(comp P w b).map C.loop
 | .exit id=>match Nat.ble 1000000 id with
   | true=>some .bad
   | false=>some (.exit id)
 | .label l=>some (.lab l)
 | .goto l=>some (.gto l)
 | .scope b=>(comp P w b).map C.scope
 | .ret=>some .ret
 | _=>some .bad
end Pv
end Go.Proofs.YtdcgnfkkklbckaaGreatDoor
