/- WHAT PURE VALUES AND STATES SAY OF REAL ONES. -/
import Derived.Test.YtogoplhikmmggaaPv1
set_option linter.unusedSimpArgs false
set_option linter.unusedVariables false
namespace Go.Proofs.Ytogoplhikmmggaa
namespace Pv
open Go.RowKit

/-- What a store entry's name stands for: a block (none: a nil slice), and the slice's header. -/
structure GE where
  blk : Option Nat
  hdr : Value
  z : Nat

abbrev Gh := Nat → Option GE

/-- What is the same throughout a call. 'lo': the heap's size as it began; 'as': blocks that nobody writes any more; 'ls': blocks that were lent. 'np', 'g0': the boxes that were handed in, and where they lie. -/
structure Cx where
  lo : Nat
  as : Nat → Prop
  ls : Nat → Prop
  np : Nat
  g0 : Nat → Option GE

def Gh.own (γ : Gh) (b : Nat) : Prop := ∃ r ge, γ r = some ge ∧ ge.blk = some b

/-- May block b hold what is marked τ? -/
def mayLie (X : Cx) (γ : Gh) (τ b : Nat) : Prop :=
  ¬ γ.own b ∧ (X.lo ≤ b ∨ (1 ≤ τ ∧ X.as b) ∨ (2 ≤ τ ∧ X.ls b))

theorem mayLie.mono {X : Cx} {γ : Gh} {τ τ' b : Nat} (h : mayLie X γ τ b) (ht : τ ≤ τ') : mayLie X γ τ' b :=
  ⟨h.1, h.2.imp id (Or.imp (And.imp (fun h => Nat.le_trans h ht) id) (And.imp (fun h => Nat.le_trans h ht) id))⟩

/-- A pure value stands for a real one. -/
inductive Rep (X : Cx) (γ : Gh) (w : World) : PV → Value → Prop where
  | int (k : IntKind) (n : Int) : Rep X γ w (.int k n) (.int k n)
  | bool (b : Bool) : Rep X γ w (.bool b) (.bool b)
  | str (s : List UInt8) : Rep X γ w (.str s) (.string ⟨s.toArray⟩)
  | agg (cs : List PV) (vs : List Value) (hl : vs.length = cs.length) (hc : ∀ u ∈ vs, u.oneCell' = true)
      (h : ∀ (k : Nat) (c : PV) (u : Value), cs[k]? = some c → vs[k]? = some u → Rep X γ w c u) : Rep X γ w (.agg cs) (.agg vs.toArray)
  | tup (cs : List PV) (vs : List Value) (hl : vs.length = cs.length)
      (h : ∀ (k : Nat) (c : PV) (u : Value), cs[k]? = some c → vs[k]? = some u → Rep X γ w c u) : Rep X γ w (.tup cs) (.tuple vs.toArray)
  | sl (τ z n : Nat) (f : Nat → List PV) (ad : Option Addr) (cap : Nat) (vs : Nat → Value) (hcap : n ≤ cap) (hz : ∀ i, i < n → (f i).length = z)
      (hf : ∀ i, i < n → ∀ c ∈ f i, c.flat = true)
      (hb : 0 < n → ∃ a, ad = some a ∧ mayLie X γ τ a.block ∧ a.block < w.heap.size ∧ ∀ k, k < n * z → w.cell? (a.add k) = some (vs k))
      (h : ∀ (i j : Nat) (c : PV), i < n → (f i)[j]? = some c → Rep X γ w (c.mark τ) (vs (i * z + j))) : Rep X γ w (.sl τ z n f) (.slice ad n cap)
  | nil (z : Nat) : Rep X γ w (.nil z) (.slice none 0 0)
  | os (r : Nat) (ge : GE) (hg : γ r = some ge) (h1 : ge.hdr.oneCell' = true) : Rep X γ w (.os r) ge.hdr
  | vw (h : Bool) (r lo n : Nat) (ge : GE) (ad : Option Addr) (m cap : Nat) (hg : γ r = some ge) (hh : ge.hdr = .slice ad m cap) (hle : lo + n ≤ m) (h0 : h = true → lo = 0) :
      Rep X γ w (.vw h r lo n) (.slice (if cap = lo then ad else ad.map (·.add (lo * ge.z))) n (cap - lo))
  | pt (r i j : Nat) (ge : GE) (b : Nat) (hg : γ r = some ge) (hb : ge.blk = some b) : Rep X γ w (.pt r i j) (.pointer (some ⟨b, i * ge.z + j, none⟩))
  | rp (τ : Nat) (cs : List PV) (a : Addr) (vs : Nat → Value) (hf : ∀ c ∈ cs, c.flat = true)
      (hb : cs ≠ [] → mayLie X γ τ a.block ∧ a.block < w.heap.size) (hc : ∀ k, k < cs.length → w.cell? (a.add k) = some (vs k))
      (h : ∀ (k : Nat) (c : PV), cs[k]? = some c → Rep X γ w (c.mark τ) (vs k)) : Rep X γ w (.rp τ cs) (.pointer (some a))
  | fn (f : Fn) (first caps : List PV) (vs us : List Value) (hl : vs.length = first.length) (hl' : us.length = caps.length)
      (h : ∀ (k : Nat) (c : PV) (u : Value), first[k]? = some c → vs[k]? = some u → Rep X γ w c u)
      (h' : ∀ (k : Nat) (c : PV) (u : Value), caps[k]? = some c → us[k]? = some u → Rep X γ w c u) : Rep X γ w (.fn f first caps) (.func f vs.toArray us.toArray)
  | raw (v : Value) (h1 : v.oneCell' = true) : Rep X γ w (.raw v) v
  | cnd (g : Bool) (p : PV) (v : Value) (h : g = true → Rep X γ w p v) (hu : g = false → v = undef) : Rep X γ w (.cnd g p) v
  | junk (v : Value) : Rep X γ w .junk v

/-- Lists of values. -/
def RepL (X : Cx) (γ : Gh) (w : World) (cs : List PV) (vs : List Value) : Prop :=
  vs.length = cs.length ∧ ∀ (k : Nat) (c : PV) (u : Value), cs[k]? = some c → vs[k]? = some u → Rep X γ w c u

/-- A store entry stands for a block. -/
def RepS (X : Cx) (γ : Gh) (w : World) (ge : GE) : SE → Prop
  | .box cells => ∃ b T vs, ge.blk = some b ∧ w.heap[b]? = some (.cells vs T (0, 0)) ∧ (∀ u ∈ vs.toList, u.oneCell' = true) ∧ RepL X γ w cells vs.toList
  | .row τ e z n f => ∃ vs : List Value, ge.z = z ∧ ge.blk = ge.hdr.ownBlock ∧ ge.hdr.oneCell' = true ∧ w.ownsRow 0 e z ge.hdr n vs ∧ (∀ u ∈ vs, u.oneCell' = true) ∧ (∀ i, i < n → (f i).length = z) ∧
      (∀ i, i < n → ∀ c ∈ f i, c.flat = true) ∧ ∀ (i j : Nat) (c : PV) (u : Value), i < n → (f i)[j]? = some c → vs[i * z + j]? = some u → Rep X γ w (c.mark τ) u

/-- The store. -/
structure RepSt (X : Cx) (γ : Gh) (w : World) (st : Nat → Option SE) : Prop where
  dom : ∀ r, (γ r).isSome = (st r).isSome
  at_ : ∀ r ge e, γ r = some ge → st r = some e → RepS X γ w ge e
  inj : ∀ r r' ge ge' b, γ r = some ge → γ r' = some ge' → ge.blk = some b → ge'.blk = some b → r = r'
  asOff : ∀ b, γ.own b → ¬ X.as b ∧ ¬ X.ls b
  lt : ∀ b, γ.own b → b < w.heap.size

/-- The world has only changed where it may. -/
structure Keeps (may : Nat → Prop) (w w' : World) : Prop where
  os : w'.os = w.os
  tape : w'.tape = w.tape
  output : w'.output = w.output
  size : w.heap.size ≤ w'.heap.size
  block : ∀ b, b < w.heap.size → ¬ may b → w'.heap[b]? = w.heap[b]?

theorem Keeps.refl (may : Nat → Prop) (w : World) : Keeps may w w := ⟨rfl, rfl, rfl, Nat.le_refl _, fun _ _ _ => rfl⟩
theorem Keeps.trans {may : Nat → Prop} {a b c : World} (h : Keeps may a b) (k : Keeps may b c) : Keeps may a c :=
  ⟨k.os.trans h.os, k.tape.trans h.tape, k.output.trans h.output, Nat.le_trans h.size k.size, fun i hi hm => (k.block i (Nat.lt_of_lt_of_le hi h.size) hm).trans (h.block i hi hm)⟩
theorem Keeps.mono {may may' : Nat → Prop} {a b : World} (h : Keeps may a b) (hm : ∀ i, i < a.heap.size → may i → may' i) : Keeps may' a b :=
  ⟨h.os, h.tape, h.output, h.size, fun i hi hn => h.block i hi (fun hh => hn (hm i hi hh))⟩
theorem Keeps.drew (may : Nat → Prop) (w : World) : Keeps may w w.drew := ⟨rfl, rfl, rfl, Nat.le_refl _, fun _ _ _ => rfl⟩
theorem Keeps.alloc (may : Nat → Prop) (w : World) (o : Obj) : Keeps may w (w.alloc o) := ⟨rfl, rfl, rfl, by simp, fun k hk _ => Below.heap_alloc w o k hk⟩

/-- The whole state. 'w0': the world as the call began; 'may': what the call may write of it. -/
structure Rel (X : Cx) (w0 : World) (may : Nat → Prop) (a : Act) (w : World) (s : PS) (γ : Gh) : Prop where
  size : a.tmps.size = s.n
  defers : a.defers = []
  fr : ∀ t p, s.fr t = some p → t < s.n ∧ Rep X γ w p (a.tmps.getD t undef)
  st : RepSt X γ w s.st
  keeps : Keeps may w0 w
  lo : X.lo = w0.heap.size
  own : ∀ b, γ.own b → X.lo ≤ b ∨ may b
  asLt : ∀ b, X.as b ∨ X.ls b → b < X.lo ∧ ¬ may b
  par : ∀ r, r < X.np → γ r = X.g0 r ∧ ∃ l, s.st r = some (.box l)
  mayP : ∀ b, may b → ∃ r ge, r < X.np ∧ X.g0 r = some ge ∧ ge.blk = some b

/-! ## the values behind a change -/

theorem voidL_get (k : List Nat) : ∀ (cs : List PV) (i : Nat), (PV.voidL k cs)[i]? = (cs[i]?).map (PV.void k)
  | [], i => by simp [PV.voidL]
  | c :: cs, 0 => by simp [PV.voidL]
  | c :: cs, i + 1 => by simpa [PV.voidL] using voidL_get k cs i
theorem voidL_length (k : List Nat) : ∀ (cs : List PV), (PV.voidL k cs).length = cs.length
  | [] => rfl
  | c :: cs => by simp [PV.voidL, voidL_length k cs]

theorem flat_fn {f : Fn} {a b : List PV} (h : (PV.fn f a b).flat = true) : a = [] ∧ b = [] := by
  cases a <;> cases b <;> first | exact ⟨rfl, rfl⟩ | simp [PV.flat] at h
theorem Rep.fn_nil {X X' : Cx} {γ γ' : Gh} {w w' : World} {f : Fn} {v : Value} (h : Rep X γ w (.fn f [] []) v) : Rep X' γ' w' (.fn f [] []) v := by
  cases h with
  | fn f first caps vs us hl hl' h h' =>
    exact .fn f [] [] vs us hl hl' (fun k c u hk => by simp at hk) (fun k c u hk => by simp at hk)
theorem flat_void {c : PV} (h : c.flat = true) (k : List Nat) (τ : Nat) : (c.mark τ).void k = c.mark τ := by
  cases c with
  | fn f a b => cases a <;> cases b <;> first | rfl | simp [PV.flat] at h
  | _ => simp_all [PV.flat, PV.mark, PV.void]
section
variable {X : Cx} {γ γ' : Gh} {w w' : World}

theorem Rep.move {k : List Nat} {p : PV} {v : Value} (h : Rep X γ w p v) (hγ : ∀ r ge, r ∉ k → γ r = some ge → γ' r = some ge)
    (hown : ∀ b, γ'.own b → γ.own b ∨ w.heap.size ≤ b) (hsz : w.heap.size ≤ w'.heap.size)
    (hw : ∀ b, ¬ γ.own b → b < w.heap.size → w'.heap[b]? = w.heap[b]?) : Rep X γ' w' (p.void k) v := by
  have hlie : ∀ τ b, b < w.heap.size → mayLie X γ τ b → mayLie X γ' τ b := fun τ b hb hm => ⟨fun ho => (hown b ho).elim hm.1 (fun h => absurd hb (by omega)), hm.2⟩
  have hcell : ∀ (a : Addr) (τ : Nat), mayLie X γ τ a.block → a.block < w.heap.size → ∀ j u, w.cell? (a.add j) = some u → w'.cell? (a.add j) = some u := by
    intro a τ hm hlt j u hu
    have e : (a.add j).block = a.block := by unfold Addr.add; split <;> rfl
    rw [World.cell?_of_block (w := w) (by rw [e]; exact hw _ hm.1 hlt)]
    exact hu
  induction h with
  | int k n => exact .int k n
  | bool b => exact .bool b
  | str s => exact .str s
  | agg cs vs hl hc h ih =>
    refine .agg _ _ (by rw [voidL_length]; exact hl) hc fun i c u hi hu => ?_
    rw [voidL_get] at hi
    obtain ⟨c0, h0, rfl⟩ := Option.map_eq_some_iff.1 hi
    exact ih i c0 u h0 hu
  | tup cs vs hl h ih =>
    refine .tup _ _ (by rw [voidL_length]; exact hl) fun i c u hi hu => ?_
    rw [voidL_get] at hi
    obtain ⟨c0, h0, rfl⟩ := Option.map_eq_some_iff.1 hi
    exact ih i c0 u h0 hu
  | sl τ z n f ad cap vs hcap hz hf hb h ih =>
    refine .sl τ z n f ad cap vs hcap hz hf (fun hn => ?_) (fun i j c hi hc => ?_)
    · obtain ⟨a, rfl, hm, hlt, hc⟩ := hb hn
      exact ⟨a, rfl, hlie _ _ hlt hm, Nat.lt_of_lt_of_le hlt hsz, fun k hk => hcell a τ hm hlt k _ (hc k hk)⟩
    · have := ih i j c hi hc
      rwa [flat_void (hf i hi c (List.mem_of_getElem? hc))] at this
  | nil z => exact .nil z
  | os r ge hg h1 =>
    simp only [PV.void]
    split
    · exact .junk _
    · rename_i hne; exact .os r ge (hγ r ge hne hg) h1
  | vw h r lo n ge ad m cap hg hh hle h0 =>
    simp only [PV.void]
    split
    · exact .junk _
    · rename_i hne; exact .vw h r lo n ge ad m cap (hγ r ge hne hg) hh hle h0
  | pt r i j ge b hg hb =>
    simp only [PV.void]
    split
    · exact .junk _
    · rename_i hne; exact .pt r i j ge b (hγ r ge hne hg) hb
  | rp τ cs a vs hf hb hc h ih =>
    refine .rp τ cs a vs hf (fun hn => ?_) (fun k hk => ?_) (fun k c hk => ?_)
    · obtain ⟨hm, hlt⟩ := hb hn
      exact ⟨hlie _ _ hlt hm, Nat.lt_of_lt_of_le hlt hsz⟩
    · obtain ⟨hm, hlt⟩ := hb (by intro e; subst e; simp at hk)
      exact hcell a τ hm hlt k _ (hc k hk)
    · have := ih k c hk
      rwa [flat_void (hf c (List.mem_of_getElem? hk))] at this
  | fn f first caps vs us hl hl' h h' ih ih' =>
    refine .fn _ _ _ _ _ (by rw [voidL_length]; exact hl) (by rw [voidL_length]; exact hl') (fun i c u hi hu => ?_) (fun i c u hi hu => ?_)
    · rw [voidL_get] at hi
      obtain ⟨c0, h0, rfl⟩ := Option.map_eq_some_iff.1 hi
      exact ih i c0 u h0 hu
    · rw [voidL_get] at hi
      obtain ⟨c0, h0, rfl⟩ := Option.map_eq_some_iff.1 hi
      exact ih' i c0 u h0 hu
  | raw v h1 => exact .raw v h1
  | cnd g p v h hu ih => exact .cnd g _ v ih hu
  | junk v => exact .junk v

theorem Rep.mono {p : PV} {v : Value} (h : Rep X γ w p v) (hγ : ∀ r ge, γ r = some ge → γ' r = some ge)
    (hown : ∀ b, γ'.own b → γ.own b ∨ w.heap.size ≤ b) (hsz : w.heap.size ≤ w'.heap.size)
    (hw : ∀ b, ¬ γ.own b → b < w.heap.size → w'.heap[b]? = w.heap[b]?) : Rep X γ' w' p v := by
  have hlie : ∀ τ b, b < w.heap.size → mayLie X γ τ b → mayLie X γ' τ b := fun τ b hb hm => ⟨fun ho => (hown b ho).elim hm.1 (fun h => absurd hb (by omega)), hm.2⟩
  have hcell : ∀ (a : Addr) (τ : Nat), mayLie X γ τ a.block → a.block < w.heap.size → ∀ j u, w.cell? (a.add j) = some u → w'.cell? (a.add j) = some u := by
    intro a τ hm hlt j u hu
    have e : (a.add j).block = a.block := by unfold Addr.add; split <;> rfl
    rw [World.cell?_of_block (w := w) (by rw [e]; exact hw _ hm.1 hlt)]
    exact hu
  induction h with
  | int k n => exact .int k n
  | bool b => exact .bool b
  | str s => exact .str s
  | agg cs vs hl hc h ih => exact .agg _ _ hl hc ih
  | tup cs vs hl h ih => exact .tup _ _ hl ih
  | sl τ z n f ad cap vs hcap hz hf hb h ih =>
    refine .sl τ z n f ad cap vs hcap hz hf (fun hn => ?_) ih
    obtain ⟨a, rfl, hm, hlt, hc⟩ := hb hn
    exact ⟨a, rfl, hlie _ _ hlt hm, Nat.lt_of_lt_of_le hlt hsz, fun k hk => hcell a τ hm hlt k _ (hc k hk)⟩
  | nil z => exact .nil z
  | os r ge hg h1 => exact .os r ge (hγ r ge hg) h1
  | vw h r lo n ge ad m cap hg hh hle h0 => exact .vw h r lo n ge ad m cap (hγ r ge hg) hh hle h0
  | pt r i j ge b hg hb => exact .pt r i j ge b (hγ r ge hg) hb
  | rp τ cs a vs hf hb hc h ih =>
    refine .rp τ cs a vs hf (fun hn => ?_) (fun k hk => ?_) ih
    · obtain ⟨hm, hlt⟩ := hb hn
      exact ⟨hlie _ _ hlt hm, Nat.lt_of_lt_of_le hlt hsz⟩
    · obtain ⟨hm, hlt⟩ := hb (by intro e; subst e; simp at hk)
      exact hcell a τ hm hlt k _ (hc k hk)
  | fn f first caps vs us hl hl' h h' ih ih' => exact .fn _ _ _ _ _ hl hl' ih ih'
  | raw v h1 => exact .raw v h1
  | cnd g p v h hu ih => exact .cnd g _ v ih hu
  | junk v => exact .junk v

end

mutual
theorem norm_some : ∀ (p : PV), p.norm = some p
  | .agg cs => by simp [PV.norm, norm_someL cs]
  | .tup cs => by simp [PV.norm, norm_someL cs]
  | .rp τ cs => by simp [PV.norm, norm_someL cs]
  | .fn f a b => by simp [PV.norm, norm_someL a, norm_someL b]
  | .cnd g p => by simp [PV.norm, norm_some p]
  | .int k n => rfl
  | .bool b => rfl
  | .str s => rfl
  | .sl o z n f => rfl
  | .nil z => rfl
  | .os r => rfl
  | .vw h r lo n => rfl
  | .pt r i j => rfl
  | .raw v => rfl
  | .junk => rfl
theorem norm_someL : ∀ (l : List PV), PV.normL l = some l
  | [] => rfl
  | p :: ps => by simp [PV.normL, norm_some p, norm_someL ps]
end
theorem snorm_some (e : SE) : e.norm = some e := by cases e <;> simp [SE.norm, norm_someL]
theorem snorm_someL : ∀ (l : List SE), SE.normL l = some l
  | [] => rfl
  | p :: ps => by simp [SE.normL, snorm_some p, snorm_someL ps]

mutual
theorem void_nil : ∀ (p : PV), p.void [] = p
  | .agg cs => by simp [PV.void, void_nilL cs]
  | .tup cs => by simp [PV.void, void_nilL cs]
  | .rp τ cs => rfl
  | .fn f a b => by simp [PV.void, void_nilL a, void_nilL b]
  | .cnd g p => by simp [PV.void, void_nil p]
  | .int k n => rfl
  | .bool b => rfl
  | .str s => rfl
  | .sl o z n f => rfl
  | .nil z => rfl
  | .os r => by simp [PV.void]
  | .vw h r lo n => by simp [PV.void]
  | .pt r i j => by simp [PV.void]
  | .raw v => rfl
  | .junk => rfl
theorem void_nilL : ∀ (l : List PV), PV.voidL [] l = l
  | [] => rfl
  | p :: ps => by simp [PV.voidL, void_nil p, void_nilL ps]
end

section
variable {X : Cx} {γ γ' : Gh} {w w' : World}

theorem Rep.int_inv {k : IntKind} {n : Int} {v : Value} (h : Rep X γ w (.int k n) v) : v = .int k n := by cases h; rfl
theorem Rep.bool_inv {b : Bool} {v : Value} (h : Rep X γ w (.bool b) v) : v = .bool b := by cases h; rfl
theorem Rep.str_inv {s : List UInt8} {v : Value} (h : Rep X γ w (.str s) v) : v = .string ⟨s.toArray⟩ := by cases h; rfl
theorem Rep.nil_inv {z : Nat} {v : Value} (h : Rep X γ w (.nil z) v) : v = .slice none 0 0 := by cases h; rfl
theorem Rep.agg_inv {cs : List PV} {v : Value} (h : Rep X γ w (.agg cs) v) : ∃ vs : List Value, v = .agg vs.toArray ∧ RepL X γ w cs vs ∧ ∀ u ∈ vs, u.oneCell' = true := by
  cases h with | agg _ vs hl hc h => exact ⟨vs, rfl, ⟨hl, h⟩, hc⟩
theorem Rep.tup_inv {cs : List PV} {v : Value} (h : Rep X γ w (.tup cs) v) : ∃ vs : List Value, v = .tuple vs.toArray ∧ RepL X γ w cs vs := by
  cases h with | tup _ vs hl h => exact ⟨vs, rfl, ⟨hl, h⟩⟩
theorem Rep.cnd_inv {g : Bool} {p : PV} {v : Value} (h : Rep X γ w (.cnd g p) v) (hg : g = true) : Rep X γ w p v := by
  cases h with | cnd _ _ _ h _ => exact h hg

theorem RepL.nil_ : RepL X γ w [] [] := ⟨rfl, fun k c u h => by simp at h⟩
theorem RepL.cons_ {c : PV} {u : Value} {cs : List PV} {us : List Value} (h : Rep X γ w c u) (hs : RepL X γ w cs us) : RepL X γ w (c :: cs) (u :: us) :=
  ⟨by simp [hs.1], fun k c' u' hc hu => by
    cases k with
    | zero => simp at hc hu; subst hc; subst hu; exact h
    | succ k => exact hs.2 k c' u' (by simpa using hc) (by simpa using hu)⟩
theorem RepL.cons_inv {c : PV} {cs : List PV} {us : List Value} (h : RepL X γ w (c :: cs) us) : ∃ u us', us = u :: us' ∧ Rep X γ w c u ∧ RepL X γ w cs us' := by
  obtain ⟨hl, h⟩ := h
  cases us with
  | nil => simp at hl
  | cons u us' => exact ⟨u, us', rfl, h 0 c u rfl rfl, by simpa using hl, fun k c' u' hc hu => h (k + 1) c' u' (by simpa using hc) (by simpa using hu)⟩
theorem RepL.nil_inv {us : List Value} (h : RepL X γ w [] us) : us = [] := List.eq_nil_of_length_eq_zero h.1
theorem RepL.at {cs : List PV} {us : List Value} (h : RepL X γ w cs us) {k : Nat} {c : PV} (hc : cs[k]? = some c) : ∃ u, us[k]? = some u ∧ Rep X γ w c u := by
  have hk : k < us.length := by rw [h.1]; exact (List.getElem?_eq_some_iff.1 hc).1
  exact ⟨us[k], List.getElem?_eq_getElem hk, h.2 k c _ hc (List.getElem?_eq_getElem hk)⟩
theorem RepL.drop {cs : List PV} {us : List Value} (h : RepL X γ w cs us) (n : Nat) : RepL X γ w (cs.drop n) (us.drop n) :=
  ⟨by simp [h.1], fun k c u hc hu => h.2 (n + k) c u (by simpa using hc) (by simpa using hu)⟩
theorem RepL.take {cs : List PV} {us : List Value} (h : RepL X γ w cs us) (n : Nat) : RepL X γ w (cs.take n) (us.take n) :=
  ⟨by simp [h.1], fun k c u hc hu => by
    rw [List.getElem?_take] at hc hu
    split at hc
    · rename_i hk; simp only [hk, if_true] at hu; exact h.2 k c u hc hu
    · cases hc⟩
theorem RepL.append {cs ds : List PV} {us vs : List Value} (h : RepL X γ w cs us) (h' : RepL X γ w ds vs) : RepL X γ w (cs ++ ds) (us ++ vs) :=
  ⟨by simp [h.1, h'.1], fun k c u hc hu => by
    rw [List.getElem?_append] at hc hu
    rw [h.1] at hu
    split at hc
    · rename_i hk; simp only [hk, if_true] at hu; exact h.2 k c u hc hu
    · rename_i hk; simp only [hk, if_false] at hu; exact h'.2 _ c u hc hu⟩

theorem Rep.one_ {p : PV} {v : Value} (h : Rep X γ w p v) (hp : p.one = true) : v.oneCell' = true := by
  cases h <;> first | rfl | assumption | simp [PV.one] at hp

theorem cells_one {v : Value} (h : v.oneCell' = true) : v.cells = #[v] := by cases v <;> first | rfl | simp [Value.oneCell'] at h
theorem PV.cells_one {p : PV} (h : p.one = true) : p.cells = [p] := by cases p <;> first | rfl | simp [PV.one] at h

/-- The cells of a value that may be stored. -/
theorem Rep.cells_ {p : PV} {v : Value} (h : Rep X γ w p v) (hp : p.okCell = true) : RepL X γ w p.cells v.cells.toList ∧ ∀ u ∈ v.cells.toList, u.oneCell' = true := by
  by_cases ho : p.one = true
  · have h1 := h.one_ ho
    rw [cells_one h1, PV.cells_one ho]
    exact ⟨RepL.cons_ h RepL.nil_, by simpa using h1⟩
  · cases h with
    | agg cs vs hl hc h => exact ⟨⟨by simpa [Value.cells, PV.cells] using hl, by simpa [Value.cells, PV.cells] using h⟩, by simpa [Value.cells] using hc⟩
    | _ => simp [PV.one, PV.okCell] at ho hp

theorem mark_mark (p : PV) (τ τ' : Nat) : (p.mark τ).mark τ' = p.mark τ' := by cases p <;> rfl
theorem tau_mark (p : PV) (τ : Nat) : (p.mark τ).tau ≤ τ := by cases p <;> simp [PV.mark, PV.tau]

theorem Rep.mark_up {p : PV} {v : Value} (h : Rep X γ w p v) : ∀ τ', p.tau ≤ τ' → Rep X γ w (p.mark τ') v := by
  induction h with
  | sl τ z n f ad cap vs hcap hz hf hb h ih =>
    intro τ' ht
    simp only [PV.tau] at ht
    refine .sl τ' z n f ad cap vs hcap hz hf (fun hn => ?_) (fun i j c hi hc => ?_)
    · obtain ⟨a, rfl, hm, hlt, hc⟩ := hb hn
      exact ⟨a, rfl, hm.mono ht, hlt, hc⟩
    · have := ih i j c hi hc τ' (Nat.le_trans (tau_mark c τ) ht)
      rwa [mark_mark] at this
  | rp τ cs a vs hf hb hc h ih =>
    intro τ' ht
    simp only [PV.tau] at ht
    refine .rp τ' cs a vs hf (fun hn => ?_) hc (fun k c hk => ?_)
    · obtain ⟨hm, hlt⟩ := hb hn
      exact ⟨hm.mono ht, hlt⟩
    · have := ih k c hk τ' (Nat.le_trans (tau_mark c τ) ht)
      rwa [mark_mark] at this
  | int k n => intro _ _; exact .int k n
  | bool b => intro _ _; exact .bool b
  | str s => intro _ _; exact .str s
  | agg cs vs hl hc h _ => intro _ _; exact .agg cs vs hl hc h
  | tup cs vs hl h _ => intro _ _; exact .tup cs vs hl h
  | nil z => intro _ _; exact .nil z
  | os r ge hg h1 => intro _ _; exact .os r ge hg h1
  | vw h r lo n ge ad m cap hg hh hle h0 => intro _ _; exact .vw h r lo n ge ad m cap hg hh hle h0
  | pt r i j ge b hg hb => intro _ _; exact .pt r i j ge b hg hb
  | fn f first caps vs us hl hl' h h' _ _ => intro _ _; exact .fn f first caps vs us hl hl' h h'
  | raw v h1 => intro _ _; exact .raw v h1
  | cnd g p v h hu _ => intro _ _; exact .cnd g p v h hu
  | junk v => intro _ _; exact .junk v

/-- n cells as a value. -/
theorem asV_rep {n : Nat} {agg : Bool} {cs : List PV} {us : List Value} {p : PV} (h : RepL X γ w cs us) (h1 : ∀ u ∈ us, u.oneCell' = true) (hp : asV n agg cs = some p) :
    us.length = n ∧ Rep X γ w p (if agg then .agg us.toArray else us.getD 0 undef) := by
  unfold asV at hp
  split at hp
  · rename_i hn
    refine ⟨by rw [h.1]; exact hn, ?_⟩
    cases agg with
    | true =>
      simp only [if_true, Option.some.injEq] at hp ⊢
      subst hp
      exact .agg _ _ h.1 h1 h.2
    | false =>
      simp only [Bool.false_eq_true, if_false] at hp ⊢
      split at hp
      · rename_i c
        injection hp with hp; subst hp
        obtain ⟨u, us', rfl, hu, _⟩ := h.cons_inv
        exact hu
      · cases hp
  · cases hp
end
end Pv
end Go.Proofs.Ytogoplhikmmggaa
