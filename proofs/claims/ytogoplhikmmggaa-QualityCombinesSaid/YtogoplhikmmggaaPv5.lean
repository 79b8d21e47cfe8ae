/- THE OPERATIONS: what the model does at each agrees with what the evaluator says. First part: operations that change no memory. -/
import Derived.Test.YtogoplhikmmggaaPv2
import Derived.Test.YtogoplhikmmggaaPv3
import Derived.ChangeKeysEq
import Derived.Laws.Cells
import Derived.Laws.Entries
import Derived.ChangeKeysEq
import Derived.Laws.Strings
import Derived.Laws.StructEq
set_option linter.unusedSimpArgs false
set_option linter.unusedVariables false
namespace Go.Proofs.Ytogoplhikmmggaa
namespace Pv
open Go.RowKit

section
variable {P : Program} {X : Cx} {γ : Gh} {w : World} {ρ : Operand → Value} {o : Oper}

theorem info_of_size {t : TypeId} (h : 0 < P.cellsOf t) : ∃ i, P.info? t = some i ∧ i.size = P.cellsOf t := by
  unfold Program.cellsOf at *
  cases hi : P.info? t with
  | none => simp [hi] at h
  | some i => exact ⟨i, rfl, rfl⟩
theorem info_of_underlying {t : TypeId} {d : TypeDesc} (h : P.underlying t = some d) : ∃ i, P.info? t = some i ∧ i.size = P.cellsOf t := by
  unfold Program.cellsOf
  cases hi : P.info? t with
  | none => simp [Program.underlying, hi] at h
  | some i => exact ⟨i, rfl, rfl⟩
theorem run_isAgg_ {t : TypeId} {g : Bool} (h : isAggO P t = some g) : (isAgg t).run P w = .ok g w := by
  unfold isAggO at h
  cases hd : P.underlying t with
  | none => simp [hd] at h
  | some d =>
    simp only [hd] at h
    have := run_underlying hd w
    cases d <;> simp_all [isAgg]
theorem info_of_agg {t : TypeId} {g : Bool} (h : isAggO P t = some g) : ∃ i, P.info? t = some i ∧ i.size = P.cellsOf t := by
  unfold isAggO at h
  cases hd : P.underlying t with
  | none => simp [hd] at h
  | some d => exact info_of_underlying hd

theorem run_loadAt_ {t : TypeId} {g : Bool} {a : Addr} {us : List Value} (hg : isAggO P t = some g) (hl : us.length = P.cellsOf t) (h0 : g = false → us.length = 1)
    (hc : ∀ k u, us[k]? = some u → w.cell? (a.add k) = some u) :
    (Instr.loadAt t (.pointer (some a))).run P w = .ok (if g then .agg us.toArray else us.getD 0 undef) w := by
  obtain ⟨i, hi, hs⟩ := info_of_agg hg
  have hsz : (sizeOf t).run P w = .ok us.length w := by rw [hl]; exact run_sizeOf w hi
  cases g with
  | true =>
    have := run_loadCells_list (P := P) w a us hc
    simp [Instr.loadAt, Instr.sureAddr, loadVar, run_isAgg_ hg, hsz, this]
  | false =>
    have h1 := h0 rfl
    match us, h1 with
    | [u], _ =>
      have := hc 0 u rfl
      have e : a.add 0 = a := by simp [Addr.add]
      rw [e] at this
      simp [Instr.loadAt, Instr.sureAddr, loadVar, run_isAgg_ hg, this]

theorem constPV_rep {v : Value} {p : PV} (h : constPV v = some p) : Rep X γ w p v := by
  unfold constPV at h
  split at h <;> first | (injection h with h; subst h) | cases h
  · exact .int _ _
  · exact .bool _
  · rename_i s; exact .str s.data.toList
  · exact .nil _
  · exact .raw _ rfl
  · exact .raw _ rfl
  · exact .raw _ rfl

/-- What is known of operands. -/
def Opd (X : Cx) (γ : Gh) (w : World) (fr : Nat → Option PV) (ρ : Operand → Value) : Prop :=
  (∀ t p, fr t = some p → Rep X γ w p (ρ (.tmp t))) ∧ (∀ v, ρ (.const v) = v) ∧ (∀ f, ρ (.func f) = .func (.func f) #[] #[])

theorem arg_rep {fr : Nat → Option PV} (H : Opd X γ w fr ρ) {x : Operand} {y : A} {p : PV} (hx : arg x = some y) (hp : A.val fr y = some p) : Rep X γ w p (ρ x) := by
  cases x with
  | tmp t => simp only [arg, Option.some.injEq] at hx; subst hx; exact H.1 t p hp
  | const v =>
    simp only [arg, Option.map_eq_some_iff] at hx
    obtain ⟨q, hq, rfl⟩ := hx
    simp only [A.val, Option.some.injEq] at hp; subst hp
    rw [H.2.1]; exact constPV_rep hq
  | func f =>
    simp only [arg, Option.some.injEq] at hx; subst hx
    simp only [A.val, Option.some.injEq] at hp; subst hp
    rw [H.2.2]; exact .fn _ [] [] [] [] rfl rfl (fun k c u h => by simp at h) (fun k c u h => by simp at h)
  | global g => cases hx
theorem argT_rep {fr : Nat → Option PV} (H : Opd X γ w fr ρ) {t : TypeId} {x : Operand} {y : A} {p : PV} (hx : argT P t x = some y) (hp : A.val fr y = some p) : Rep X γ w p (ρ x) := by
  unfold argT at hx
  split at hx
  · simp only [Option.some.injEq] at hx; subst hx
    simp only [A.val, Option.some.injEq] at hp; subst hp
    rw [H.2.1]; exact .nil _
  · exact arg_rep H hx hp

theorem mapO_length {α β : Type} {f : α → Option β} : ∀ {l : List α} {r : List β}, mapO f l = some r → r.length = l.length
  | [], r, h => by simp [mapO] at h; subst h; rfl
  | a :: l, r, h => by
    simp only [mapO] at h
    split at h
    · rename_i b bs _ hbs; injection h with h; subst h; simp [mapO_length hbs]
    · cases h
theorem mapO_get {α β : Type} {f : α → Option β} : ∀ {l : List α} {r : List β}, mapO f l = some r → ∀ (k : Nat) (a : α), l[k]? = some a → ∃ b, r[k]? = some b ∧ f a = some b
  | [], r, h, k, a, hk => by simp at hk
  | x :: l, r, h, k, a, hk => by
    simp only [mapO] at h
    split at h
    · rename_i b bs hb hbs
      injection h with h; subst h
      cases k with
      | zero => simp at hk; subst hk; exact ⟨b, rfl, hb⟩
      | succ k => simpa using mapO_get hbs k a (by simpa using hk)
    · cases h
theorem valL_length {fr : Nat → Option PV} : ∀ {l : List A} {r : List PV}, valL fr l = some r → r.length = l.length
  | [], r, h => by simp [valL] at h; subst h; rfl
  | a :: l, r, h => by
    simp only [valL] at h
    split at h
    · rename_i b bs _ hbs; injection h with h; subst h; simp [valL_length hbs]
    · cases h
theorem valL_get {fr : Nat → Option PV} : ∀ {l : List A} {r : List PV}, valL fr l = some r → ∀ (k : Nat) (a : A), l[k]? = some a → ∃ b, r[k]? = some b ∧ A.val fr a = some b
  | [], r, h, k, a, hk => by simp at hk
  | x :: l, r, h, k, a, hk => by
    simp only [valL] at h
    split at h
    · rename_i b bs hb hbs
      injection h with h; subst h
      cases k with
      | zero => simp at hk; subst hk; exact ⟨b, rfl, hb⟩
      | succ k => simpa using valL_get hbs k a (by simpa using hk)
    · cases h

theorem args_rep {fr : Nat → Option PV} (H : Opd X γ w fr ρ) : ∀ {xs : List Operand} {ys : List A} {ps : List PV}, mapO arg xs = some ys → valL fr ys = some ps → RepL X γ w ps (xs.map ρ)
  | [], ys, ps, h, hp => by
    simp [mapO] at h; subst h
    simp [valL] at hp; subst hp
    exact RepL.nil_
  | x :: xs, ys, ps, h, hp => by
    simp only [mapO] at h
    split at h
    · rename_i b bs hb hbs
      injection h with h; subst h
      simp only [valL] at hp
      split at hp
      · rename_i p qs hp1 hp2
        injection hp with hp; subst hp
        exact RepL.cons_ (arg_rep H hb hp1) (args_rep H hbs hp2)
      · cases hp
    · cases h
theorem argsT_rep {α : Type} {fr : Nat → Option PV} (H : Opd X γ w fr ρ) (ty : α → TypeId) (op : α → Operand) : ∀ {xs : List α} {ys : List A} {ps : List PV},
    mapO (fun x => argT P (ty x) (op x)) xs = some ys → valL fr ys = some ps → RepL X γ w ps (xs.map fun x => ρ (op x))
  | [], ys, ps, h, hp => by
    simp [mapO] at h; subst h
    simp [valL] at hp; subst hp
    exact RepL.nil_
  | x :: xs, ys, ps, h, hp => by
    simp only [mapO] at h
    split at h
    · rename_i b bs hb hbs
      injection h with h; subst h
      simp only [valL] at hp
      split at hp
      · rename_i p qs hp1 hp2
        injection hp with hp; subst hp
        exact RepL.cons_ (argT_rep H hb hp1) (argsT_rep H ty op hbs hp2)
      · cases hp
    · cases h

/-! ### sums and comparisons -/
theorem wrap_in (k : IntKind) (n : Int) (h : inR k n) : k.wrap n = n := by
  obtain ⟨h1, h2⟩ := h
  cases k <;> simp [IntKind.min, IntKind.max, IntKind.signed, IntKind.bits] at h1 h2 <;> simp [IntKind.wrap, IntKind.signed, IntKind.bits] <;> omega

/-- All that an instruction owes. -/
def allP : List Prop → Prop
  | [] => True
  | p :: ps => p ∧ allP ps

/-- An effect that changes nothing. -/
def Eff.still (E : Eff) : Prop := E.wr = [] ∧ E.nw = [] ∧ E.kill = [] ∧ E.rm = []
theorem Eff.still_pure (p : PV) : (Eff.pure p).still := ⟨rfl, rfl, rfl, rfl⟩
theorem Eff.still_side (p : PV) (s : Prop) : (Eff.side' p s).still := ⟨rfl, rfl, rfl, rfl⟩

/-- A still instruction is sound: the operation gives a value that the pure one stands for, and the world stays. -/
def Good (P : Program) (X : Cx) (γ : Gh) (w : World) (E : Eff) (m : Sem Value) : Prop := E.still ∧ ∃ v, m.run P w = .ok v w ∧ Rep X γ w E.val v

theorem biI_sound {wr : Bool} {op : BinOp} {k : IntKind} {a b : Int} {E : Eff} (t : TypeId) (hE : biI wr op k a b = some E) (hs : allP E.side) :
    Good P X γ w E (binOp op t (.int k a) (.int k b)) := by
  cases op with
  | add | sub | mul =>
    cases wr with
    | true => simp only [biI, if_true, Option.some.injEq] at hE; subst hE; exact ⟨Eff.still_pure _, _, by simp [binOp, Op.intArith], .int _ _⟩
    | false =>
      simp only [biI, Bool.false_eq_true, if_false, Option.some.injEq] at hE; subst hE
      refine ⟨Eff.still_side _ _, _, by simp [binOp, Op.intArith]; rfl, ?_⟩
      rw [wrap_in _ _ hs.1]; exact .int _ _
  | quo =>
    cases wr with
    | true =>
      simp only [biI, if_true, Option.some.injEq] at hE; subst hE
      have h0 : b ≠ 0 := hs.1
      exact ⟨Eff.still_side _ _, _, by simp [binOp, Op.intDiv, h0], .int _ _⟩
    | false =>
      simp only [biI, Bool.false_eq_true, if_false, Option.some.injEq] at hE; subst hE
      obtain ⟨⟨h0, h1⟩, _⟩ := hs
      refine ⟨Eff.still_side _ _, _, by simp [binOp, Op.intDiv, h0]; rfl, ?_⟩
      rw [wrap_in _ _ h1]; exact .int _ _
  | rem =>
    simp only [biI, Option.some.injEq] at hE; subst hE
    have h0 : b ≠ 0 := hs.1
    exact ⟨Eff.still_side _ _, _, by simp [binOp, Op.intDiv, h0], .int _ _⟩
  | eql => simp only [biI, Option.some.injEq] at hE; subst hE; exact ⟨Eff.still_pure _, _, by simp [binOp, Op.intCmp], .bool _⟩
  | neq => simp only [biI, Option.some.injEq] at hE; subst hE; exact ⟨Eff.still_pure _, _, by simp [binOp, Op.intCmp], .bool _⟩
  | lss => simp only [biI, Option.some.injEq] at hE; subst hE; exact ⟨Eff.still_pure _, _, by simp [binOp, Op.intCmp], .bool _⟩
  | leq => simp only [biI, Option.some.injEq] at hE; subst hE; exact ⟨Eff.still_pure _, _, by simp [binOp, Op.intCmp], .bool _⟩
  | gtr => simp only [biI, Option.some.injEq] at hE; subst hE; exact ⟨Eff.still_pure _, _, by simp [binOp, Op.intCmp], .bool _⟩
  | geq => simp only [biI, Option.some.injEq] at hE; subst hE; exact ⟨Eff.still_pure _, _, by simp [binOp, Op.intCmp], .bool _⟩
  | _ => cases hE

theorem toList_mk (a : List UInt8) : (⟨a.toArray⟩ : ByteArray).toList = a := by unfold ByteArray.toList; rw [ByteArray.toList_loop_eq _ _ 0 [] rfl (Nat.zero_le _)]; simp
theorem mk_append (a b : List UInt8) : (⟨a.toArray⟩ : ByteArray) ++ ⟨b.toArray⟩ = ⟨(a ++ b).toArray⟩ := by
  ext1
  simp

theorem biV_sound {wr : Bool} {op : BinOp} {p q : PV} {E : Eff} {u v : Value} {t : TypeId}
    (hu : Rep X γ w p u) (hv : Rep X γ w q v) (hE : biV wr op p q = some E) (hs : allP E.side) : Good P X γ w E (binOp op t u v) := by
  unfold biV at hE
  split at hE
  · rename_i k a k' b
    cases hu.int_inv; cases hv.int_inv
    split at hE
    · rename_i hk; subst hk; exact biI_sound t hE hs
    · cases hE
  · rename_i a b
    cases hu.str_inv; cases hv.str_inv
    cases op with
    | eql => simp only [Option.some.injEq] at hE; subst hE; exact ⟨Eff.still_pure _, _, by simp [binOp, Op.stringOp], .bool _⟩
    | neq => simp only [Option.some.injEq] at hE; subst hE; exact ⟨Eff.still_pure _, _, by simp [binOp, Op.stringOp], .bool _⟩
    | lss => simp only [Option.some.injEq] at hE; subst hE; exact ⟨Eff.still_pure _, _, by simp [binOp, Op.stringOp], .bool _⟩
    | leq => simp only [Option.some.injEq] at hE; subst hE; exact ⟨Eff.still_pure _, _, by simp [binOp, Op.stringOp], .bool _⟩
    | gtr => simp only [Option.some.injEq] at hE; subst hE; exact ⟨Eff.still_pure _, _, by simp [binOp, Op.stringOp], .bool _⟩
    | geq => simp only [Option.some.injEq] at hE; subst hE; exact ⟨Eff.still_pure _, _, by simp [binOp, Op.stringOp], .bool _⟩
    | add =>
      simp only [Option.some.injEq] at hE; subst hE
      have h0 : a.length + b.length ≤ 9223372036854775807 := hs.1
      refine ⟨Eff.still_side _ _, .string ⟨(a ++ b).toArray⟩, ?_, .str _⟩
      have e : ¬ IntKind.max IntKind.i64 < (((⟨a.toArray⟩ : ByteArray).size : Int) + ((⟨b.toArray⟩ : ByteArray).size : Int)) := by
        have e1 : (⟨a.toArray⟩ : ByteArray).size = a.length := rfl
        have e2 : (⟨b.toArray⟩ : ByteArray).size = b.length := rfl
        have e3 : IntKind.max IntKind.i64 = 9223372036854775807 := rfl
        rw [e1, e2, e3]; omega
      simp only [binOp, Op.stringOp, gt_iff_lt, Int.natCast_add, e, if_false, mk_append, Sem.run_pure]
    | _ => cases hE
  · cases hE

/-! ### equality of structs -/
theorem eqCell_run {e : TypeId} {k : Nat} {p q : PV} {u v : Value} {b : Bool} (d : Nat) (he : eqKind P e = some k)
    (hu : Rep X γ w p u) (hv : Rep X γ w q v) (hb : eqCell k p q = some b) : (Op.equalIn (d + 1) e u v).run P w = .ok b w ∧ u.oneCell' = true ∧ v.oneCell' = true ∧ (isAgg e).run P w = .ok false w := by
  have hag : ∀ d, P.underlying e = some d → (match d with | .struct _ | .array _ _ => true | _ => false) = false → (isAgg e).run P w = .ok false w := fun d hd h0 => by
    apply run_isAgg_
    unfold isAggO; rw [hd]; cases d <;> simp_all
  unfold eqCell at hb
  split at hb
  · split at hb
    case isFalse => cases hb
    rename_i hkk; subst hkk
    injection hb with hb; subst hb
    cases hu.int_inv; cases hv.int_inv
    unfold eqKind at he
    cases hd : P.underlying e with
    | none => simp [hd] at he
    | some d => cases d <;> simp [hd] at he; exact ⟨run_equalIn_int w _ _ _ _ _ _ hd, rfl, rfl, hag _ hd rfl⟩
  · injection hb with hb; subst hb
    cases hu.bool_inv; cases hv.bool_inv
    unfold eqKind at he
    cases hd : P.underlying e with
    | none => simp [hd] at he
    | some d => cases d <;> simp [hd] at he; exact ⟨run_equalIn_bool w _ _ _ _ hd, rfl, rfl, hag _ hd rfl⟩
  · injection hb with hb; subst hb
    cases hu.str_inv; cases hv.str_inv
    unfold eqKind at he
    cases hd : P.underlying e with
    | none => simp [hd] at he
    | some d =>
      cases d <;> simp [hd] at he
      refine ⟨?_, rfl, rfl, hag _ hd rfl⟩
      rw [run_equalIn_string w _ _ _ _ hd, toList_mk, toList_mk]
  · cases hb

theorem eqFields_run (d : Nat) (xs ys : Array Value) : ∀ (i : Nat) (fs : List Field) (ks : List Nat) (as bs : List PV) (b : Bool), eqKinds P i fs = some ks →
    RepL X γ w as (xs.toList.drop i) → RepL X γ w bs (ys.toList.drop i) → eqCells ks as bs = some b → (Op.eqFields (d + 1) xs ys fs).run P w = .ok b w
  | i, [], ks, as, bs, b, hk, ha, hb, he => by
    simp only [eqKinds, Option.some.injEq] at hk; subst hk
    cases as <;> cases bs <;> simp [eqCells] at he
    subst he
    simp [Op.eqFields]
  | i, f :: fs, ks, as, bs, b, hk, ha, hb, he => by
    simp only [eqKinds] at hk
    split at hk
    · rename_i hn
      simp only [Bool.and_eq_true, bne_iff_ne, ne_eq, beq_iff_eq] at hn
      split at hk
      · rename_i k ks' hk1 hk2
        injection hk with hk; subst hk
        cases as with
        | nil => simp [eqCells] at he
        | cons p as' =>
        cases bs with
        | nil => simp [eqCells] at he
        | cons q bs' =>
          simp only [eqCells] at he
          split at he
          · rename_i x y hx hy
            injection he with he; subst he
            obtain ⟨u, us, hu, hpu, hus⟩ := ha.cons_inv
            obtain ⟨v, vs, hv, hqv, hvs⟩ := hb.cons_inv
            have hxi : xs[i]? = some u := by
              have := congrArg (fun l => l[0]?) hu
              simpa using this
            have hyi : ys[i]? = some v := by
              have := congrArg (fun l => l[0]?) hv
              simpa using this
            have hus' : RepL X γ w as' (xs.toList.drop (i + 1)) := by
              have : xs.toList.drop (i + 1) = us := by rw [← List.drop_drop, hu]; rfl
              rw [this]; exact hus
            have hvs' : RepL X γ w bs' (ys.toList.drop (i + 1)) := by
              have : ys.toList.drop (i + 1) = vs := by rw [← List.drop_drop, hv]; rfl
              rw [this]; exact hvs
            obtain ⟨hr, h1, h2, hag⟩ := eqCell_run (X := X) (γ := γ) (w := w) d hk1 hpu hqv hx
            have ih := eqFields_run d xs ys (i + 1) fs ks' as' bs' y hk2 hus' hvs' hy
            have hp1 : (part f.type xs f.offset).run P w = .ok u w := by simp [part, hag, hn.2, hxi]
            have hp2 : (part f.type ys f.offset).run P w = .ok v w := by simp [part, hag, hn.2, hyi]
            simp only [Op.eqFields, ne_eq, hn.1, not_false_eq_true, if_true, Sem.run_bind, hp1, hp2, hr, Result.andThen_ok]
            cases x <;> simp [ih]
          · cases he
      · cases hk
    · cases hk

theorem eqa_sound {t : TypeId} {fs : Array Field} {ks : List Nat} {as bs : List PV} {u v : Value} {b neg : Bool} (x y : Operand) (ht : P.underlying t = some (.struct fs)) (hk : eqKinds P 0 fs.toList = some ks)
    (hg : P.eqGuardType P.depth t = false) (hs : P.stoodInHeld t = false) (hu : Rep X γ w (.agg as) u) (hv : Rep X γ w (.agg bs) v) (he : eqCells ks as bs = some b) :
    ((do eqGuard (if neg then .neq else .eql) t x y u v; binOp (if neg then .neq else .eql) t u v) : Sem Value).run P w = .ok (.bool (if neg then !b else b)) w := by
  obtain ⟨us, rfl, hus, _⟩ := hu.agg_inv
  obtain ⟨vs, rfl, hvs, _⟩ := hv.agg_inv
  have hf : P.fieldsOf t = fs := by simp [Program.fieldsOf, ht]
  have h0 := eqFields_run (P := P) (X := X) (γ := γ) (w := w) 9998 us.toArray vs.toArray 0 fs.toList ks as bs b hk (by simpa using hus) (by simpa using hvs) he
  have h1 : (Op.equalIn 10000 t (.agg us.toArray) (.agg vs.toArray)).run P w = .ok b w := by
    rw [run_equalIn_struct w 9999 t _ _ (by rw [hf]; exact ht) hs, hf]; exact h0
  cases neg with
  | true => simp [run_eqGuard_agg w _ t x y _ _ hg, run_neq_struct, h1]
  | false => simp [run_eqGuard_agg w _ t x y _ _ hg, run_eql_struct, h1]

theorem eqItems_run (d : Nat) (xs ys : Array Value) {e : TypeId} {k : Nat} (hk : eqKind P e = some k) : ∀ (m i : Nat) (as bs : List PV) (b : Bool),
    RepL X γ w as (xs.toList.drop i) → RepL X γ w bs (ys.toList.drop i) → eqCells (List.replicate m k) as bs = some b → (Op.eqItems (d + 1) e 1 xs ys (List.range' i m)).run P w = .ok b w
  | 0, i, as, bs, b, ha, hb, he => by
    cases as <;> cases bs <;> simp [eqCells] at he
    subst he
    simp [Op.eqItems]
  | m + 1, i, as, bs, b, ha, hb, he => by
    rw [List.replicate_succ] at he
    cases as with
    | nil => simp [eqCells] at he
    | cons p as' =>
    cases bs with
    | nil => simp [eqCells] at he
    | cons q bs' =>
      simp only [eqCells] at he
      split at he
      · rename_i x y hx hy
        injection he with he; subst he
        obtain ⟨u, us, hu, hpu, hus⟩ := ha.cons_inv
        obtain ⟨v, vs, hv, hqv, hvs⟩ := hb.cons_inv
        have hxi : xs[i]? = some u := by
          have := congrArg (fun l => l[0]?) hu
          simpa using this
        have hyi : ys[i]? = some v := by
          have := congrArg (fun l => l[0]?) hv
          simpa using this
        have hus' : RepL X γ w as' (xs.toList.drop (i + 1)) := by
          have : xs.toList.drop (i + 1) = us := by rw [← List.drop_drop, hu]; rfl
          rw [this]; exact hus
        have hvs' : RepL X γ w bs' (ys.toList.drop (i + 1)) := by
          have : ys.toList.drop (i + 1) = vs := by rw [← List.drop_drop, hv]; rfl
          rw [this]; exact hvs
        obtain ⟨hr, h1, h2, hag⟩ := eqCell_run (X := X) (γ := γ) (w := w) d hk hpu hqv hx
        have ih := eqItems_run d xs ys hk m (i + 1) as' bs' y hus' hvs' hy
        have hp1 : (part e xs (i * 1)).run P w = .ok u w := by simp [part, hag, hxi]
        have hp2 : (part e ys (i * 1)).run P w = .ok v w := by simp [part, hag, hyi]
        rw [List.range'_succ]
        simp only [Op.eqItems, Sem.run_bind, hp1, hp2, hr, Result.andThen_ok]
        cases x <;> simp [ih]
      · cases he

theorem eqar_sound {t e : TypeId} {n k : Nat} {as bs : List PV} {u v : Value} {b neg : Bool} (x y : Operand) (ht : P.underlying t = some (.array n e)) (hk : eqKind P e = some k) (hc : P.cellsOf e = 1) (hi : (P.info? e).isSome = true)
    (hg : P.eqGuardType P.depth t = false) (hu : Rep X γ w (.agg as) u) (hv : Rep X γ w (.agg bs) v) (he : eqCells (List.replicate n k) as bs = some b) :
    ((do eqGuard (if neg then .neq else .eql) t x y u v; binOp (if neg then .neq else .eql) t u v) : Sem Value).run P w = .ok (.bool (if neg then !b else b)) w := by
  obtain ⟨us, rfl, hus, _⟩ := hu.agg_inv
  obtain ⟨vs, rfl, hvs, _⟩ := hv.agg_inv
  obtain ⟨ti, hti⟩ := Option.isSome_iff_exists.1 hi
  have h0 := eqItems_run (P := P) (X := X) (γ := γ) (w := w) 9998 us.toArray vs.toArray hk n 0 as bs b (by simpa using hus) (by simpa using hvs) he
  have h1 : (Op.equalIn 10000 t (.agg us.toArray) (.agg vs.toArray)).run P w = .ok b w := by
    rw [run_equalIn_array w 9999 _ _ ht hti, hc, List.range_eq_range']; exact h0
  cases neg with
  | true => simp [run_eqGuard_agg w _ t x y _ _ hg, run_neq_struct, h1]
  | false => simp [run_eqGuard_agg w _ t x y _ _ hg, run_eql_struct, h1]

/-! ### the other operations that change nothing -/
theorem pick_sound {c : Bool} {p q : PV} {u v : Value} {E : Eff} (hp : Rep X γ w p u) (hq : Rep X γ w q v) (hE : pickV c p q = some E) (hs : allP E.side) :
    E.still ∧ Rep X γ w E.val (if c then u else v) := by
  unfold pickV at hE
  split at hE
  · injection hE with hE; subst hE
    cases hp.bool_inv; cases hq.bool_inv
    refine ⟨Eff.still_pure _, ?_⟩
    cases c <;> exact .bool _
  · injection hE with hE; subst hE
    have h1 := hs.1
    refine ⟨Eff.still_side _ _, ?_⟩
    cases hp.bool_inv
    cases c with
    | true => exact .bool _
    | false => cases (hq.cnd_inv (h1 rfl)).bool_inv; exact .bool _
  · injection hE with hE; subst hE
    have h1 := hs.1
    refine ⟨Eff.still_side _ _, ?_⟩
    cases hq.bool_inv
    cases c with
    | false => exact .bool _
    | true => cases (hp.cnd_inv (h1 rfl)).bool_inv; exact .bool _
  · injection hE with hE; subst hE
    have h1 := hs.1
    refine ⟨Eff.still_side _ _, ?_⟩
    subst h1
    cases hp.bool_inv
    exact .bool _
  · injection hE with hE; subst hE
    have h1 := hs.1
    refine ⟨Eff.still_side _ _, ?_⟩
    subst h1
    cases hq.bool_inv
    exact .bool _
  · injection hE with hE; subst hE
    obtain ⟨h1, h2⟩ := hs.1
    refine ⟨Eff.still_side _ _, ?_⟩
    cases c with
    | false => cases (hq.cnd_inv (h2 rfl)).bool_inv; exact .bool _
    | true => cases (hp.cnd_inv (h1 rfl)).bool_inv; exact .bool _
  · cases hE

theorem neg_sound {wr : Bool} {k : IntKind} {n : Int} {E : Eff} (hE : biI wr .sub k 0 n = some E) (hs : allP E.side) : Good P X γ w E (Op.unary .neg (.int k n)) := by
  have := biI_sound (P := P) (X := X) (γ := γ) (w := w) 0 hE hs
  simpa [Op.unary, binOp] using this

theorem add_plain (b o n : Nat) : (⟨b, o, none⟩ : Addr).add n = ⟨b, o + n, none⟩ := by unfold Addr.add; split <;> simp_all
theorem add_block (a : Addr) (n : Nat) : (a.add n).block = a.block := by unfold Addr.add; split <;> rfl
theorem add_add_ (a : Addr) (i j : Nat) : (a.add i).add j = a.add (i + j) := by
  unfold Addr.add
  by_cases hi : i = 0 <;> by_cases hj : j = 0 <;> simp [hi, hj, Nat.add_assoc]

theorem rp_drop {τ : Nat} {cs : List PV} {a : Addr} (h : Rep X γ w (.rp τ cs) (.pointer (some a))) (n : Nat) : Rep X γ w (.rp τ (cs.drop n)) (.pointer (some (a.add n))) := by
  cases h with
  | rp _ _ _ vs hf hb hc h =>
    refine .rp τ _ _ (fun k => vs (n + k)) (fun c hc => hf c (List.mem_of_mem_drop hc)) (fun hn => ?_) (fun k hk => ?_) (fun k c hk => ?_)
    · rw [add_block]; exact hb (by rintro rfl; simp at hn)
    · rw [add_add_]; exact hc _ (by simp at hk; omega)
    · exact h _ c (by simpa using hk)

theorem rp_inv {τ : Nat} {cs : List PV} {v : Value} (h : Rep X γ w (.rp τ cs) v) : ∃ a, v = .pointer (some a) := by cases h; exact ⟨_, rfl⟩
theorem pt_inv {r i j : Nat} {v : Value} (h : Rep X γ w (.pt r i j) v) : ∃ ge b, γ r = some ge ∧ ge.blk = some b ∧ v = .pointer (some ⟨b, i * ge.z + j, none⟩) := by
  cases h with | pt _ _ _ ge b hg hb => exact ⟨ge, b, hg, hb, rfl⟩
theorem os_inv {r : Nat} {v : Value} (h : Rep X γ w (.os r) v) : ∃ ge, γ r = some ge ∧ v = ge.hdr := by
  cases h with | os _ ge hg _ => exact ⟨ge, hg, rfl⟩

theorem fa_sound {s : TypeId} {fs : Array Field} {k : Nat} {f : Field} {p q : PV} {u : Value} (hs : P.underlying s = some (.struct fs)) (hf : fs[k]? = some f) (hz : 0 < P.cellsOf f.type)
    (hp : Rep X γ w p u) (hq : (match p with | .pt r i j => some (PV.pt r i (j + f.offset)) | .rp τ cs => some (.rp τ (cs.drop f.offset)) | _ => none) = some q) :
    ∃ v, (Instr.fieldAt s u k).run P w = .ok v w ∧ Rep X γ w q v := by
  obtain ⟨i, hi, hsz⟩ := info_of_size hz
  have hrun : ∀ a : Addr, (Instr.fieldAt s (.pointer (some a)) k).run P w = .ok (.pointer (some (a.add f.offset))) w := fun a => by
    have h0 : ¬ P.cellsOf f.type = 0 := by omega
    simp [Instr.fieldAt, run_underlying hs, hf, Instr.sureAddr, fieldPlace, run_sizeOf w hi, h0]
  cases p with
  | pt r i j =>
    simp only [Option.some.injEq] at hq; subst hq
    obtain ⟨ge, b, hg, hb, rfl⟩ := pt_inv hp
    refine ⟨_, hrun _, ?_⟩
    rw [add_plain, Nat.add_assoc]
    exact .pt r i _ ge b hg hb
  | rp τ cs =>
    simp only [Option.some.injEq] at hq; subst hq
    obtain ⟨a, rfl⟩ := rp_inv hp
    exact ⟨_, hrun _, rp_drop hp _⟩
  | _ => cases hq

theorem asV_false {n : Nat} {cs : List PV} {p : PV} (h : asV n false cs = some p) : n = 1 ∧ cs = [p] := by
  unfold asV at h
  simp only [Bool.false_eq_true, if_false] at h
  split at h
  · rename_i hn
    cases cs with
    | nil => cases h
    | cons c cs => cases cs with
      | nil => simp only [Option.some.injEq] at h; subst h; exact ⟨by simpa using hn.symm, rfl⟩
      | cons _ _ => cases h
  · cases h

theorem part_sound {t : TypeId} {g : Bool} {cs : List PV} {us : List Value} {off : Nat} {p : PV} (hg : isAggO P t = some g) (hr : RepL X γ w cs us) (h1 : ∀ u ∈ us, u.oneCell' = true)
    (hp : asV (P.cellsOf t) g ((cs.drop off).take (P.cellsOf t)) = some p) : ∃ v, (part t us.toArray off).run P w = .ok v w ∧ Rep X γ w p v := by
  obtain ⟨i, hi, hs⟩ := info_of_agg hg
  obtain ⟨hl, hrep⟩ := asV_rep ((hr.drop off).take _) (fun u hu => h1 u (List.mem_of_mem_drop (List.mem_of_mem_take hu))) hp
  cases g with
  | true =>
    simp only [if_true] at hrep
    refine ⟨_, by simp [part, run_isAgg_ hg, run_sizeOf w hi]; rfl, ?_⟩
    exact hrep
  | false =>
    simp only [Bool.false_eq_true, if_false] at hrep
    have h1n : P.cellsOf t = 1 := (asV_false hp).1
    rw [h1n] at hl hrep
    have hlt : off < us.length := by simp at hl; omega
    have he : us[off]? = some us[off] := List.getElem?_eq_getElem hlt
    refine ⟨us[off], by simp [part, run_isAgg_ hg, he], ?_⟩
    have : ((us.drop off).take 1).getD 0 undef = us[off] := by
      simp [List.getD, he]
    rwa [this] at hrep

theorem ld_rp_sound {t : TypeId} {g : Bool} {τ : Nat} {cs : List PV} {u : Value} {p : PV} (hg : isAggO P t = some g) (hr : Rep X γ w (.rp τ cs) u)
    (hp : asV (P.cellsOf t) g ((cs.take (P.cellsOf t)).map (PV.mark τ)) = some p) : ∃ v, (Instr.loadAt t u).run P w = .ok v w ∧ Rep X γ w p v := by
  cases hr with
  | rp _ _ a vs hf hb hc h =>
    have hl : ((cs.take (P.cellsOf t)).map (PV.mark τ)).length = P.cellsOf t := by
      unfold asV at hp; split at hp
      · assumption
      · cases hp
    have hle : P.cellsOf t ≤ cs.length := by simp at hl; omega
    have hR : RepL X γ w ((cs.take (P.cellsOf t)).map (PV.mark τ)) ((List.range (P.cellsOf t)).map vs) := by
      refine ⟨by rw [hl]; simp, fun k c u hk hu => ?_⟩
      rw [List.getElem?_map] at hk
      obtain ⟨c0, h0, rfl⟩ := Option.map_eq_some_iff.1 hk
      rw [List.getElem?_take] at h0
      split at h0
      · rename_i hlt
        simp [hlt] at hu
        subst hu
        exact h k c0 h0
      · cases h0
    have h1 : ∀ u ∈ (List.range (P.cellsOf t)).map vs, u.oneCell' = true := by
      intro u hu
      obtain ⟨k, hk, rfl⟩ := List.mem_map.1 hu
      have hk' : k < cs.length := by have := List.mem_range.1 hk; omega
      have hcell := h k cs[k] (List.getElem?_eq_getElem hk')
      have hfl := hf cs[k] (List.getElem_mem hk')
      refine hcell.one_ ?_
      generalize cs[k] = c at hfl
      cases c <;> simp_all [PV.flat, PV.mark, PV.one]
    obtain ⟨hl', hrep⟩ := asV_rep hR h1 hp
    refine ⟨_, run_loadAt_ hg hl' (fun h0 => ?_) (fun k u hu => ?_), hrep⟩
    · subst h0
      rw [hl']; exact (asV_false hp).1
    · have hk : k < P.cellsOf t := by have := (List.getElem?_eq_some_iff.1 hu).1; simpa using this
      have := hc k (by omega)
      simp [hk] at hu
      rw [this, hu]

theorem toNat_of (i : Int) (h : 0 ≤ i) : ((i.toNat : Nat) : Int) = i := Int.toNat_of_nonneg h

theorem indexAt_slice {t e : TypeId} {a : Addr} {n cap : Nat} {k : IntKind} {i : Int} (ht : P.underlying t = some (.slice e)) (hz : 0 < P.cellsOf e) (h0 : 0 ≤ i) (h1 : i.toNat < n) :
    (Instr.indexAt t (.slice (some a) n cap) (.int k i)).run P w = .ok (.pointer (some (a.add (i.toNat * P.cellsOf e)))) w := by
  obtain ⟨inf, hi, hs⟩ := info_of_size hz
  have h2 : i < n := by omega
  simp [Instr.indexAt, asIntOf, run_underlying ht, h0, h2, run_sizeOf w hi]

theorem ia_sl_sound {t e : TypeId} {τ n : Nat} {f : Nat → List PV} {u : Value} {k : IntKind} {i : Int} (ht : P.underlying t = some (.slice e)) (hz : 0 < P.cellsOf e)
    (hp : Rep X γ w (.sl τ (P.cellsOf e) n f) u) (h0 : 0 ≤ i) (h1 : i.toNat < n) :
    ∃ v, (Instr.indexAt t u (.int k i)).run P w = .ok v w ∧ Rep X γ w (.rp τ (f i.toNat)) v := by
  cases hp with
  | sl _ _ _ _ ad cap vs hcap hzz hf hb h =>
    obtain ⟨a, rfl, hm, hlt, hc⟩ := hb (by omega)
    refine ⟨_, indexAt_slice ht hz h0 h1, .rp τ _ _ (fun k => vs (i.toNat * P.cellsOf e + k)) (hf _ h1) (fun _ => by rw [add_block]; exact ⟨hm, hlt⟩) (fun k hk => ?_) (fun k c hk => h _ k c h1 hk)⟩
    rw [add_add_]
    refine hc _ ?_
    rw [hzz _ h1] at hk
    calc i.toNat * P.cellsOf e + k < i.toNat * P.cellsOf e + P.cellsOf e := by omega
      _ = (i.toNat + 1) * P.cellsOf e := by rw [Nat.add_mul]; omega
      _ ≤ n * P.cellsOf e := Nat.mul_le_mul_right _ h1

theorem iaa_sound {t e : TypeId} {len : Nat} {p q : PV} {u : Value} {k : IntKind} {i : Int} (ht : P.underlying t = some (.array len e)) (hz : 0 < P.cellsOf e)
    (hp : Rep X γ w p u) (h0 : 0 ≤ i) (h1 : i.toNat < len)
    (hq : (match p with | .pt r a b => some (PV.pt r a (b + i.toNat * P.cellsOf e)) | .rp τ cs => some (.rp τ (cs.drop (i.toNat * P.cellsOf e))) | _ => none) = some q) :
    ∃ v, (Instr.indexAt t u (.int k i)).run P w = .ok v w ∧ Rep X γ w q v := by
  obtain ⟨inf, hi, hs⟩ := info_of_size hz
  have h2 : i < len := by omega
  have hrun : ∀ a : Addr, (Instr.indexAt t (.pointer (some a)) (.int k i)).run P w = .ok (.pointer (some (a.add (i.toNat * P.cellsOf e)))) w := fun a => by
    simp [Instr.indexAt, asIntOf, run_underlying ht, h0, h2, run_sizeOf w hi, Instr.sureAddr]
  cases p with
  | pt r a b =>
    simp only [Option.some.injEq] at hq; subst hq
    obtain ⟨ge, bl, hg, hb, rfl⟩ := pt_inv hp
    refine ⟨_, hrun _, ?_⟩
    rw [add_plain, Nat.add_assoc]
    exact .pt r a _ ge bl hg hb
  | rp τ cs =>
    simp only [Option.some.injEq] at hq; subst hq
    obtain ⟨a, rfl⟩ := rp_inv hp
    exact ⟨_, hrun _, rp_drop hp _⟩
  | _ => cases hq

theorem max_run : ∀ (k : IntKind) (m : Int) (ps : List PV) (us : List Value) (p : PV), RepL X γ w ps us → maxV k m ps = some p →
    ∃ v, (us.foldlM Builtin.max2 (.int k m) : Sem Value).run P w = .ok v w ∧ Rep X γ w p v
  | k, m, [], us, p, h, hp => by
    cases h.nil_inv
    simp only [maxV, Option.some.injEq] at hp; subst hp
    exact ⟨_, by simp, .int _ _⟩
  | k, m, q :: ps, us, p, h, hp => by
    cases q <;> simp only [maxV] at hp <;> (try cases hp)
    rename_i k' n
    obtain ⟨u, us', rfl, hu, hus⟩ := h.cons_inv
    cases hu.int_inv
    split at hp
    · obtain ⟨v, hv, hr⟩ := max_run k _ ps us' p hus hp
      exact ⟨v, by simp [Builtin.max2]; exact hv, hr⟩
    · cases hp
theorem min_run : ∀ (k : IntKind) (m : Int) (ps : List PV) (us : List Value) (p : PV), RepL X γ w ps us → minV k m ps = some p →
    ∃ v, (us.foldlM Builtin.min2 (.int k m) : Sem Value).run P w = .ok v w ∧ Rep X γ w p v
  | k, m, [], us, p, h, hp => by
    cases h.nil_inv
    simp only [minV, Option.some.injEq] at hp; subst hp
    exact ⟨_, by simp, .int _ _⟩
  | k, m, q :: ps, us, p, h, hp => by
    cases q <;> simp only [minV] at hp <;> (try cases hp)
    rename_i k' n
    obtain ⟨u, us', rfl, hu, hus⟩ := h.cons_inv
    cases hu.int_inv
    split at hp
    · obtain ⟨v, hv, hr⟩ := min_run k _ ps us' p hus hp
      exact ⟨v, by simp [Builtin.min2]; exact hv, hr⟩
    · cases hp
end
end Pv
end Go.Proofs.Ytogoplhikmmggaa
