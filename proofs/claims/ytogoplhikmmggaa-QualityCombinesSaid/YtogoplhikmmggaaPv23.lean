/- SMALL THINGS that every walk uses. -/
import Derived.Test.YtogoplhikmmggaaPv22
set_option linter.unusedSimpArgs false
set_option linter.unusedVariables false
namespace Go.Proofs.Ytogoplhikmmggaa
namespace Pv

/-- The greater, the lesser: as the evaluator puts them. -/
def mx (a b : Int) : Int := if b > a then b else a
def mn (a b : Int) : Int := if b < a then b else a
theorem mx_eq (a b : Int) : mx a b = max a b := by unfold mx; split <;> omega
theorem mn_eq (a b : Int) : mn a b = min a b := by unfold mn; split <;> omega

theorem inR64 (n : Int) : inR .i64 n ↔ -9223372036854775808 ≤ n ∧ n ≤ 9223372036854775807 := by
  unfold inR; simp [IntKind.min, IntKind.max, IntKind.signed, IntKind.bits]
theorem inR64_of {n : Int} (h1 : -9223372036854775808 ≤ n) (h2 : n ≤ 9223372036854775807) : inR .i64 n := (inR64 n).2 ⟨h1, h2⟩
theorem mul_rng {a b A B : Int} (h0 : 0 ≤ a) (h1 : a ≤ A) (h2 : 0 ≤ b) (h3 : b ≤ B) : 0 ≤ a * b ∧ a * b ≤ A * B :=
  ⟨Int.mul_nonneg h0 h2, Int.mul_le_mul h1 h3 h2 (by omega)⟩

/-- Lists as slices: the i-th element's cells. -/
def fl {α : Type} [Inhabited α] (e : α → List PV) (l : List α) : Nat → List PV := fun i => e (l.getD i default)

theorem fl_append {α : Type} [Inhabited α] (e : α → List PV) (l l' : List α) : RowEq (l.length + l'.length) (appF l.length (fl e l) (fl e l')) (fl e (l ++ l')) := fun i hi => by
  unfold appF fl
  split
  · rename_i h; rw [List.getD_eq_getElem?_getD, List.getD_eq_getElem?_getD, List.getElem?_append_left h]
  · rename_i h; rw [List.getD_eq_getElem?_getD, List.getD_eq_getElem?_getD, List.getElem?_append_right (by omega)]
theorem fl_push {α : Type} [Inhabited α] (e : α → List PV) (l : List α) (x : α) : RowEq (l.length + 1) (appF l.length (fl e l) (fun i => [e x].getD i [])) (fl e (l ++ [x])) := fun i hi => by
  have := fl_append e l [x] i (by simpa using hi)
  rw [← this]
  unfold appF
  split
  · rfl
  · rename_i h
    have : i - l.length = 0 := by omega
    simp [this, fl]
theorem leF_cons {fr : Nat → Option PV} {st : Nat → Option SE} {kp : Nat → Bool} {t : Nat} {p p' : PV} {l : List (Nat × PV)} (h : fr t = some p) (h1 : PLe st kp p p') (h2 : leF fr st kp l) : leF fr st kp ((t, p') :: l) :=
  ⟨by rw [h]; exact h1, h2⟩
theorem leS_cons {st : Nat → Option SE} {kp : Nat → Bool} {t : Nat} {p p' : SE} {l : List (Nat × SE)} (h : st t = some p) (h1 : SLe st kp p p') (h2 : leS st kp l) : leS st kp ((t, p') :: l) :=
  ⟨by rw [h]; exact h1, h2⟩
theorem getD_mem {α : Type} [Inhabited α] {l : List α} {i : Nat} (h : i < l.length) : l.getD i default ∈ l := by
  rw [List.getD_eq_getElem?_getD, List.getElem?_eq_getElem h]; exact List.getElem_mem h
theorem getD_some {α : Type} [Inhabited α] {l : List α} {i : Nat} (h : i < l.length) : l[i]? = some (l.getD i default) := by
  rw [List.getD_eq_getElem?_getD, List.getElem?_eq_getElem h]; rfl
/-- A contract holds of arguments that say more. -/
theorem PureCall.arg_le {P : Program} {f : FuncId} {args args' : List PV} {bs : List SE} {c : CallRes} (h : PureCall P f args' bs c) (hb : bs.any SE.isRow = false) (hl : PLeL (fun r => bs[r]?) (fun _ => true) args args') : PureCall P f args bs c := by
  refine ⟨h.1, fun w γ as ls vals hst hX ha => h.2 w γ as ls vals hst hX ?_⟩
  refine ha.le hst (fun r ge b τ e z n f hr hs hbk => ?_) (fun r ge hr _ => hr) (fun r ge hr => ⟨hr, rfl⟩) hl
  have := List.any_eq_false.1 hb _ (List.mem_of_getElem? hs)
  simp [SE.isRow] at this

/-- The first number that is not 0. -/
def scan (f : Nat → Int) : Nat → Nat → Int
  | _, 0 => 0
  | i, n + 1 => if f i ≠ 0 then f i else scan f (i + 1) n
theorem scan_zero {f : Nat → Int} : ∀ {i n : Nat}, scan f i n = 0 → ∀ k, i ≤ k → k < i + n → f k = 0
  | i, 0, _, k, h1, h2 => by omega
  | i, n + 1, h, k, h1, h2 => by
    simp only [scan] at h
    split at h
    · rename_i hf; exact absurd h hf
    · rename_i hf
      by_cases hk : k = i
      · subst hk; exact Classical.not_not.1 hf
      · exact scan_zero h k (by omega) (by omega)
theorem scan_hit {f : Nat → Int} {i n : Nat} (hn : 0 < n) (h : f i ≠ 0) : scan f i n = f i := by
  cases n with
  | zero => omega
  | succ n => simp [scan, h]
theorem scan_step {f : Nat → Int} {i n : Nat} (hn : 0 < n) (h : f i = 0) : scan f i n = scan f (i + 1) (n - 1) := by
  cases n with
  | zero => omega
  | succ n => simp [scan, h]

theorem rowEq0 (f f' : Nat → List PV) : RowEq 0 f f' := fun i hi => absurd hi (Nat.not_lt_zero i)
theorem maxLen_ge {n : Nat} (h : n ≤ 4611686018427387904) : n ≤ maxLen := Nat.le_trans h (by decide)
theorem dec_iff {p : Prop} [Decidable p] {b : Bool} (h : decide p = b) : if b then p else ¬ p := by
  cases b <;> simpa using h
end Pv
end Go.Proofs.Ytogoplhikmmggaa
